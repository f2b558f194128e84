/-
  Checksums, in plain bit vectors: linearity, bursts, a sum behind what it is of. No program is named here.
-/
import Derived.Test.YtfdkodcnbjmlbaaK
namespace Go.Proofs.Ytfdkodcnbjmlbaa

def stp {w : Nat} (p s : BitVec w) : BitVec w := if s.msb then (s <<< 1) ^^^ p else s <<< 1
theorem xor_swap4 {w : Nat} (a b p : BitVec w) : a ^^^ b = (a ^^^ p) ^^^ (b ^^^ p) := by
  ext i; simp; cases a[i] <;> cases b[i] <;> cases p[i] <;> rfl
theorem stp_xor {w : Nat} (p a b : BitVec w) : stp p (a ^^^ b) = stp p a ^^^ stp p b := by
  unfold stp
  rw [BitVec.msb_xor, BitVec.shiftLeft_xor_distrib]
  cases a.msb <;> cases b.msb <;> simp
  · ac_rfl
  · ac_rfl
  · exact xor_swap4 _ _ _
theorem stp_zero {w : Nat} (p : BitVec w) : stp p 0#w = 0#w := by unfold stp; simp
def stpN {w : Nat} (p : BitVec w) : Nat → BitVec w → BitVec w
  | 0, s => s
  | n + 1, s => stp p (stpN p n s)
theorem stpN_xor {w : Nat} (p : BitVec w) (n : Nat) (a b : BitVec w) : stpN p n (a ^^^ b) = stpN p n a ^^^ stpN p n b := by
  induction n with
  | zero => rfl
  | succ n ih => simp only [stpN, ih, stp_xor]
theorem stpN_zero {w : Nat} (p : BitVec w) (n : Nat) : stpN p n 0#w = 0#w := by
  induction n with
  | zero => rfl
  | succ n ih => simp only [stpN, ih, stp_zero]
theorem stpN_add {w : Nat} (p : BitVec w) (n m : Nat) (s : BitVec w) : stpN p (n + m) s = stpN p n (stpN p m s) := by
  induction n with
  | zero => simp [stpN]
  | succ n ih => rw [Nat.succ_add, stpN, stpN, ih]
def stpR {w : Nat} (p s : BitVec w) : BitVec w := if s.getLsbD 0 then (s >>> 1) ^^^ p else s >>> 1
theorem stpR_xor {w : Nat} (p a b : BitVec w) : stpR p (a ^^^ b) = stpR p a ^^^ stpR p b := by
  unfold stpR
  rw [BitVec.getLsbD_xor, BitVec.ushiftRight_xor_distrib]
  cases a.getLsbD 0 <;> cases b.getLsbD 0 <;> simp
  · ac_rfl
  · ac_rfl
  · exact xor_swap4 _ _ _
theorem stp_toNat {w : Nat} (p s : BitVec (w + 1)) : (stp p s).toNat = if s.toNat / 2 ^ w = 1 then (s.toNat * 2 % 2 ^ (w + 1)) ^^^ p.toNat else s.toNat * 2 % 2 ^ (w + 1) := by
  have hs := s.isLt
  unfold stp
  rw [BitVec.msb_eq_decide]
  simp only [Nat.add_sub_cancel]
  have hp : 2 ^ (w + 1) = 2 * 2 ^ w := by rw [Nat.pow_succ]; omega
  have hpos : 0 < 2 ^ w := Nat.two_pow_pos w
  have hd : (s.toNat / 2 ^ w = 1) ↔ 2 ^ w ≤ s.toNat := by
    constructor
    · intro h
      have := Nat.div_mul_le_self s.toNat (2 ^ w)
      rw [h] at this; omega
    · intro h
      have h1 : s.toNat / 2 ^ w < 2 := by rw [Nat.div_lt_iff_lt_mul hpos]; omega
      have h2 : 1 ≤ s.toNat / 2 ^ w := by rw [Nat.le_div_iff_mul_le hpos]; omega
      omega
  by_cases h : 2 ^ w ≤ s.toNat
  · rw [if_pos (by simpa using h), if_pos (hd.2 h), BitVec.toNat_xor, BitVec.toNat_shiftLeft, Nat.shiftLeft_eq]
  · rw [if_neg (by simpa using h), if_neg (fun e => h (hd.1 e)), BitVec.toNat_shiftLeft, Nat.shiftLeft_eq]
theorem stpR_toNat {w : Nat} (p s : BitVec w) : (stpR p s).toNat = if s.toNat % 2 = 1 then (s.toNat / 2) ^^^ p.toNat else s.toNat / 2 := by
  unfold stpR
  have hb : s.getLsbD 0 = decide (s.toNat % 2 = 1) := by
    simp [BitVec.getLsbD, Nat.testBit_zero]
  rw [hb]
  by_cases h : s.toNat % 2 = 1
  · simp [h, Nat.shiftRight_eq_div_pow]
  · simp [h, Nat.shiftRight_eq_div_pow]

def stpRN {w : Nat} (p : BitVec w) : Nat → BitVec w → BitVec w
  | 0, s => s
  | n + 1, s => stpR p (stpRN p n s)
theorem stpRN_xor {w : Nat} (p : BitVec w) (n : Nat) (a b : BitVec w) : stpRN p n (a ^^^ b) = stpRN p n a ^^^ stpRN p n b := by
  induction n with
  | zero => rfl
  | succ n ih => simp only [stpRN, ih, stpR_xor]
theorem stpRN_add {w : Nat} (p : BitVec w) (n m : Nat) (s : BitVec w) : stpRN p (n + m) s = stpRN p n (stpRN p m s) := by
  induction n with
  | zero => simp [stpRN]
  | succ n ih => rw [Nat.succ_add, stpRN, stpRN, ih]
def in8 (s : BitVec 8) (c : BitVec 8) : BitVec 8 := stpN 7#8 8 (s ^^^ c)
def in16 (s : BitVec 16) (c : BitVec 8) : BitVec 16 := stpN 0x8005#16 8 (s ^^^ (c.setWidth 16 <<< 8))
def in32 (s : BitVec 32) (c : BitVec 8) : BitVec 32 := stpRN 0xedb88320#32 8 (s ^^^ c.setWidth 32)
def run8 (s : BitVec 8) (l : List (BitVec 8)) : BitVec 8 := l.foldl in8 s
def run16 (s : BitVec 16) (l : List (BitVec 8)) : BitVec 16 := l.foldl in16 s
def run32 (s : BitVec 32) (l : List (BitVec 8)) : BitVec 32 := l.foldl in32 s
def bv (l : List Int) : List (BitVec 8) := l.map (BitVec.ofInt 8)
def crc8 (l : List Int) : BitVec 8 := run8 0 (bv l)
def crc16 (l : List Int) : BitVec 16 := run16 0 (bv l)
def crc32 (l : List Int) : BitVec 32 := ~~~ (run32 0xffffffff#32 (bv l))
theorem bv_append (a b : List Int) : bv (a ++ b) = bv a ++ bv b := by simp [bv]

/-! xor of rows -/
def xorL (a b : List (BitVec 8)) : List (BitVec 8) := a.zipWith (· ^^^ ·) b
theorem xor_mid {w : Nat} (a b c d : BitVec w) : (a ^^^ b) ^^^ (c ^^^ d) = (a ^^^ c) ^^^ (b ^^^ d) := by ac_rfl
theorem in8_xor (s t : BitVec 8) (c d : BitVec 8) : in8 (s ^^^ t) (c ^^^ d) = in8 s c ^^^ in8 t d := by
  unfold in8; rw [← stpN_xor, xor_mid]
theorem in16_xor (s t : BitVec 16) (c d : BitVec 8) : in16 (s ^^^ t) (c ^^^ d) = in16 s c ^^^ in16 t d := by
  unfold in16; rw [BitVec.setWidth_xor, BitVec.shiftLeft_xor_distrib, ← stpN_xor, xor_mid]
theorem in32_xor (s t : BitVec 32) (c d : BitVec 8) : in32 (s ^^^ t) (c ^^^ d) = in32 s c ^^^ in32 t d := by
  unfold in32; rw [BitVec.setWidth_xor, ← stpRN_xor, xor_mid]
theorem run8_xor : ∀ (a b : List (BitVec 8)) (s t : BitVec 8), a.length = b.length → run8 (s ^^^ t) (xorL a b) = run8 s a ^^^ run8 t b
  | [], [], _, _, _ => rfl
  | c :: a, d :: b, s, t, h => by
    have := run8_xor a b (in8 s c) (in8 t d) (by simpa using h)
    simp only [run8, xorL, List.zipWith_cons_cons, List.foldl_cons, in8_xor] at this ⊢
    exact this
theorem run16_xor : ∀ (a b : List (BitVec 8)) (s t : BitVec 16), a.length = b.length → run16 (s ^^^ t) (xorL a b) = run16 s a ^^^ run16 t b
  | [], [], _, _, _ => rfl
  | c :: a, d :: b, s, t, h => by
    have := run16_xor a b (in16 s c) (in16 t d) (by simpa using h)
    simp only [run16, xorL, List.zipWith_cons_cons, List.foldl_cons, in16_xor] at this ⊢
    exact this
theorem run32_xor : ∀ (a b : List (BitVec 8)) (s t : BitVec 32), a.length = b.length → run32 (s ^^^ t) (xorL a b) = run32 s a ^^^ run32 t b
  | [], [], _, _, _ => rfl
  | c :: a, d :: b, s, t, h => by
    have := run32_xor a b (in32 s c) (in32 t d) (by simpa using h)
    simp only [run32, xorL, List.zipWith_cons_cons, List.foldl_cons, in32_xor] at this ⊢
    exact this

/-! a sum behind what it is of -/
theorem behind8 (l : List (BitVec 8)) : run8 0 (l ++ [run8 0 l]) = 0 := by
  have h : ∀ s : BitVec 8, in8 s s = 0#8 := fun s => by unfold in8; rw [BitVec.xor_self, stpN_zero]
  simp only [run8, List.foldl_append, List.foldl_cons, List.foldl_nil]
  exact h _
theorem in16_hi (s : BitVec 16) : in16 s ((s >>> 8).setWidth 8) = s <<< 8 := by
  have h : ∀ t : BitVec 8, stpN 0x8005#16 8 (t.setWidth 16) = t.setWidth 16 <<< 8 := by decide +kernel
  have e : s ^^^ (((s >>> 8).setWidth 8).setWidth 16 <<< 8) = (s.setWidth 8).setWidth 16 := by
    apply BitVec.eq_of_getLsbD_eq
    intro i hi
    simp only [BitVec.getLsbD_xor, BitVec.getLsbD_shiftLeft, BitVec.getLsbD_setWidth, BitVec.getLsbD_ushiftRight]
    by_cases h8 : i < 8
    · simp [h8, hi]
    · have h9 : i - 8 < 8 := by omega
      simp [h8, hi, show 8 + (i - 8) = i by omega, h9]; omega
  unfold in16
  rw [e, h]
  apply BitVec.eq_of_getLsbD_eq
  intro i hi
  simp only [BitVec.getLsbD_shiftLeft, BitVec.getLsbD_setWidth]
  by_cases h8 : i < 8
  · simp [h8, hi]
  · simp [h8, hi, show i - 8 < 8 by omega]; omega
theorem behind16 (l : List (BitVec 8)) : run16 0 (l ++ [((run16 0 l) >>> 8).setWidth 8, (run16 0 l).setWidth 8]) = 0 := by
  have h2 : ∀ s : BitVec 16, in16 (s <<< 8) (s.setWidth 8) = 0 := fun s => by
    unfold in16
    have e : s <<< 8 ^^^ (s.setWidth 8).setWidth 16 <<< 8 = 0#16 := by
      apply BitVec.eq_of_getLsbD_eq
      intro i hi
      simp only [BitVec.getLsbD_xor, BitVec.getLsbD_shiftLeft, BitVec.getLsbD_setWidth]
      by_cases h8 : i < 8
      · simp [h8, hi]
      · simp [h8, hi, show i - 8 < 8 by omega]; omega
    rw [e, stpN_zero]; rfl
  simp only [run16, List.foldl_append, List.foldl_cons, List.foldl_nil]
  rw [in16_hi, h2]
theorem in32_step (s z : BitVec 32) : in32 s (z.setWidth 8) = stpRN 0xedb88320#32 8 (s ^^^ z) ^^^ (z >>> 8) := by
  have h0 : ∀ t : BitVec 32, t.getLsbD 0 = false → stpR 0xedb88320#32 t = t >>> 1 := fun t h => by unfold stpR; rw [h]; rfl
  have h1 : ∀ n, n ≤ 8 → ∀ t : BitVec 32, (∀ i, i < n → t.getLsbD i = false) → stpRN 0xedb88320#32 n t = t >>> n := by
    intro n
    induction n with
    | zero => intro _ t _; simp [stpRN]
    | succ n ih =>
      intro hn t ht
      rw [stpRN, ih (by omega) t (fun i hi => ht i (by omega)), h0 _ (by simp [ht n (by omega)])]
      rw [BitVec.shiftRight_add]
  have e : (z.setWidth 8).setWidth 32 = z ^^^ (z >>> 8) <<< 8 := by
    apply BitVec.eq_of_getLsbD_eq
    intro i hi
    simp only [BitVec.getLsbD_xor, BitVec.getLsbD_shiftLeft, BitVec.getLsbD_setWidth, BitVec.getLsbD_ushiftRight]
    by_cases h8 : i < 8
    · simp [h8, hi]
    · simp [h8, hi, show 8 + (i - 8) = i by omega]
  unfold in32
  rw [e, show (s ^^^ (z ^^^ (z >>> 8) <<< 8)) = (s ^^^ z) ^^^ ((z >>> 8) <<< 8) by ac_rfl, stpRN_xor]
  congr 1
  rw [h1 8 (Nat.le_refl _) _ (fun i hi => by simp [hi])]
  apply BitVec.eq_of_getLsbD_eq
  intro i hi
  simp only [BitVec.getLsbD_shiftLeft, BitVec.getLsbD_ushiftRight]
  by_cases h24 : 8 + i < 32
  · simp [h24]
  · simp [h24]; rw [BitVec.getLsbD_of_ge _ _ (by omega)]
theorem behind32 (l : List (BitVec 8)) (s z : BitVec 32) (hs : run32 0xffffffff#32 l = s) (hz : z = ~~~ s) :
    ~~~ (run32 0xffffffff#32 (l ++ [z.setWidth 8, (z >>> 8).setWidth 8, (z >>> 16).setWidth 8, (z >>> 24).setWidth 8])) = 0x2144df1c#32 := by
  subst hs
  have hsz : ∀ s : BitVec 32, s ^^^ ~~~ s = 0xffffffff#32 := fun s => by
    apply BitVec.eq_of_getLsbD_eq
    intro i hi
    rw [BitVec.getLsbD_xor, BitVec.getLsbD_not]
    have : (0xffffffff#32 : BitVec 32) = BitVec.allOnes 32 := by decide
    rw [this, BitVec.getLsbD_allOnes]
    cases (s.getLsbD i) <;> simp [hi]
  have hc : ∀ a b : BitVec 32, in32 (a ^^^ b) ((b).setWidth 8) = stpRN 0xedb88320#32 8 a ^^^ (b >>> 8) := fun a b => by
    rw [in32_step, BitVec.xor_assoc, BitVec.xor_self, BitVec.xor_zero]
  have e0 : run32 0xffffffff#32 l = 0xffffffff#32 ^^^ z := by
    rw [hz]
    have := hsz (run32 0xffffffff#32 l)
    generalize run32 0xffffffff#32 l = t at *
    rw [← this, BitVec.xor_assoc, BitVec.xor_self, BitVec.xor_zero]
  rw [show run32 0xffffffff#32 (l ++ [z.setWidth 8, (z >>> 8).setWidth 8, (z >>> 16).setWidth 8, (z >>> 24).setWidth 8]) = in32 (in32 (in32 (in32 (run32 0xffffffff#32 l) (z.setWidth 8)) ((z >>> 8).setWidth 8)) ((z >>> 16).setWidth 8)) ((z >>> 24).setWidth 8) by simp [run32]]
  rw [e0, hc, hc, show z >>> 8 >>> 8 = z >>> 16 by rw [← BitVec.shiftRight_add], hc, show z >>> 16 >>> 8 = z >>> 24 by rw [← BitVec.shiftRight_add], hc, show z >>> 24 >>> 8 = 0#32 by
    rw [← BitVec.shiftRight_add]
    apply BitVec.eq_of_getLsbD_eq
    intro i hi
    rw [BitVec.getLsbD_ushiftRight, BitVec.getLsbD_of_ge _ _ (by omega)]; simp]
  decide +kernel

/-! bit by bit -/
def one1 (w : Nat) (b : Bool) : BitVec w := if b then BitVec.intMin w else 0#w
def feed {w : Nat} (p s : BitVec w) (b : Bool) : BitVec w := stp p (s ^^^ one1 w b)
def wrd (w : Nat) : List Bool → BitVec w
  | [] => 0#w
  | b :: r => one1 w b ^^^ (wrd w r) >>> 1
theorem wrd_low {w : Nat} : ∀ (l : List Bool), l.length ≤ w → ∀ i, i < w - l.length → (wrd w l).getLsbD i = false
  | [], _, i, _ => by simp [wrd]
  | b :: r, h, i, hi => by
    simp only [List.length_cons] at h hi
    have h1 := wrd_low (w := w) r (by omega) (1 + i) (by omega)
    have h2 : (one1 w b).getLsbD i = false := by
      unfold one1
      cases b
      · simp
      · simp [BitVec.getLsbD_intMin]; omega
    rw [wrd, BitVec.getLsbD_xor, BitVec.getLsbD_ushiftRight, h1, h2]; rfl
theorem stp_shr {w : Nat} (p m : BitVec w) (hw : 0 < w) (h : m.getLsbD 0 = false) : stp p (m >>> 1) = m := by
  have h0 : (m >>> 1).msb = false := by
    rw [BitVec.msb_eq_getLsbD_last, BitVec.getLsbD_ushiftRight, BitVec.getLsbD_of_ge _ _ (by omega)]
  unfold stp
  rw [h0]
  apply BitVec.eq_of_getLsbD_eq
  intro i hi
  simp only [Bool.false_eq_true, if_false, BitVec.getLsbD_shiftLeft, BitVec.getLsbD_ushiftRight]
  by_cases h8 : i < 1
  · have : i = 0 := by omega
    subst this; simp [h]
  · simp [h8, hi, show 1 + (i - 1) = i by omega]
theorem feed_all {w : Nat} (p : BitVec w) : ∀ (l : List Bool), l.length ≤ w → ∀ s, l.foldl (feed p) s = stpN p l.length (s ^^^ wrd w l)
  | [], _, s => by simp [wrd, stpN]
  | b :: r, h, s => by
    simp only [List.length_cons] at h
    have hs := stp_shr p (wrd w r) (by omega) (wrd_low r (by omega) 0 (by omega))
    rw [List.foldl_cons, feed_all p r (by omega), List.length_cons, stpN_add p r.length 1]
    congr 1
    show _ = stp p (stpN p 0 _)
    rw [stpN, wrd, ← BitVec.xor_assoc, stp_xor, hs]; rfl
theorem stp_inj0 {w : Nat} {p s : BitVec w} (hp : p.getLsbD 0 = true) (h : stp p s = 0#w) : s = 0#w := by
  unfold stp at h
  cases hm : s.msb with
  | true =>
    rw [hm] at h
    have := congrArg (fun t => t.getLsbD 0) h
    simp [hp] at this
  | false =>
    rw [hm] at h
    apply BitVec.eq_of_getLsbD_eq
    intro i hi
    by_cases e : i = w - 1
    · subst e; rw [BitVec.msb_eq_getLsbD_last] at hm; simp [hm]
    · have := congrArg (fun t => t.getLsbD (i + 1)) h
      simp at this
      simp; exact this (by omega)
theorem stpN_inj0 {w : Nat} {p : BitVec w} (hp : p.getLsbD 0 = true) : ∀ {n : Nat} {s : BitVec w}, stpN p n s = 0#w → s = 0#w
  | 0, _, h => h
  | n + 1, s, h => stpN_inj0 hp (stp_inj0 hp (by simpa [stpN] using h))
theorem wrd_zero {w : Nat} : ∀ (l : List Bool), l.length ≤ w → wrd w l = 0#w → ∀ b, b ∈ l → b = false
  | [], _, _, _, hb => by simp at hb
  | b :: r, h, hz, c, hc => by
    simp only [List.length_cons] at h
    have h1 : b = false := by
      have := congrArg (fun t => t.getLsbD (w - 1)) hz
      simp only [wrd, BitVec.getLsbD_xor, BitVec.getLsbD_ushiftRight, BitVec.getLsbD_of_ge _ _ (show w ≤ 1 + (w - 1) by omega)] at this
      cases b with
      | false => rfl
      | true => simp [one1, BitVec.getLsbD_intMin] at this; omega
    subst h1
    have h2 : wrd w r = 0#w := by
      apply BitVec.eq_of_getLsbD_eq
      intro i hi
      by_cases e : i = 0
      · subst e; rw [wrd_low r (by omega) 0 (by omega)]; simp
      · have := congrArg (fun t => t.getLsbD (i - 1)) hz
        simp only [wrd, one1, BitVec.getLsbD_xor, BitVec.getLsbD_ushiftRight, show 1 + (i - 1) = i by omega] at this
        simpa using this
    rcases List.mem_cons.1 hc with rfl | hc
    · rfl
    · exact wrd_zero r (by omega) h2 c hc
theorem feed_zeros {w : Nat} (p : BitVec w) (n : Nat) (s : BitVec w) : (List.replicate n false).foldl (feed p) s = stpN p n s := by
  induction n generalizing s with
  | zero => rfl
  | succ n ih =>
    rw [List.replicate_succ, List.foldl_cons, ih, stpN_add p n 1]
    simp [feed, one1, stpN]
/-- a burst shows. -/
theorem burst {w : Nat} {p : BitVec w} (hp : p.getLsbD 0 = true) (a z : Nat) (mid : List Bool) (h : mid.length ≤ w) (hm : true ∈ mid) :
    (List.replicate a false ++ mid ++ List.replicate z false).foldl (feed p) 0#w ≠ 0#w := by
  rw [List.foldl_append, List.foldl_append, feed_zeros, feed_zeros, stpN_zero, feed_all p mid h]
  intro hz
  have h1 := stpN_inj0 hp (stpN_inj0 hp hz)
  rw [BitVec.zero_xor] at h1
  have := wrd_zero mid h h1 true hm
  cases this
def hib (c : BitVec 8) : List Bool := (List.range 8).map fun i => c.getLsbD (7 - i)
theorem hib_len (c : BitVec 8) : (hib c).length = 8 := by simp [hib]
theorem in8_feed (s : BitVec 8) (c : BitVec 8) : in8 s c = (hib c).foldl (feed 7#8) s := by
  have h : ∀ c : BitVec 8, wrd 8 (hib c) = c := by decide +kernel
  rw [feed_all _ _ (by rw [hib_len]; decide), h, hib_len]; rfl
theorem in16_feed (s : BitVec 16) (c : BitVec 8) : in16 s c = (hib c).foldl (feed 0x8005#16) s := by
  have h : ∀ c : BitVec 8, wrd 16 (hib c) = c.setWidth 16 <<< 8 := by decide +kernel
  rw [feed_all _ _ (by rw [hib_len]; decide), h, hib_len]; rfl
theorem run8_feed (l : List (BitVec 8)) (s : BitVec 8) : run8 s l = (l.flatMap hib).foldl (feed 7#8) s := by
  induction l generalizing s with
  | nil => rfl
  | cons c l ih =>
    rw [List.flatMap_cons, List.foldl_append, ← in8_feed, ← ih]; rfl
theorem run16_feed (l : List (BitVec 8)) (s : BitVec 16) : run16 s l = (l.flatMap hib).foldl (feed 0x8005#16) s := by
  induction l generalizing s with
  | nil => rfl
  | cons c l ih =>
    rw [List.flatMap_cons, List.foldl_append, ← in16_feed, ← ih]; rfl

/-! the same, the lowest bit first -/
def one0 (w : Nat) (b : Bool) : BitVec w := if b then 1#w else 0#w
theorem one0_bit {w : Nat} (b : Bool) (i : Nat) (hw : 0 < w) : (one0 w b).getLsbD i = (b && decide (i = 0)) := by
  cases b <;> simp [one0, BitVec.getLsbD_one, hw]
def feedR {w : Nat} (p s : BitVec w) (b : Bool) : BitVec w := stpR p (s ^^^ one0 w b)
def wrdR (w : Nat) : List Bool → BitVec w
  | [] => 0#w
  | b :: r => one0 w b ^^^ (wrdR w r) <<< 1
theorem wrdR_high {w : Nat} (hw : 0 < w) : ∀ (l : List Bool), ∀ i, l.length ≤ i → (wrdR w l).getLsbD i = false
  | [], i, _ => by simp [wrdR]
  | b :: r, i, hi => by
    simp only [List.length_cons] at hi
    have h1 := wrdR_high hw r (i - 1) (by omega)
    rw [wrdR, BitVec.getLsbD_xor, BitVec.getLsbD_shiftLeft, h1, one0_bit _ _ hw]
    have : ¬ i = 0 := by omega
    simp [this]
theorem stpR_shl {w : Nat} (p m : BitVec w) (hw : 0 < w) (h : m.getLsbD (w - 1) = false) : stpR p (m <<< 1) = m := by
  have h0 : (m <<< 1).getLsbD 0 = false := by simp
  unfold stpR
  rw [h0]
  apply BitVec.eq_of_getLsbD_eq
  intro i hi
  simp only [Bool.false_eq_true, if_false, BitVec.getLsbD_shiftLeft, BitVec.getLsbD_ushiftRight]
  by_cases e : i = w - 1
  · subst e; rw [h]; simp; omega
  · simp [show 1 + i < w by omega]
theorem feedR_all {w : Nat} (p : BitVec w) (hw : 0 < w) : ∀ (l : List Bool), l.length ≤ w → ∀ s, l.foldl (feedR p) s = stpRN p l.length (s ^^^ wrdR w l)
  | [], _, s => by simp [wrdR, stpRN]
  | b :: r, h, s => by
    simp only [List.length_cons] at h
    have hs := stpR_shl p (wrdR w r) hw (wrdR_high hw r (w - 1) (by omega))
    rw [List.foldl_cons, feedR_all p hw r (by omega), List.length_cons, stpRN_add p r.length 1]
    congr 1
    show _ = stpR p (stpRN p 0 _)
    rw [stpRN, wrdR, ← BitVec.xor_assoc, stpR_xor, hs]; rfl
theorem stpR_inj0 {w : Nat} {p s : BitVec w} (hw : 0 < w) (hp : p.getLsbD (w - 1) = true) (h : stpR p s = 0#w) : s = 0#w := by
  unfold stpR at h
  cases hm : s.getLsbD 0 with
  | true =>
    rw [hm] at h
    have := congrArg (fun t => t.getLsbD (w - 1)) h
    simp only [if_true, BitVec.getLsbD_xor, BitVec.getLsbD_ushiftRight, hp, BitVec.getLsbD_of_ge _ _ (show w ≤ 1 + (w - 1) by omega)] at this
    simp at this
  | false =>
    rw [hm] at h
    apply BitVec.eq_of_getLsbD_eq
    intro i hi
    by_cases e : i = 0
    · subst e; simp [hm]
    · have := congrArg (fun t => t.getLsbD (i - 1)) h
      simp only [Bool.false_eq_true, if_false, BitVec.getLsbD_ushiftRight, show 1 + (i - 1) = i by omega] at this
      simpa using this
theorem stpRN_inj0 {w : Nat} {p : BitVec w} (hw : 0 < w) (hp : p.getLsbD (w - 1) = true) : ∀ {n : Nat} {s : BitVec w}, stpRN p n s = 0#w → s = 0#w
  | 0, _, h => h
  | n + 1, s, h => stpRN_inj0 hw hp (stpR_inj0 hw hp (by simpa [stpRN] using h))
theorem stpRN_zero {w : Nat} (p : BitVec w) (n : Nat) : stpRN p n 0#w = 0#w := by
  induction n with
  | zero => rfl
  | succ n ih => rw [stpRN, ih]; unfold stpR; simp
theorem wrdR_zero {w : Nat} (hw : 0 < w) : ∀ (l : List Bool), l.length ≤ w → wrdR w l = 0#w → ∀ b, b ∈ l → b = false
  | [], _, _, _, hb => by simp at hb
  | b :: r, h, hz, c, hc => by
    simp only [List.length_cons] at h
    have h1 : b = false := by
      have := congrArg (fun t => t.getLsbD 0) hz
      simp only [wrdR, BitVec.getLsbD_xor, BitVec.getLsbD_shiftLeft, one0_bit _ _ hw] at this
      simpa using this
    subst h1
    have h2 : wrdR w r = 0#w := by
      apply BitVec.eq_of_getLsbD_eq
      intro i hi
      by_cases e : i = w - 1
      · subst e; rw [wrdR_high hw r _ (by omega)]; simp
      · have := congrArg (fun t => t.getLsbD (i + 1)) hz
        simp only [wrdR, BitVec.getLsbD_xor, BitVec.getLsbD_shiftLeft, one0_bit _ _ hw, show i + 1 - 1 = i by omega] at this
        simp [show i + 1 < w by omega] at this
        simpa using this
    rcases List.mem_cons.1 hc with rfl | hc
    · rfl
    · exact wrdR_zero hw r (by omega) h2 c hc
theorem feedR_zeros {w : Nat} (p : BitVec w) (n : Nat) (s : BitVec w) : (List.replicate n false).foldl (feedR p) s = stpRN p n s := by
  induction n generalizing s with
  | zero => rfl
  | succ n ih =>
    rw [List.replicate_succ, List.foldl_cons, ih, stpRN_add p n 1]
    simp [feedR, one0, stpRN]
theorem burstR {w : Nat} {p : BitVec w} (hw : 0 < w) (hp : p.getLsbD (w - 1) = true) (a z : Nat) (mid : List Bool) (h : mid.length ≤ w) (hm : true ∈ mid) :
    (List.replicate a false ++ mid ++ List.replicate z false).foldl (feedR p) 0#w ≠ 0#w := by
  rw [List.foldl_append, List.foldl_append, feedR_zeros, feedR_zeros, stpRN_zero, feedR_all p hw mid h]
  intro hz
  have h1 := stpRN_inj0 hw hp (stpRN_inj0 hw hp hz)
  rw [BitVec.zero_xor] at h1
  have := wrdR_zero hw mid h h1 true hm
  cases this
def lob (c : BitVec 8) : List Bool := (List.range 8).map fun i => c.getLsbD i
theorem lob_len (c : BitVec 8) : (lob c).length = 8 := by simp [lob]
theorem in32_feed (s : BitVec 32) (c : BitVec 8) : in32 s c = (lob c).foldl (feedR 0xedb88320#32) s := by
  have h : ∀ c : BitVec 8, wrdR 32 (lob c) = c.setWidth 32 := by decide +kernel
  rw [feedR_all _ (by decide) _ (by rw [lob_len]; decide), h, lob_len]; rfl
theorem run32_feed (l : List (BitVec 8)) (s : BitVec 32) : run32 s l = (l.flatMap lob).foldl (feedR 0xedb88320#32) s := by
  induction l generalizing s with
  | nil => rfl
  | cons c l ih =>
    rw [List.flatMap_cons, List.foldl_append, ← in32_feed, ← ih]; rfl

/-! the bits of rows -/
/-- bit k of the stream, the highest of a byte first. -/
def bitH (l : List (BitVec 8)) (k : Nat) : Bool := (l.getD (k / 8) 0).getLsbD (7 - k % 8)
def bitL (l : List (BitVec 8)) (k : Nat) : Bool := (l.getD (k / 8) 0).getLsbD (k % 8)
theorem flat_bits (f : BitVec 8 → List Bool) (g : BitVec 8 → Nat → Bool) (hf : ∀ c, f c = (List.range 8).map (g c)) : ∀ (l : List (BitVec 8)),
    l.flatMap f = (List.range (8 * l.length)).map fun k => g (l.getD (k / 8) 0) (k % 8)
  | [] => rfl
  | c :: l => by
    rw [List.flatMap_cons, flat_bits f g hf l, hf]
    apply List.ext_getElem
    · simp; omega
    · intro i h1 h2
      simp only [List.length_append, List.length_map, List.length_range] at h1
      by_cases h : i < 8
      · rw [List.getElem_append_left (by simpa using h)]
        simp only [List.getElem_map, List.getElem_range]
        rw [show i / 8 = 0 by omega, show i % 8 = i by omega]; rfl
      · rw [List.getElem_append_right (by simpa using h)]
        simp only [List.getElem_map, List.getElem_range, List.length_map, List.length_range]
        rw [show i / 8 = (i - 8) / 8 + 1 by omega, show i % 8 = (i - 8) % 8 by omega]; rfl
theorem flat_hib (l : List (BitVec 8)) : l.flatMap hib = (List.range (8 * l.length)).map (bitH l) := flat_bits hib (fun c i => c.getLsbD (7 - i)) (fun _ => rfl) l
theorem flat_lob (l : List (BitVec 8)) : l.flatMap lob = (List.range (8 * l.length)).map (bitL l) := flat_bits lob (fun c i => c.getLsbD i) (fun _ => rfl) l
/-- a stream that is false outside a window. -/
theorem window (n a m : Nat) (f : Nat → Bool) (ha : a ≤ n) (hf : ∀ k, k < n → f k = true → a ≤ k ∧ k < a + m) :
    (List.range n).map f = List.replicate a false ++ (List.range (min m (n - a))).map (fun i => f (a + i)) ++ List.replicate (n - a - min m (n - a)) false := by
  apply List.ext_getElem
  · simp; omega
  · intro i h1 h2
    simp only [List.length_map, List.length_range] at h1
    have hh := hf i h1
    rw [List.getElem_map, List.getElem_range]
    by_cases h : i < a
    · rw [List.getElem_append_left (by simp; omega), List.getElem_append_left (by simpa using h), List.getElem_replicate]
      cases e : f i with
      | false => rfl
      | true => have := hh e; omega
    · by_cases h' : i < a + min m (n - a)
      · rw [List.getElem_append_left (by simp; omega), List.getElem_append_right (by simp; omega)]
        simp only [List.getElem_map, List.getElem_range, List.length_replicate]
        rw [show a + (i - a) = i by omega]
      · rw [List.getElem_append_right (by simp; omega), List.getElem_replicate]
        cases e : f i with
        | false => rfl
        | true => have := hh e; omega
theorem window_shows8 (e : List (BitVec 8)) (a m : Nat) (ha : a ≤ 8 * e.length) (hm : m ≤ 8) (hf : ∀ k, k < 8 * e.length → bitH e k = true → a ≤ k ∧ k < a + m) (hs : ∃ i, i < m ∧ a + i < 8 * e.length ∧ bitH e (a + i) = true) : run8 0 e ≠ 0 := by
  rw [run8_feed, flat_hib, window _ a m _ ha hf]
  refine burst (by decide) _ _ _ (by simp; omega) ?_
  obtain ⟨i, h1, h2, h3⟩ := hs
  exact List.mem_map.2 ⟨i, by simp; omega, h3⟩
theorem window_shows16 (e : List (BitVec 8)) (a m : Nat) (ha : a ≤ 8 * e.length) (hm : m ≤ 16) (hf : ∀ k, k < 8 * e.length → bitH e k = true → a ≤ k ∧ k < a + m) (hs : ∃ i, i < m ∧ a + i < 8 * e.length ∧ bitH e (a + i) = true) : run16 0 e ≠ 0 := by
  rw [run16_feed, flat_hib, window _ a m _ ha hf]
  refine burst (by decide) _ _ _ (by simp; omega) ?_
  obtain ⟨i, h1, h2, h3⟩ := hs
  exact List.mem_map.2 ⟨i, by simp; omega, h3⟩
theorem window_shows32 (e : List (BitVec 8)) (a m : Nat) (ha : a ≤ 8 * e.length) (hm : m ≤ 32) (hf : ∀ k, k < 8 * e.length → bitL e k = true → a ≤ k ∧ k < a + m) (hs : ∃ i, i < m ∧ a + i < 8 * e.length ∧ bitL e (a + i) = true) : run32 0 e ≠ 0 := by
  rw [run32_feed, flat_lob, window _ a m _ ha hf]
  refine burstR (by decide) (by decide) _ _ _ (by simp; omega) ?_
  obtain ⟨i, h1, h2, h3⟩ := hs
  exact List.mem_map.2 ⟨i, by simp; omega, h3⟩
end Go.Proofs.Ytfdkodcnbjmlbaa
