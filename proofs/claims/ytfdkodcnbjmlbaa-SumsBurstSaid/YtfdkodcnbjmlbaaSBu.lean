/-
  SumsBurst: bits turned within a window; plain laws.
-/
import Derived.Test.YtfdkodcnbjmlbaaProg
import Derived.Test.YtfdkodcnbjmlbaaSXor
namespace Go.Proofs.Ytfdkodcnbjmlbaa
open Go.RowKit

/-- which bit of its byte bit k of a stream is. -/
def bpos (high : Bool) (k : Nat) : Nat := if high = true then 7 - k % 8 else k % 8
theorem bpos_lt (high : Bool) (k : Nat) : bpos high k < 8 := by unfold bpos; split <;> omega
def bitX (high : Bool) (L : List (BitVec 8)) (k : Nat) : Bool := (L.getD (k / 8) 0).getLsbD (bpos high k)
theorem bitX_true : bitX true = bitH := rfl
theorem bitX_false : bitX false = bitL := rfl
theorem bpos_eq {high : Bool} {k k' : Nat} (h1 : k / 8 = k' / 8) (h2 : bpos high k = bpos high k') : k = k' := by
  unfold bpos at h2; split at h2 <;> omega
def flipAt (high : Bool) (c : List Int) (k : Nat) : List Int := c.set (k / 8) (bits .xor .u8 (ix c (k / 8)) (2 ^ bpos high k))
theorem two_b {j : Nat} (h : j < 8) : (0 : Int) ≤ 2 ^ j ∧ (2 : Int) ^ j < 256 := by
  have : ∀ j : Fin 8, (0 : Int) ≤ 2 ^ j.val ∧ (2 : Int) ^ j.val < 256 := by decide
  exact this ⟨j, h⟩
theorem two_bit {j i : Nat} (h : j < 8) (hi : i < 8) : (BitVec.ofInt 8 ((2 : Int) ^ j)).getLsbD i = decide (i = j) := by
  have : ∀ j i : Fin 8, (BitVec.ofInt 8 ((2 : Int) ^ j.val)).getLsbD i.val = decide (i.val = j.val) := by decide
  exact this ⟨j, h⟩ ⟨i, hi⟩
theorem ofInt_xor {x y : Int} (x0 : 0 ≤ x) (x1 : x < 256) (y0 : 0 ≤ y) (y1 : y < 256) : BitVec.ofInt 8 (bits .xor .u8 x y) = BitVec.ofInt 8 x ^^^ BitVec.ofInt 8 y := by
  apply BitVec.eq_of_toNat_eq
  have h3 := xor8_b x0 x1 y0 y1
  rw [ofInt8_toNat h3.1 h3.2, BitVec.toNat_xor, ofInt8_toNat x0 x1, ofInt8_toNat y0 y1, u8_xor _ _ x0 x1 y0 y1]
  rfl
theorem flip_len (high : Bool) (c : List Int) (k : Nat) : (flipAt high c k).length = c.length := by simp [flipAt]
theorem flip_byt {high : Bool} {c : List Int} {k : Nat} (hc : Byt c) (hk : k / 8 < c.length) : Byt (flipAt high c k) := by
  have h1 := hc.ix_ hk
  have h2 := two_b (bpos_lt high k)
  have h3 := xor8_b h1.1 h1.2 h2.1 h2.2
  exact byt_set hc _ h3.1 h3.2
theorem bv_getD {c : List Int} {q : Nat} (h : q < c.length) : (bv c).getD q 0 = BitVec.ofInt 8 (ix c q) := by
  rw [List.getD_eq_getElem?_getD, bv_get h]; rfl
theorem bv_getD_out {c : List Int} {q : Nat} (h : c.length ≤ q) : (bv c).getD q 0 = 0 := by
  rw [List.getD_eq_getElem?_getD, List.getElem?_eq_none (by simpa [bv] using h)]; rfl
theorem flip_bit {high : Bool} {c : List Int} {k : Nat} (hc : Byt c) (hk : k / 8 < c.length) (k' : Nat) : bitX high (bv (flipAt high c k)) k' = (bitX high (bv c) k' ^^ decide (k' = k)) := by
  unfold bitX
  by_cases hq : k' / 8 < c.length
  · rw [bv_getD (by rw [flip_len]; exact hq), bv_getD hq]
    unfold flipAt
    rw [ix_set _ _ _ _ hk]
    by_cases e : k' / 8 = k / 8
    · have h1 := hc.ix_ hk
      have h2 := two_b (bpos_lt high k)
      rw [if_pos e, ofInt_xor h1.1 h1.2 h2.1 h2.2, BitVec.getLsbD_xor, two_bit (bpos_lt high k) (bpos_lt high k'), e]
      congr 1
      by_cases e2 : k' = k
      · subst e2; simp
      · rw [decide_eq_false e2, decide_eq_false (fun h => e2 (bpos_eq e h))]
    · rw [if_neg e, decide_eq_false (fun h => e (by rw [h])), Bool.xor_false]
  · rw [bv_getD_out (by rw [flip_len]; omega), bv_getD_out (by omega), decide_eq_false (fun h => hq (by rw [h]; exact hk))]
    simp

section
variable (high : Bool) (l : List Int) (a y : Nat)
/-- is bit a + i turned? -/
def hit (i : Nat) : Bool := decide (a + i < 8 * l.length) && decide (y / 2 ^ i % 2 = 1)
def turnTo : Nat → List Int
  | 0 => l
  | i + 1 => if hit l a y i = true then flipAt high (turnTo i) (a + i) else turnTo i
def someTo : Nat → Bool
  | 0 => false
  | i + 1 => if hit l a y i = true then true else someTo i
end
section
variable {high : Bool} {l : List Int} {a y : Nat}
theorem turn_yes {i : Nat} (h : hit l a y i = true) : turnTo high l a y (i + 1) = flipAt high (turnTo high l a y i) (a + i) := if_pos h
theorem turn_no {i : Nat} (h : hit l a y i = false) : turnTo high l a y (i + 1) = turnTo high l a y i := if_neg (by simp [h])
theorem some_yes {i : Nat} (h : hit l a y i = true) : someTo l a y (i + 1) = true := if_pos h
theorem some_no {i : Nat} (h : hit l a y i = false) : someTo l a y (i + 1) = someTo l a y i := if_neg (by simp [h])
theorem hit_lt {i : Nat} (h : hit l a y i = true) : a + i < 8 * l.length := by simp [hit] at h; exact h.1
theorem turn_len (i : Nat) : (turnTo high l a y i).length = l.length := by
  induction i with
  | zero => rfl
  | succ i ih =>
    cases h : hit l a y i with
    | true => rw [turn_yes h, flip_len, ih]
    | false => rw [turn_no h, ih]
theorem turn_byt (hb : Byt l) (i : Nat) : Byt (turnTo high l a y i) := by
  induction i with
  | zero => exact hb
  | succ i ih =>
    cases h : hit l a y i with
    | true => rw [turn_yes h]; exact flip_byt ih (by rw [turn_len]; have := hit_lt h; omega)
    | false => rw [turn_no h]; exact ih
theorem turn_stop {i : Nat} (h : 8 * l.length ≤ a + i) : ∀ j, i ≤ j → turnTo high l a y j = turnTo high l a y i ∧ someTo l a y j = someTo l a y i := by
  intro j
  induction j with
  | zero => intro hj; obtain rfl : i = 0 := by omega
            exact ⟨rfl, rfl⟩
  | succ j ih =>
    intro hj
    by_cases e : i = j + 1
    · subst e; exact ⟨rfl, rfl⟩
    · have hn : hit l a y j = false := by simp [hit]; intro h'; omega
      rw [turn_no hn, some_no hn]
      exact ih (by omega)
/-- bit k of the stream, behind i steps. -/
theorem turn_bit (hb : Byt l) (i k : Nat) : bitX high (bv (turnTo high l a y i)) k = (bitX high (bv l) k ^^ (decide (a ≤ k) && decide (k < a + i) && hit l a y (k - a))) := by
  induction i with
  | zero =>
    have : (decide (a ≤ k) && decide (k < a + 0)) = false := by simp
    rw [this]; simp [turnTo]
  | succ i ih =>
    cases h : hit l a y i with
    | true =>
      rw [turn_yes h, flip_bit (turn_byt hb i) (by rw [turn_len]; have := hit_lt h; omega), ih, Bool.xor_assoc]
      congr 1
      by_cases e : k = a + i
      · subst e
        have e1 : decide (a + i < a + i) = false := by simp
        rw [e1, show a + i - a = i by omega, h]
        simp
      · rw [decide_eq_false e, Bool.xor_false]
        have e1 : decide (k < a + (i + 1)) = decide (k < a + i) := decide_eq_decide.2 (by omega)
        rw [e1]
    | false =>
      rw [turn_no h, ih]
      congr 1
      by_cases e : k = a + i
      · subst e
        rw [show a + i - a = i by omega, h]; simp
      · have e1 : decide (k < a + (i + 1)) = decide (k < a + i) := decide_eq_decide.2 (by omega)
        rw [e1]
theorem some_true {m : Nat} : someTo l a y m = true ↔ ∃ i, i < m ∧ hit l a y i = true := by
  induction m with
  | zero => simp [someTo]
  | succ m ih =>
    cases h : hit l a y m with
    | true => rw [some_yes h]; exact ⟨fun _ => ⟨m, by omega, h⟩, fun _ => rfl⟩
    | false =>
      rw [some_no h, ih]
      refine ⟨fun ⟨i, h1, h2⟩ => ⟨i, by omega, h2⟩, fun ⟨i, h1, h2⟩ => ⟨i, ?_, h2⟩⟩
      by_cases e : i = m
      · subst e; rw [h] at h2; cases h2
      · omega
theorem none_same {m : Nat} (h : someTo l a y m = false) : turnTo high l a y m = l := by
  induction m with
  | zero => rfl
  | succ m ih =>
    cases h' : hit l a y m with
    | true => rw [some_yes h'] at h; cases h
    | false => rw [some_no h'] at h; rw [turn_no h', ih h]
/-- the difference of two rows of bytes. -/
theorem xorL_back (X Y : List (BitVec 8)) (h : X.length = Y.length) : xorL Y (xorL X Y) = X := by
  apply List.ext_getElem
  · simp [xorL]; omega
  · intro i h1 h2
    simp only [xorL, List.getElem_zipWith]
    rw [BitVec.xor_comm, BitVec.xor_assoc, BitVec.xor_self, BitVec.xor_zero]
theorem xorL_len (X Y : List (BitVec 8)) (h : X.length = Y.length) : (xorL X Y).length = Y.length := by simp [xorL]; omega
theorem xorL_bit {high : Bool} {X Y : List (BitVec 8)} (h : X.length = Y.length) (k : Nat) : bitX high (xorL X Y) k = (bitX high X k ^^ bitX high Y k) := by
  unfold bitX
  by_cases hq : k / 8 < Y.length
  · rw [List.getD_eq_getElem?_getD, List.getD_eq_getElem?_getD, List.getD_eq_getElem?_getD, List.getElem?_eq_getElem (by rw [xorL_len X Y h]; exact hq), List.getElem?_eq_getElem (by omega), List.getElem?_eq_getElem hq]
    simp [xorL]
  · rw [List.getD_eq_getElem?_getD, List.getD_eq_getElem?_getD, List.getD_eq_getElem?_getD, List.getElem?_eq_none (by rw [xorL_len X Y h]; omega), List.getElem?_eq_none (by omega), List.getElem?_eq_none (by omega)]
    simp
theorem bv_len (l : List Int) : (bv l).length = l.length := by simp [bv]
/-- the window of the difference. -/
theorem diff_window (hb : Byt l) (m : Nat) (k : Nat) : bitX high (xorL (bv (turnTo high l a y m)) (bv l)) k = (decide (a ≤ k) && decide (k < a + m) && hit l a y (k - a)) := by
  rw [xorL_bit (by rw [bv_len, bv_len, turn_len]), turn_bit hb, Bool.xor_comm, ← Bool.xor_assoc, Bool.xor_self, Bool.false_xor]
end
theorem burst8 {l : List Int} {a y : Nat} (hb : Byt l) (ha : a < 8 * l.length) : (crc8 (turnTo true l a y 8) ≠ crc8 l) ↔ someTo l a y 8 = true := by
  cases h : someTo l a y 8 with
  | false => rw [none_same h]; simp
  | true =>
    refine ⟨fun _ => rfl, fun _ => ?_⟩
    obtain ⟨i, h1, h2⟩ := some_true.1 h
    have hl : (bv (turnTo true l a y 8)).length = (bv l).length := by rw [bv_len, bv_len, turn_len]
    have hE := window_shows8 (xorL (bv (turnTo true l a y 8)) (bv l)) a 8 (by rw [xorL_len _ _ hl, bv_len]; omega) (by omega)
      (fun k _ hk => by rw [← bitX_true, diff_window hb] at hk; simp at hk; omega)
      ⟨i, h1, by rw [xorL_len _ _ hl, bv_len]; exact hit_lt h2, by rw [← bitX_true, diff_window hb, show a + i - a = i by omega, h2]; simp; exact h1⟩
    intro e
    have hx := run8_xor (bv l) (xorL (bv (turnTo true l a y 8)) (bv l)) 0 0 (by rw [xorL_len _ _ hl])
    rw [xorL_back _ _ hl, BitVec.xor_self] at hx
    unfold crc8 at e
    have e2 : run8 0 (bv l) ^^^ run8 0 (bv l) = run8 0 (bv l) ^^^ (run8 0 (bv l) ^^^ run8 0 (xorL (bv (turnTo true l a y 8)) (bv l))) := by rw [← hx]; exact congrArg _ e.symm
    rw [← BitVec.xor_assoc, BitVec.xor_self, BitVec.zero_xor] at e2
    exact hE e2.symm
theorem burst16 {l : List Int} {a y : Nat} (hb : Byt l) (ha : a < 8 * l.length) : (crc16 (turnTo true l a y 16) ≠ crc16 l) ↔ someTo l a y 16 = true := by
  cases h : someTo l a y 16 with
  | false => rw [none_same h]; simp
  | true =>
    refine ⟨fun _ => rfl, fun _ => ?_⟩
    obtain ⟨i, h1, h2⟩ := some_true.1 h
    have hl : (bv (turnTo true l a y 16)).length = (bv l).length := by rw [bv_len, bv_len, turn_len]
    have hE := window_shows16 (xorL (bv (turnTo true l a y 16)) (bv l)) a 16 (by rw [xorL_len _ _ hl, bv_len]; omega) (by omega)
      (fun k _ hk => by rw [← bitX_true, diff_window hb] at hk; simp at hk; omega)
      ⟨i, h1, by rw [xorL_len _ _ hl, bv_len]; exact hit_lt h2, by rw [← bitX_true, diff_window hb, show a + i - a = i by omega, h2]; simp; exact h1⟩
    intro e
    have hx := run16_xor (bv l) (xorL (bv (turnTo true l a y 16)) (bv l)) 0 0 (by rw [xorL_len _ _ hl])
    rw [xorL_back _ _ hl, BitVec.xor_self] at hx
    unfold crc16 at e
    have e2 : run16 0 (bv l) ^^^ run16 0 (bv l) = run16 0 (bv l) ^^^ (run16 0 (bv l) ^^^ run16 0 (xorL (bv (turnTo true l a y 16)) (bv l))) := by rw [← hx]; exact congrArg _ e.symm
    rw [← BitVec.xor_assoc, BitVec.xor_self, BitVec.zero_xor] at e2
    exact hE e2.symm
theorem burst32 {l : List Int} {a y : Nat} (hb : Byt l) (ha : a < 8 * l.length) : (crc32 (turnTo false l a y 32) ≠ crc32 l) ↔ someTo l a y 32 = true := by
  cases h : someTo l a y 32 with
  | false => rw [none_same h]; simp
  | true =>
    refine ⟨fun _ => rfl, fun _ => ?_⟩
    obtain ⟨i, h1, h2⟩ := some_true.1 h
    have hl : (bv (turnTo false l a y 32)).length = (bv l).length := by rw [bv_len, bv_len, turn_len]
    have hE := window_shows32 (xorL (bv (turnTo false l a y 32)) (bv l)) a 32 (by rw [xorL_len _ _ hl, bv_len]; omega) (by omega)
      (fun k _ hk => by rw [← bitX_false, diff_window hb] at hk; simp at hk; omega)
      ⟨i, h1, by rw [xorL_len _ _ hl, bv_len]; exact hit_lt h2, by rw [← bitX_false, diff_window hb, show a + i - a = i by omega, h2]; simp; exact h1⟩
    intro e
    have hx := run32_xor (bv l) (xorL (bv (turnTo false l a y 32)) (bv l)) 0xffffffff#32 0 (by rw [xorL_len _ _ hl])
    rw [xorL_back _ _ hl, show (0xffffffff#32 ^^^ (0 : BitVec 32)) = 0xffffffff#32 from by decide] at hx
    unfold crc32 at e
    have e' : run32 0xffffffff#32 (bv (turnTo false l a y 32)) = run32 0xffffffff#32 (bv l) := by
      have := congrArg (fun t => ~~~ t) e
      simpa using this
    have e2 : run32 0xffffffff#32 (bv l) ^^^ run32 0xffffffff#32 (bv l) = run32 0xffffffff#32 (bv l) ^^^ (run32 0xffffffff#32 (bv l) ^^^ run32 0 (xorL (bv (turnTo false l a y 32)) (bv l))) := by rw [← hx]; exact congrArg _ e'.symm
    rw [← BitVec.xor_assoc, BitVec.xor_self, BitVec.zero_xor] at e2
    exact hE e2.symm
end Go.Proofs.Ytfdkodcnbjmlbaa
