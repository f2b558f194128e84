/-
  sample: Unpack.
-/
import Derived.Test.YtfihbcpainlpcaaProg
import Derived.Test.YtfihbcpainlpcaaMC
import Derived.Test.YtfihbcpainlpcaaAI
namespace Go.Proofs.Ytfihbcpainlpcaa
open Go.RowKit
set_option linter.unusedVariables false
set_option linter.unusedSimpArgs false

def Byt (l : List Int) : Prop := ∀ x ∈ l, 0 ≤ x ∧ x < 256
theorem Byt.ix_ {l : List Int} (h : Byt l) {k : Nat} (hk : k < l.length) : 0 ≤ ix l k ∧ ix l k < 256 := h _ (by rw [ix_eq hk]; exact List.getElem_mem _)
/-- the number of the bytes from a on, the lowest first. -/
def valN (l : List Int) (a : Nat) : Nat → Int
  | 0 => 0
  | i + 1 => valN l a i + ix l (a + i) * 2 ^ (8 * i)
theorem p2 (q : Nat) : (2 : Int) ^ q = ((2 ^ q : Nat) : Int) := by simp
theorem p8 (i : Nat) : (2 : Int) ^ (8 * (i + 1)) = 256 * 2 ^ (8 * i) := by rw [show 8 * (i + 1) = 8 * i + 8 by omega, Int.pow_add]; omega
theorem valN_b {l : List Int} (hb : Byt l) {a : Nat} : ∀ i, a + i ≤ l.length → 0 ≤ valN l a i ∧ valN l a i < 2 ^ (8 * i)
  | 0, _ => by simp [valN]
  | i + 1, h => by
    obtain ⟨h0, h1⟩ := valN_b hb (a := a) i (by omega)
    obtain ⟨x0, x1⟩ := hb.ix_ (k := a + i) (by omega)
    rw [valN, p8]
    have hp : (0 : Int) < 2 ^ (8 * i) := by rw [p2]; have := Nat.two_pow_pos (8 * i); omega
    obtain ⟨p, hpe⟩ : ∃ p : Int, p = 2 ^ (8 * i) := ⟨_, rfl⟩
    rw [← hpe] at h1 hp ⊢
    have h2 : ix l (a + i) * p ≤ 255 * p := Int.mul_le_mul_of_nonneg_right (by omega) (by omega)
    have h3 : 0 ≤ ix l (a + i) * p := Int.mul_nonneg x0 (by omega)
    omega
theorem p24 {q : Nat} (h : q ≤ 24) : (1 : Int) ≤ 2 ^ q ∧ (2 : Int) ^ q ≤ 16777216 := by
  have h1 : (1 : Nat) ≤ 2 ^ q := Nat.one_le_two_pow
  have h2 : (2 : Nat) ^ q ≤ 2 ^ 24 := Nat.pow_le_pow_right (by omega) h
  rw [p2]; omega
/-- what lies in other bits may be added. -/
theorem or_add {x y : Int} {q : Nat} (hq : q ≤ 24) (x0 : 0 ≤ x) (x1 : x < 2 ^ q) (y0 : 0 ≤ y) (y1 : y < 256) : bits .or .i64 x (y * 2 ^ q) = x + y * 2 ^ q := by
  obtain ⟨u, rfl⟩ := Int.eq_ofNat_of_zero_le x0
  obtain ⟨v, rfl⟩ := Int.eq_ofNat_of_zero_le y0
  rw [p2] at x1 ⊢
  have hu : u < 2 ^ q := by omega
  have hp : (2 : Nat) ^ q ≤ 2 ^ 24 := Nat.pow_le_pow_right (by omega) hq
  have hvp : v * 2 ^ q ≤ 255 * 2 ^ q := Nat.mul_le_mul_right _ (by omega)
  have hor : u ||| v * 2 ^ q = u + v * 2 ^ q := by
    have := Nat.two_pow_add_eq_or_of_lt hu v
    rw [Nat.or_comm, Nat.mul_comm v, ← this, Nat.add_comm]
  show IntKind.i64.wrap ((BitVec.ofInt 64 (u : Int) ||| BitVec.ofInt 64 ((v : Int) * ((2 ^ q : Nat) : Int))).toNat : Int) = _
  have e2 : (v : Int) * ((2 ^ q : Nat) : Int) = ((v * 2 ^ q : Nat) : Int) := by simp
  rw [e2]
  generalize v * 2 ^ q = z at *
  rw [BitVec.toNat_or, BitVec.ofInt_natCast, BitVec.ofInt_natCast, BitVec.toNat_ofNat, BitVec.toNat_ofNat, Nat.mod_eq_of_lt (by omega), Nat.mod_eq_of_lt (by omega), hor, IntWalk.i64_in _ (by constructor <;> omega)]
  omega
/-- a sample out of the bits of its bytes. -/
def sgn (s : Nat) (v : Int) : Int := if highI (8 * (s : Int)) < v then v - 2 ^ (8 * s) else v
def uval (s : Nat) (l : List Int) (a : Nat) : Int := sgn s (valN l a s)
def uvals (s : Nat) (l : List Int) (k : Nat) : List Int := (List.range k).map fun j => uval s l (j * s)
theorem uvals_len (s : Nat) (l : List Int) (k : Nat) : (uvals s l k).length = k := by simp [uvals]
theorem uvals_step (s : Nat) (l : List Int) (k : Nat) : uvals s l (k + 1) = uvals s l k ++ [uval s l (k * s)] := by simp [uvals, List.range_succ]
theorem uvals_ix {s : Nat} {l : List Int} {k j : Nat} (h : j < k) : ix (uvals s l k) j = uval s l (j * s) := by simp [uvals, ix, h]
def unpackR (l : List Int) (b : Int) : List Int × Int :=
  if depth b = true then (if l.length % sizeN b = 0 then (if allFit (uvals (sizeN b) l (l.length / sizeN b)) b = true then (uvals (sizeN b) l (l.length / sizeN b), 0) else ([], 6)) else ([], 3)) else ([], 1)
def IntsQ (r : List Int × Int) (w : World) (e : Ending) (w' : World) : Prop := ∃ A c, e = .returned (.tuple #[.slice A r.1.length c, .int .i64 r.2]) ∧ OwnZ w' w.heap.size A r.1.length c r.1 ∧ Below w.heap.size w w'
theorem ints_none {x : Int} {w w' : World} (h : Below w.heap.size w w') : IntsQ ([], x) w (.returned (.tuple #[.slice none 0 0, .int .i64 x])) w' := ⟨none, 0, rfl, OwnZ.nil _ _, h⟩

set_option maxHeartbeats 2000000 in
theorem unpackL_any (l : List Int) (hby : Byt l) (n : Nat) (hn : n = l.length) (hm : n ≤ 20000) (b : Int) (A : Option Addr) (c : Nat) (w : World) (ha : Ints .u8 w w.heap.size A l) :
    Calls Try.prog 44 #[.slice A n c, .int .i64 b] w (IntsQ (unpackR l b) w) := by
  by_cases h1 : b < 4
  · have hn := Lib.hid (show unpackR l b = ([], 1) by rw [unpackR, depth_no (by omega)]; rfl)
    go_enter Try.func44, Try.ntmps44
    go_wp2
    go_ret2
    rw [hn.out]
    exact ints_none (brefl w)
  by_cases h2 : 24 < b
  · have hn := Lib.hid (show unpackR l b = ([], 1) by rw [unpackR, depth_no (by omega)]; rfl)
    go_enter Try.func44, Try.ntmps44
    go_wp2
    go_ret2
    rw [hn.out]
    exact ints_none (brefl w)
  obtain ⟨s, hs⟩ : ∃ s : Nat, (b + 7) / 8 = (s : Int) := ⟨((b + 7) / 8).toNat, by omega⟩
  have s1 : (1 : Int) ≤ (s : Int) := by omega
  have s3 : (s : Int) ≤ 3 := by omega
  have hd : Hid (unpackR l b = if n % s = 0 then (if allFit (uvals s l (n / s)) b = true then (uvals s l (n / s), 0) else ([], 6)) else ([], 3)) := by
    show _ = _
    rw [unpackR, if_pos (depth_true.2 ⟨by omega, by omega⟩), show sizeN b = s by unfold sizeN; omega, ← hn]
  have Hn := Lib.hid hn
  have Hb := Lib.hid hby
  clear hn hby
  have hr0 : (n : Int) % (s : Int) = ((n % s : Nat) : Int) := by rw [Int.natCast_emod]
  by_cases h3 : n % s = 0
  · have hz : ((n % s : Nat) : Int) = 0 := by omega
    rw [hz] at hr0
    obtain ⟨m, hm'⟩ : ∃ m, n = m * s := ⟨n / s, by have := Nat.div_add_mod n s; rw [h3] at this; rw [Nat.mul_comm]; omega⟩
    have hd2 : Hid (unpackR l b = (if allFit (uvals s l m) b = true then (uvals s l m, 0) else ([], 6))) := by
      show _ = _
      rw [hd.out, if_pos h3, hm', Nat.mul_div_cancel _ (by omega)]
    have Hm := Lib.hid hm'
    clear hm' h3 hz
    go_enter Try.func44, Try.ntmps44
    go_wp2
    clear hs hr0
    go_loopw [7, 8] (fun v i wr => (∃ (k : Nat) (A' : Option Addr) (c' : Nat), k ≤ m ∧ i = .int .i64 ((k * s : Nat) : Int) ∧ v = .slice A' k c' ∧ OwnZ wr w.heap.size A' k c' (uvals s l k) ∧ ∀ j, j < k → fitsB (uval s l (j * s)) b = true) ∧ Below w.heap.size w wr) (fun _ i _ => n - (intOf i).toNat)
    case atStart => exact ⟨⟨0, none, 0, Nat.zero_le _, by simp, rfl, by simpa [uvals] using OwnZ.nil _ _, fun j h => absurd h (by omega)⟩, brefl w⟩
    case round =>
      obtain ⟨⟨k, A2, c2, hk, rfl, rfl, ho, hj⟩, hb⟩ := hrel
      obtain ⟨wo, rfl⟩ : ∃ wo : World, wo = wr := ⟨_, rfl⟩
      have ho' := Lib.hid ho
      have hb' := Lib.hid hb
      have Hj := Lib.hid hj
      clear ho hb hj
      by_cases hlt : k < m
      · obtain ⟨a, haa⟩ : ∃ a, a = k * s := ⟨_, rfl⟩
        have hle : (k + 1) * s ≤ m * s := Nat.mul_le_mul_right _ (by omega)
        have hlt2 : a + s ≤ n := by rw [Hm.out, haa]; rw [Nat.add_mul] at hle; omega
        have Ha := Lib.hid haa
        have Hle := Lib.hid hle
        rw [← haa]
        clear haa hle
        have hai : (a : Int) < (n : Int) := by omega
        go_wp2_with fail
        go_loopw [9, 33] (fun v i wr => (∃ (j : Nat), j ≤ s ∧ i = .int .i64 j ∧ v = .int .i64 (valN l a j)) ∧ wr = wo) (fun _ i _ => s - (intOf i).toNat)
        case atStart => exact ⟨⟨0, Nat.zero_le _, rfl, rfl⟩, rfl⟩
        case round =>
          obtain ⟨⟨j, hjs, rfl, rfl⟩, rfl⟩ := hrel
          by_cases hlj : j < s
          · obtain ⟨b1, o1, rfl, hc1⟩ := (ha.below hb'.out).at_ (i := a + j) (by have := Hn.out; omega)
            obtain ⟨q, hq⟩ : ∃ q, q = 8 * j := ⟨_, rfl⟩
            have h8 : (8 : Int) * (j : Int) = (q : Int) := by omega
            obtain ⟨y0, y1⟩ := Hb.out.ix_ (k := a + j) (by have := Hn.out; omega)
            obtain ⟨v0, v1⟩ := valN_b Hb.out (a := a) j (by have := Hn.out; omega)
            have hstep : Hid (valN l a (j + 1) = valN l a j + ix l (a + j) * 2 ^ q) := by show _ = _; rw [valN, hq]
            rw [← hq] at v1
            obtain ⟨y, hy⟩ : ∃ y, y = ix l (a + j) := ⟨_, rfl⟩
            obtain ⟨v, hv⟩ : ∃ v, v = valN l a j := ⟨_, rfl⟩
            rw [← hy] at y0 y1 hc1 hstep
            rw [← hv] at v0 v1 hstep ⊢
            have hor := or_add (q := q) (by omega) v0 v1 y0 y1
            have hpq := p24 (q := q) (by omega)
            have hyq : 0 ≤ y * 2 ^ q ∧ y * 2 ^ q < 4294967296 := by
              have g1 : y * 2 ^ q ≤ 255 * 2 ^ q := Int.mul_le_mul_of_nonneg_right (by omega) (by omega)
              have g2 : 0 ≤ y * 2 ^ q := Int.mul_nonneg y0 (by omega)
              omega
            have hw := IntWalk.wrap64_in (y * 2 ^ q) (by omega)
            clear hy hv hq hpq hyq v0 v1
            go_wp2_with fail
            constructor
            · exact ⟨⟨j + 1, by omega, by go_num, by rw [hstep.out]⟩, trivial⟩
            · simp [intOf]; omega
          · have e : j = s := by omega
            subst e
            obtain ⟨v0, v1⟩ := valN_b Hb.out (a := a) j (by have := Hn.out; omega)
            obtain ⟨q, hq⟩ : ∃ q, q = 8 * j := ⟨_, rfl⟩
            have h8 : (8 : Int) * (j : Int) = (q : Int) := by omega
            rw [← hq] at v1
            have hpq := p24 (q := q) (by omega)
            have hhi : Hid (highI (8 * (j : Int)) = highI (q : Int)) := by show _ = _; rw [h8]
            have hu : Hid (uval j l a = if highI (q : Int) < valN l a j then valN l a j - 2 ^ q else valN l a j) := by show _ = _; rw [uval, sgn, h8, hq]
            have hw := IntWalk.wrap64_in (2 ^ q) (by omega)
            obtain ⟨x, hx⟩ : ∃ x, x = valN l a j := ⟨_, rfl⟩
            rw [← hx] at v0 v1 hu ⊢
            have hhb := high_b (q : Int)
            obtain ⟨P, hP⟩ : ∃ P : Int, P = 2 ^ q := ⟨_, rfl⟩
            have HP := Lib.hid hP
            have Hus := Lib.hid (uvals_step j l k)
            have Hfu : Hid (∀ (h : fitsB (uval j l a) b = false), unpackR l b = ([], 6)) := fun h => by
              rw [hd2.out, fit_upto (k := k) (by rw [uvals_len]; exact hlt) (by rw [uvals_ix hlt, ← Ha.out]; exact h)]; rfl
            rw [← Ha.out] at Hus
            clear hx hq
            by_cases hbig : highI (q : Int) < x
            · have hu2 : Hid (uval j l a = x - 2 ^ q) := by show _ = _; rw [hu.out, if_pos hbig]
              rw [hu2.out] at Hfu Hus
              clear HP hP
              cases hf : fitsB (x - 2 ^ q) b with
              | false =>
                have hr := Lib.hid (Hfu.out hf)
                go_wp2_with (first | ((with_reducible refine (highL_any _ _).mono ?_); rintro e w' ⟨rfl, rfl⟩) | ((with_reducible refine (fitsL_any _ _ _).mono ?_); rintro e w' ⟨rfl, rfl⟩))
                go_ret2
                rw [hr.out]
                exact ints_none hb'.out
              | true =>
                have Hf := Lib.hid hf
                go_wp2_with (first | (at_builtin; refine app_z _ rfl (.tmp 63) (.tmp 65) rfl w _ _ _ _ rfl (ho'.out.alloc _) _ _ 1 1 [x - 2 ^ q] rfl rfl (rd_new1 _ _ _) (by have := Hm.out; have := Nat.le_mul_of_pos_right k (show 0 < j by omega); have := Ha.out; omega) (bal hb'.out _) ?_; intro A4 c4 w4 ho4 hb4) | ((with_reducible refine (highL_any _ _).mono ?_); rintro e w' ⟨rfl, rfl⟩) | ((with_reducible refine (fitsL_any _ _ _).mono ?_); rintro e w' ⟨rfl, rfl⟩))
                have ho4' := Lib.hid ho4
                have hb4' := Lib.hid hb4
                clear ho4 hb4
                go_roundw
                case rel =>
                  refine ⟨⟨k + 1, A4, c4, by omega, ?_, rfl, ?_, fun i hi => ?_⟩, hb4'.out⟩
                  · have e9 : (a : Int) + (j : Int) = (((k + 1) * j : Nat) : Int) := by rw [Nat.add_mul, ← Ha.out]; omega
                    rw [← e9]
                  · rw [Hus.out]; exact ho4'.out
                  · by_cases e : i = k
                    · subst e; rw [← Ha.out, hu2.out]; exact Hf.out
                    · exact Hj.out i (by omega)
                case measure => simp [intOf]; omega
            · have hu2 : Hid (uval j l a = x) := by show _ = _; rw [hu.out, if_neg hbig]
              rw [hu2.out] at Hfu Hus
              have hbI : x ≤ highI (q : Int) := by omega
              clear hbig hw hpq hhb
              cases hf : fitsB (x) b with
              | false =>
                have hr := Lib.hid (Hfu.out hf)
                go_wp2_with (first | ((with_reducible refine (highL_any _ _).mono ?_); rintro e w' ⟨rfl, rfl⟩) | ((with_reducible refine (fitsL_any _ _ _).mono ?_); rintro e w' ⟨rfl, rfl⟩))
                go_ret2
                rw [hr.out]
                exact ints_none hb'.out
              | true =>
                have Hf := Lib.hid hf
                go_wp2_with (first | (at_builtin; refine app_z _ rfl (.tmp 63) (.tmp 65) rfl w _ _ _ _ rfl (ho'.out.alloc _) _ _ 1 1 [x] rfl rfl (rd_new1 _ _ _) (by have := Hm.out; have := Nat.le_mul_of_pos_right k (show 0 < j by omega); have := Ha.out; omega) (bal hb'.out _) ?_; intro A4 c4 w4 ho4 hb4) | ((with_reducible refine (highL_any _ _).mono ?_); rintro e w' ⟨rfl, rfl⟩) | ((with_reducible refine (fitsL_any _ _ _).mono ?_); rintro e w' ⟨rfl, rfl⟩))
                have ho4' := Lib.hid ho4
                have hb4' := Lib.hid hb4
                clear ho4 hb4
                go_roundw
                case rel =>
                  refine ⟨⟨k + 1, A4, c4, by omega, ?_, rfl, ?_, fun i hi => ?_⟩, hb4'.out⟩
                  · have e9 : (a : Int) + (j : Int) = (((k + 1) * j : Nat) : Int) := by rw [Nat.add_mul, ← Ha.out]; omega
                    rw [← e9]
                  · rw [Hus.out]; exact ho4'.out
                  · by_cases e : i = k
                    · subst e; rw [← Ha.out, hu2.out]; exact Hf.out
                    · exact Hj.out i (by omega)
                case measure => simp [intOf]; omega
      · have e : k = m := by omega
        subst e
        rw [← Hm.out]
        have hr : Hid (unpackR l b = (uvals s l k, 0)) := by
          show _ = _
          rw [hd2.out, if_pos]
          refine List.all_eq_true.2 fun x hx => ?_
          obtain ⟨i, hi, rfl⟩ := mem_ix hx
          rw [uvals_len] at hi
          rw [uvals_ix hi]
          exact Hj.out i hi
        go_wp2_with fail
        go_ret2
        rw [hr.out]
        refine ⟨A2, c2, ?_, ?_, hb'.out⟩
        · rw [uvals_len]; rfl
        · rw [uvals_len]; exact ho'.out
  · have hr : Hid (unpackR l b = ([], 3)) := by show _ = _; rw [hd.out, if_neg h3]
    obtain ⟨z, hz⟩ : ∃ z, z = n % s := ⟨_, rfl⟩
    rw [← hz] at hr0 h3
    have hne : ((z : Int) != 0) = true := by rw [bne_iff_ne]; omega
    clear h3 Hn hz hd
    go_enter Try.func44, Try.ntmps44
    go_wp2
    go_ret2
    rw [hr.out]
    exact ints_none (brefl w)
end Go.Proofs.Ytfihbcpainlpcaa
