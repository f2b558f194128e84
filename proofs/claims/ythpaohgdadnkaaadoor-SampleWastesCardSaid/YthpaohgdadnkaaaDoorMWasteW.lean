/-
  SampleWastes: the width of a row shifted down.
-/
import Derived.Test.YthpaohgdadnkaaaDoorProg
import Derived.Test.YthpaohgdadnkaaaDoorMWasteP
namespace Go.Proofs.YthpaohgdadnkaaaDoor
open Go.RowKit

theorem fits_iff {x : Int} {w : Nat} (h1 : 1 ≤ w) (h2 : w ≤ 31) : fitsB x (w : Int) = true ↔ -((2 ^ (w - 1) : Nat) : Int) ≤ x ∧ x < ((2 ^ (w - 1) : Nat) : Int) := by
  have ho : okb (w : Int) = true := okb_true.2 ⟨by omega, by omega⟩
  have hl : lowI (w : Int) = -((2 ^ (w - 1) : Nat) : Int) := by rw [lowI, if_pos ho, show ((w : Int) - 1).toNat = w - 1 by omega, p2]
  have hh : highI (w : Int) = ((2 ^ (w - 1) : Nat) : Int) - 1 := by rw [highI, if_pos ho, show ((w : Int) - 1).toNat = w - 1 by omega, p2]
  simp only [fitsB, Bool.and_eq_true, decide_eq_true_eq, ho, true_and, hl, hh]
  omega
theorem fits_shift {d : Int} {k w : Nat} (h1 : 1 ≤ w) (h2 : w + k ≤ 31) : fitsB (d * ((2 ^ k : Nat) : Int)) ((w + k : Nat) : Int) = true ↔ fitsB d (w : Int) = true := by
  rw [fits_iff (by omega) h2, fits_iff h1 (by omega), show w + k - 1 = (w - 1) + k by omega, Nat.pow_add, Int.natCast_mul]
  have hp : (0 : Int) < ((2 ^ k : Nat) : Int) := by have := Nat.two_pow_pos k; omega
  generalize ((2 ^ k : Nat) : Int) = P at *
  generalize ((2 ^ (w - 1) : Nat) : Int) = Q at *
  rw [← Int.neg_mul]
  constructor
  · rintro ⟨a, b⟩
    exact ⟨Int.le_of_mul_le_mul_right a hp, Int.lt_of_mul_lt_mul_right b (by omega)⟩
  · rintro ⟨a, b⟩
    exact ⟨Int.mul_le_mul_of_nonneg_right a (by omega), Int.mul_lt_mul_of_pos_right b hp⟩
theorem fits_low {d : Int} {k w : Nat} (hd : d ≠ 0) (hw : w ≤ k) : fitsB (d * ((2 ^ k : Nat) : Int)) (w : Int) = false := by
  cases h : fitsB (d * ((2 ^ k : Nat) : Int)) (w : Int) with
  | false => rfl
  | true =>
    exfalso
    have ho : okb (w : Int) = true := by simp only [fitsB, Bool.and_eq_true] at h; exact h.1.1
    have hb := okb_true.1 ho
    have h3 := (fits_iff (by omega) (by omega)).1 h
    have hp : 2 * 2 ^ (w - 1) ≤ 2 ^ k := by
      have := Nat.pow_le_pow_right (n := 2) (by omega) hw
      have e : (2 : Nat) ^ w = 2 * 2 ^ (w - 1) := by rw [show w = (w - 1) + 1 by omega, Nat.pow_succ]; simp; omega
      omega
    have hq := Nat.two_pow_pos (w - 1)
    generalize (2 : Nat) ^ (w - 1) = Q at *
    generalize (2 : Nat) ^ k = P at *
    by_cases hs : 0 < d
    · have : 1 * (P : Int) ≤ d * (P : Int) := Int.mul_le_mul_of_nonneg_right (by omega) (by omega)
      omega
    · have : d * (P : Int) ≤ -1 * (P : Int) := Int.mul_le_mul_of_nonneg_right (by omega) (by omega)
      omega
theorem need_least {x : Int} (h0 : x ≠ 0) (hw : wideB x = true) : 1 ≤ need x 0 ∧ need x 0 ≤ 31 ∧ fitsB x (need x 0 : Int) = true ∧ ∀ v : Nat, v < need x 0 → fitsB x (v : Int) = false := by
  obtain ⟨s1, s2⟩ := grow_spec x 33 0 (by omega) (by omega)
  have u1 := (need_le (x := x) (w := 0) (by omega)).1
  change (need x 0 = 0 ∨ (0 < need x 0 ∧ x ≠ 0 ∧ fitsB x ((need x 0 : Int) - 1) = false)) at s1
  change (x = 0 ∨ need x 0 = 32 ∨ fitsB x (need x 0 : Int) = true) at s2
  obtain ⟨u, hu⟩ : ∃ u, u = need x 0 := ⟨_, rfl⟩
  rw [← hu] at s1 s2 u1 ⊢
  have h31 : fitsB x ((31 : Nat) : Int) = true := by
    have := wideB_true.1 hw
    exact (fits_iff (w := 31) (by omega) (by omega)).2 (by simp; omega)
  have hmore : ∀ v : Nat, v < u → u ≤ 32 → fitsB x (v : Int) = true → fitsB x ((u : Int) - 1) = true := fun v hv h32 h => by
    have := fits_more h (show v ≤ u - 1 by omega) (by omega)
    rwa [show ((u - 1 : Nat) : Int) = (u : Int) - 1 by omega] at this
  have hz : fitsB x ((0 : Nat) : Int) = false := by
    have : okb ((0 : Nat) : Int) = false := okb_no (by omega)
    simp only [fitsB, this, Bool.false_and]
  rcases s1 with s1 | ⟨s1, _, s3⟩
  · subst s1
    rcases s2 with s2 | s2 | s2
    · exact absurd s2 h0
    · omega
    · rw [hz] at s2; cases s2
  · have hne : u ≠ 32 := fun e => by
      have := hmore 31 (by omega) u1 h31
      rw [s3] at this; cases this
    refine ⟨by omega, by omega, ?_, fun v hv => ?_⟩
    · rcases s2 with s2 | s2 | s2
      · exact absurd s2 h0
      · exact absurd s2 hne
      · exact s2
    · cases h : fitsB x (v : Int) with
      | false => rfl
      | true => have := hmore v hv u1 h; rw [s3] at this; cases this
theorem need_shift {d : Int} {k : Nat} (hd : d ≠ 0) (hwd : wideB d = true) (hw : wideB (d * ((2 ^ k : Nat) : Int)) = true) : need (d * ((2 ^ k : Nat) : Int)) 0 = need d 0 + k := by
  have hp : (0 : Int) < ((2 ^ k : Nat) : Int) := by have := Nat.two_pow_pos k; omega
  have hx : d * ((2 ^ k : Nat) : Int) ≠ 0 := Int.mul_ne_zero hd (by omega)
  obtain ⟨a1, a2, a3, a4⟩ := need_least hx hw
  obtain ⟨b1, b2, b3, b4⟩ := need_least hd hwd
  obtain ⟨u, hu⟩ : ∃ u, u = need (d * ((2 ^ k : Nat) : Int)) 0 := ⟨_, rfl⟩
  obtain ⟨n, hn⟩ : ∃ n, n = need d 0 := ⟨_, rfl⟩
  rw [← hu] at a1 a2 a3 a4 ⊢
  rw [← hn] at b1 b2 b3 b4 ⊢
  have hku : k < u := by
    apply Classical.byContradiction
    intro h
    rw [fits_low hd (by omega)] at a3; cases a3
  have h1 : n + k ≤ u := by
    apply Classical.byContradiction
    intro h
    have := (fits_shift (d := d) (k := k) (w := u - k) (by omega) (by omega)).1 (by rw [show u - k + k = u by omega]; exact a3)
    rw [b4 (u - k) (by omega)] at this; cases this
  have h2 : u ≤ n + k := by
    apply Classical.byContradiction
    intro h
    have := (fits_shift (d := d) (k := k) (w := n) b1 (by omega)).2 b3
    rw [a4 (n + k) (by omega)] at this; cases this
  omega
theorem width_cons (x : Int) (l : List Int) : widthN (x :: l) = max (need x 0) (widthN l) := by
  have e : widthN (x :: l) = foldN l (need x 0) := rfl
  rw [e, fold_max l _ (need_le (by omega)).1]; rfl
theorem need_zero : need 0 0 = 0 := need_stop (by simp)
theorem width_shift {k : Nat} : ∀ (l : List Int), (∀ x ∈ l, wideB x = true ∧ x % ((2 ^ k : Nat) : Int) = 0) → (widthN l = 0 ∧ widthN (l.map (· / 2 ^ k)) = 0) ∨ (widthN l = widthN (l.map (· / 2 ^ k)) + k ∧ 1 ≤ widthN (l.map (· / 2 ^ k)))
  | [], _ => Or.inl ⟨rfl, rfl⟩
  | x :: l, h => by
    obtain ⟨hw, hd⟩ := h x (List.mem_cons_self ..)
    have ih := width_shift (k := k) l fun y hy => h y (List.mem_cons_of_mem _ hy)
    rw [List.map_cons, width_cons, width_cons]
    by_cases h0 : x = 0
    · subst h0
      rw [Int.zero_ediv, need_zero]
      omega
    · have e := div_mul hd
      rw [p2 k] at e
      have hd0 : x / ((2 ^ k : Nat) : Int) ≠ 0 := fun e0 => h0 (by rw [← e, e0]; simp)
      have hwd : wideB (x / ((2 ^ k : Nat) : Int)) = true := by rw [← p2]; exact wide_div hw
      have hs := need_shift hd0 hwd (by rw [e]; exact hw)
      have hl := (need_least hd0 hwd).1
      rw [e] at hs
      rw [show x / 2 ^ k = x / ((2 ^ k : Nat) : Int) by rw [p2]]
      omega
end Go.Proofs.YthpaohgdadnkaaaDoor
