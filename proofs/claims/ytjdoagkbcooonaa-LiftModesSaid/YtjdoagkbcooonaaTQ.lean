/-
  Plain: the best mode of two rows; that no mode fails on samples of 24 bits; no mode weighs less.
-/
import Derived.Test.YtjdoagkbcooonaaProg
import Derived.Test.YtjdoagkbcooonaaBM
import Derived.Test.YtjdoagkbcooonaaTWt
import Derived.Test.YtjdoagkbcooonaaTBack
namespace Go.Proofs.Ytjdoagkbcooonaa
open Go.RowKit

def resW (R : Nat → List Int) (mode : Int) : Int := weightP (resQ (doP 1 R 2 (namedP mode))) (resN (doP 1 R 2 (namedP mode)) 2)
def bestTo (R : Nat → List Int) : Nat → Int × Int
  | 0 => (0, weightP R 2)
  | k + 1 => if resW R ((k + 1 : Nat) : Int) < (bestTo R k).2 then (((k + 1 : Nat) : Int), resW R ((k + 1 : Nat) : Int)) else bestTo R k
def bestM (R : Nat → List Int) : Int := (bestTo R 4).1

theorem named_ok (mode : Int) : ∀ s ∈ namedP mode, liftOk 2 s.1 s.2.1 s.2.2 = true ∧ -256 ≤ s.2.2 ∧ s.2.2 ≤ 256 := by
  unfold namedP
  split
  · decide +kernel
  split
  · decide +kernel
  split
  · decide +kernel
  split
  · decide +kernel
  · intro s hs; cases hs
theorem named_liftB (mode : Int) : liftB (namedP mode) 2 = true := by
  have h := named_ok mode
  have hl := named_len mode
  simp only [liftB, Bool.and_eq_true, decide_eq_true_eq, List.all_eq_true]
  exact ⟨⟨⟨by omega, by omega⟩, by omega⟩, fun s hs => (h s hs).1⟩

/-- all numbers of r rows lie in -C .. C. -/
def Bnd (C : Int) (R : Nat → List Int) (r : Nat) : Prop := ∀ i, i < r → ∀ k, -C ≤ ix (R i) k ∧ ix (R i) k ≤ C
theorem gx_small {g x C : Int} (h1 : -256 ≤ g) (h2 : g ≤ 256) (h3 : -C ≤ x) (h4 : x ≤ C) : -C ≤ g * x / 256 ∧ g * x / 256 ≤ C := by
  have h5 : (g * x).natAbs = g.natAbs * x.natAbs := Int.natAbs_mul g x
  have h6 : g.natAbs * x.natAbs ≤ 256 * C.natAbs := Nat.mul_le_mul (by omega) (by omega)
  omega
theorem Bnd.app {C : Int} {R : Nat → List Int} {r f t : Nat} {g : Int} (h : Bnd C R r) (h0 : 0 ≤ C) (hf : f < r) (ht : t < r) (h1 : -256 ≤ g) (h2 : g ≤ 256) : Bnd (2 * C) (appP R f t g 1) r := fun i hi k => by
  by_cases e : i = t
  · subst e
    rw [appP_t]
    by_cases hk : k < (R f).length
    · rw [appRow_ix hk, Int.one_mul]
      have a := h i hi k
      have b := gx_small h1 h2 (h f hf k).1 (h f hf k).2
      omega
    · rw [show ix (appRow (R i) (R f) g 1) k = 0 from by simp [ix, appRow_len, hk]]; omega
  · rw [appP_o e]
    have a := h i hi k
    omega
theorem Bnd.wide {C : Int} {R : Nat → List Int} {r i : Nat} (h : Bnd C R r) (hi : i < r) (hC : C < 1073741824) : allWideB (R i) = true :=
  allWideB_true.2 fun k _ => wideB_true.2 (by have := h i hi k; omega)
theorem goL_small {r : Nat} : ∀ {ls : List Lft} {R : Nat → List Int} {C : Int}, (∀ s ∈ ls, liftOk (r : Int) s.1 s.2.1 s.2.2 = true ∧ -256 ≤ s.2.2 ∧ s.2.2 ≤ 256) → Bnd C R r → 0 ≤ C → C * 2 ^ ls.length < 1073741824 → ∃ Q, goL 1 R ls = some Q
  | [], R, C, _, _, _, _ => ⟨R, rfl⟩
  | s :: ls, R, C, hv, hb, h0, hC => by
    obtain ⟨hs, hg1, hg2⟩ := hv s (List.mem_cons_self ..)
    obtain ⟨s1, s2, s3, s4, s5, _⟩ := liftOk_true.1 hs
    have hb2 := hb.app (g := s.2.2) h0 (show s.1.toNat < r by omega) (show s.2.1.toNat < r by omega) hg1 hg2
    have e : C * 2 ^ (s :: ls).length = 2 * C * 2 ^ ls.length := by rw [List.length_cons, Int.pow_succ]; rw [← Int.mul_assoc, Int.mul_comm (C * 2 ^ ls.length) 2, Int.mul_assoc]
    rw [e] at hC
    have hp : (1 : Int) ≤ 2 ^ ls.length := by have := Int.pow_pos (n := 2) (m := ls.length) (by omega); omega
    have hw : allWideB (appRow (R s.2.1.toNat) (R s.1.toNat) s.2.2 1) = true := by
      have := hb2.wide (i := s.2.1.toNat) (by omega) (by
        have : 2 * C * 1 ≤ 2 * C * 2 ^ ls.length := Int.mul_le_mul_of_nonneg_left hp (by omega)
        omega)
      rwa [appP_t] at this
    rw [goL_some hw]
    exact goL_small (fun s hs => hv s (List.mem_cons_of_mem _ hs)) hb2 (by omega) hC

/-- two rows of samples. -/
def Two (R : Nat → List Int) : Prop := (R 1).length = (R 0).length ∧ (R 0).length ≤ 4096 ∧ Bnd 8388608 R 2
theorem Two.rows {R : Nat → List Int} (h : Two R) : rowsB R 2 = true :=
  rowsB_true.2 ⟨by omega, by omega, h.2.1, fun i hi => ⟨(by
    rcases (show i = 0 ∨ i = 1 by omega) with rfl | rfl
    · rfl
    · exact h.1), h.2.2.wide hi (by omega)⟩⟩
theorem pow_small {k m : Nat} (h : k ≤ m) : (2 : Int) ^ k ≤ ((2 ^ m : Nat) : Int) := by
  have h1 : 2 ^ k ≤ 2 ^ m := Nat.pow_le_pow_right (by omega) h
  have e : (2 : Int) ^ k = ((2 ^ k : Nat) : Int) := by simp
  rw [e]; exact Int.ofNat_le.2 h1
theorem Two.do_ {R : Nat → List Int} (h : Two R) (mode : Int) : ∃ Q, doP 1 R 2 (namedP mode) = .ok Q := by
  obtain ⟨Q, hq⟩ := goL_small (r := 2) (ls := namedP mode) (R := R) (C := 8388608) (named_ok mode) h.2.2 (by omega) (by
    have hl := named_len mode
    have := pow_small hl
    omega)
  exact ⟨Q, doP_some h.rows (named_liftB mode) hq⟩
theorem resW_of {R Q : Nat → List Int} {mode : Int} (h : doP 1 R 2 (namedP mode) = .ok Q) : resW R mode = weightP Q 2 := by unfold resW; rw [h]; rfl
theorem resW_zero {R : Nat → List Int} (h : Two R) : resW R 0 = weightP R 2 := resW_of (doP_some h.rows (named_liftB 0) rfl)
theorem best_inv {R : Nat → List Int} (h : Two R) : ∀ k : Nat, ∃ b : Nat, b ≤ k ∧ bestTo R k = ((b : Int), resW R b) ∧ ∀ j : Nat, j ≤ k → resW R b ≤ resW R j
  | 0 => ⟨0, Nat.le_refl _, (by
      show (0, weightP R 2) = (((0 : Nat) : Int), resW R ((0 : Nat) : Int))
      rw [show ((0 : Nat) : Int) = 0 from rfl, resW_zero h]), fun j hj => (by
      have e : j = 0 := by omega
      subst e
      exact Int.le_refl _)⟩
  | k + 1 => by
    obtain ⟨b, hb, he, hle⟩ := best_inv h k
    simp only [bestTo]
    rw [he]
    split
    · rename_i hlt
      exact ⟨k + 1, Nat.le_refl _, rfl, fun j hj => by
        by_cases e : j = k + 1
        · subst e; exact Int.le_refl _
        · have := hle j (by omega); simp only at hlt; omega⟩
    · rename_i hlt
      exact ⟨b, by omega, rfl, fun j hj => by
        by_cases e : j = k + 1
        · subst e; simp only at hlt; omega
        · exact hle j (by omega)⟩
theorem bestM_least {R : Nat → List Int} (h : Two R) : ∃ b : Nat, b ≤ 4 ∧ bestM R = (b : Int) ∧ ∀ j : Nat, j ≤ 4 → resW R b ≤ resW R j := by
  obtain ⟨b, hb, he, hle⟩ := best_inv h 4
  exact ⟨b, hb, by unfold bestM; rw [he], hle⟩

/-! ### All pairs of a block. -/
def pairR (R : Nat → List Int) (k : Nat) : Nat → List Int := fun i => R (2 * k + i)
def shiftL (d : Int) (ls : List Lft) : List Lft := ls.map fun s => (s.1 + d, s.2.1 + d, s.2.2)
theorem shift_len (d : Int) (ls : List Lft) : (shiftL d ls).length = ls.length := by simp [shiftL]
def bestUp (R : Nat → List Int) : Nat → List Lft
  | 0 => []
  | k + 1 => bestUp R k ++ shiftL ((2 * k : Nat) : Int) (namedP (bestM (pairR R k)))
theorem bestUp_len (R : Nat → List Int) : ∀ k, (bestUp R k).length ≤ 3 * k
  | 0 => by simp [bestUp]
  | k + 1 => by
    have h1 := bestUp_len R k
    have h2 := named_len (bestM (pairR R k))
    simp only [bestUp, List.length_append, shift_len]
    omega
def bestL (bits : Int) (R : Nat → List Int) (r : Nat) : List Lft := if bmayB bits R r = true then bestUp R (r / 2) else []
theorem fits_b {x b : Int} (h : fitsB x b = true) (h1 : b ≤ 24) : -8388608 ≤ x ∧ x ≤ 8388607 := by
  simp only [fitsB, Bool.and_eq_true, decide_eq_true_eq] at h
  obtain ⟨⟨h0, h2⟩, h3⟩ := h
  obtain ⟨o1, o2⟩ := okb_true.1 h0
  obtain ⟨k, hk⟩ : ∃ k : Nat, b = (k : Int) + 1 := ⟨(b - 1).toNat, by omega⟩
  subst hk
  rw [low_ok (by omega)] at h2
  rw [high_ok (by omega)] at h3
  have := pow_small (show k ≤ 23 by omega)
  omega
theorem pair_two {bits : Int} {R : Nat → List Int} {r k : Nat} (h : bmayB bits R r = true) (hk : 2 * k + 1 < r) : Two (pairR R k) := by
  obtain ⟨b1, b2, r1, r2, l1, l2, hall⟩ := bmayB_true.1 h
  have h0 := hall (2 * k) (by omega)
  have h1 := hall (2 * k + 1) (by omega)
  refine ⟨?_, ?_, fun i hi j => ?_⟩
  · show (R (2 * k + 1)).length = (R (2 * k)).length
    rw [h1.1, h0.1]
  · show (R (2 * k)).length ≤ 4096
    rw [h0.1]; exact l2
  · show -8388608 ≤ ix (R (2 * k + i)) j ∧ ix (R (2 * k + i)) j ≤ 8388608
    have hi2 := hall (2 * k + i) (by omega)
    by_cases hj : j < (R (2 * k + i)).length
    · have := fits_b (fitRow_true.1 hi2.2 j hj) b2
      omega
    · rw [show ix (R (2 * k + i)) j = 0 from by simp [ix, hj]]; omega
end Go.Proofs.Ytjdoagkbcooonaa
