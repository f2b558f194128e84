/-
  SampleWastes: the plain laws: a wide row, shifted down by what it wastes.
-/
import Derived.Test.YthpaohgdadnkaaaDoorProg
import Derived.Test.YthpaohgdadnkaaaDoorMN
import Derived.Test.YthpaohgdadnkaaaDoorMJoin
namespace Go.Proofs.YthpaohgdadnkaaaDoor
open Go.RowKit

theorem waste_nat (a : Int) : ∃ k : Nat, k ≤ 30 ∧ wasteI a = (k : Int) := by
  unfold wasteI
  split
  · exact ⟨0, by omega, rfl⟩
  · split
    · exact ⟨30, by omega, rfl⟩
    · exact ⟨_, by omega, rfl⟩
theorem waste_div {l : List Int} {k : Nat} (hk : wasteI (orTo l) = (k : Int)) (h30 : k ≤ 30) : ∀ x ∈ l, x % ((2 ^ k : Nat) : Int) = 0 := by
  refine (orTo_dvd l (by omega)).1 ?_
  by_cases h0 : orTo l = 0
  · rw [h0]; simp
  · exact (waste_dvd h0 (or_range l) h30).1 (by omega)
theorem div_mul {x : Int} {k : Nat} (h : x % ((2 ^ k : Nat) : Int) = 0) : x / 2 ^ k * 2 ^ k = x := by
  rw [p2]; exact Int.ediv_mul_cancel (Int.dvd_of_emod_eq_zero h)
theorem wide_div {x : Int} {k : Nat} (hw : wideB x = true) : wideB (x / 2 ^ k) = true := by
  have h := wideB_true.1 hw
  have hp : (0 : Int) < 2 ^ k := by rw [p2]; have := Nat.two_pow_pos k; omega
  refine wideB_true.2 ⟨?_, ?_⟩
  · rw [Int.le_ediv_iff_mul_le hp]
    omega
  · rw [Int.ediv_lt_iff_lt_mul hp]
    omega
theorem down_waste {l : List Int} {k : Nat} (hw : l.all wideB = true) (hk : wasteI (orTo l) = (k : Int)) (h30 : k ≤ 30) : downR l (k : Int) = (l.map (· / 2 ^ k), 0) := by
  rw [downR, if_pos ⟨by omega, by omega⟩, Int.toNat_natCast, if_pos]
  exact List.all_eq_true.2 fun x hx => downB_iff.2 ⟨List.all_eq_true.1 hw x hx, waste_div hk h30 x hx⟩
theorem up_waste {l : List Int} {k : Nat} (hw : l.all wideB = true) (hk : wasteI (orTo l) = (k : Int)) (h30 : k ≤ 30) : upR (l.map (· / 2 ^ k)) (k : Int) = (l, 0) := by
  have hd := waste_div hk h30
  rw [upR, if_pos ⟨by omega, by omega⟩, Int.toNat_natCast, if_pos]
  · congr 1
    rw [List.map_map]
    conv => rhs; rw [← List.map_id l]
    exact List.map_congr_left fun x hx => div_mul (hd x hx)
  · refine List.all_eq_true.2 fun y hy => ?_
    obtain ⟨x, hx, rfl⟩ := List.mem_map.1 hy
    have := List.all_eq_true.1 hw x hx
    simp [upB, wide_div this, div_mul (hd x hx), this]
/-- the row shifted down by what it wastes wastes nothing more. -/
theorem waste_again {l : List Int} {k : Nat} (hw : l.all wideB = true) (hk : wasteI (orTo l) = (k : Int)) (h30 : k ≤ 30) : wasteI (orTo (l.map (· / 2 ^ k))) = 0 := by
  have hd := waste_div hk h30
  have hwl := List.all_eq_true.1 hw
  have hwd : ∀ y ∈ l.map (· / 2 ^ k), wideB y = true := fun y hy => by
    obtain ⟨x, hx, rfl⟩ := List.mem_map.1 hy
    exact wide_div (hwl x hx)
  by_cases hz : orTo (l.map (· / 2 ^ k)) = 0
  · rw [wasteI, if_pos hz]
  · obtain ⟨j, hj30, hj⟩ := waste_nat (orTo (l.map (· / 2 ^ k)))
    cases j with
    | zero => exact hj
    | succ j =>
      exfalso
      have h1 := (waste_dvd hz (or_range _) (k := 1) (by omega)).1 (by omega)
      have h2 := (orTo_dvd _ (k := 1) (by omega)).1 h1
      have h3 : ∀ x ∈ l, x % ((2 ^ (k + 1) : Nat) : Int) = 0 := fun x hx => by
        have e1 := h2 _ (List.mem_map.2 ⟨x, hx, rfl⟩)
        have e2 := div_mul (hd x hx)
        obtain ⟨y, hy⟩ := Int.dvd_of_emod_eq_zero e1
        apply Int.emod_eq_zero_of_dvd
        refine ⟨y, ?_⟩
        rw [← e2, hy, p2]
        simp only [Nat.pow_succ, Int.natCast_mul]
        grind
      by_cases h0 : orTo l = 0
      · have hall := (orTo_zero hwl).1 h0
        exact hz ((orTo_zero hwd).2 fun y hy => by
          obtain ⟨x, hx, rfl⟩ := List.mem_map.1 hy
          rw [hall x hx]; simp)
      · by_cases h29 : k < 30
        · have := (waste_dvd h0 (or_range l) (k := k + 1) (by omega)).2 ((orTo_dvd l (by omega)).2 h3)
          omega
        · have e : k = 30 := by omega
          subst e
          exact h0 ((orTo_zero hwl).2 fun x hx => by
            have a1 := wideB_true.1 (hwl x hx)
            have a2 := h3 x hx
            omega)
end Go.Proofs.YthpaohgdadnkaaaDoor
