/-
  Differences of orders 0 to 4: the plain functions that the code of package fixed computes (the seat of linear).
-/
import Derived.Test.YtmbebcgicddbnaaK
import Derived.Test.YtmbebcgicddbnaaR2W
namespace Go.Proofs.Ytmbebcgicddbnaa
open Go.RowKit

def rdiff (l : List Int) : List Int := (List.range (l.length - 1)).map fun i => wrap64 (ix l (i + 1) - ix l i)
theorem rdiff_len (l : List Int) : (rdiff l).length = l.length - 1 := by simp [rdiff]
theorem rdiff_ix {l : List Int} {i : Nat} (h : i < l.length - 1) : ix (rdiff l) i = wrap64 (ix l (i + 1) - ix l i) := by
  unfold rdiff; rw [ix_map_range _ _ _ h]
def diffN (l : List Int) : Nat → List Int
  | 0 => l
  | k + 1 => rdiff (diffN l k)
theorem diffN_len (l : List Int) (k : Nat) : (diffN l k).length = l.length - k := by
  induction k with
  | zero => rfl
  | succ k ih => rw [diffN, rdiff_len, ih]; omega
/-- the row in the midst of the in-place differences. -/
def inTo (l : List Int) (k : Nat) : List Int := (List.range l.length).map fun j => if j < k then wrap64 (ix l (j + 1) - ix l j) else ix l j
theorem inTo_len (l : List Int) (k : Nat) : (inTo l k).length = l.length := by simp [inTo]
theorem inTo_ix {l : List Int} {k j : Nat} (h : j < l.length) : ix (inTo l k) j = if j < k then wrap64 (ix l (j + 1) - ix l j) else ix l j := by
  unfold inTo; rw [ix_map_range _ _ _ h]
theorem inTo_zero (l : List Int) : inTo l 0 = l := ix_ext _ _ (inTo_len ..) fun j hj => by rw [inTo_ix (by rwa [inTo_len] at hj), if_neg (by omega)]
theorem inTo_set {l : List Int} {k : Nat} (h : k + 1 < l.length) : (inTo l k).set k (wrap64 (ix l (k + 1) - ix l k)) = inTo l (k + 1) := by
  refine ix_ext _ _ (by simp [inTo_len]) fun j hj => ?_
  have hj' : j < l.length := by simpa [inTo_len] using hj
  rw [ix_set _ _ _ _ (by rw [inTo_len]; omega), inTo_ix hj', inTo_ix hj']
  by_cases e : j = k
  · subst e; simp
  · rw [if_neg e]
    by_cases h' : j < k
    · rw [if_pos h', if_pos (by omega)]
    · rw [if_neg h', if_neg (by omega)]
theorem inTo_done (l : List Int) : (inTo l (l.length - 1)).take (l.length - 1) = rdiff l := by
  refine ix_ext _ _ (by rw [List.length_take, inTo_len, rdiff_len]; omega) fun j hj => ?_
  have hj' : j < l.length - 1 := by rw [List.length_take, inTo_len] at hj; omega
  rw [ix_take hj', inTo_ix (by omega), if_pos hj', rdiff_ix hj']

def okOrder (l : List Int) (o : Int) : Bool := decide (0 ≤ o) && decide (o ≤ 4) && decide (o ≤ l.length)
theorem okOrder_true {l : List Int} {o : Int} : okOrder l o = true ↔ 0 ≤ o ∧ o ≤ 4 ∧ o ≤ l.length := by simp [okOrder, and_assoc]
def restP (l : List Int) (o : Int) : List Int × Int :=
  if okOrder l o = false then ([], 1) else if allWideB l = false then ([], 6) else if allWideB (diffN l o.toNat) = false then ([], 6) else (diffN l o.toNat, 0)
theorem restP_bad {l : List Int} {o : Int} (h : okOrder l o = false) : restP l o = ([], 1) := by unfold restP; rw [if_pos h]
theorem restP_far {l : List Int} {o : Int} (h : okOrder l o = true) (h2 : allWideB l = false) : restP l o = ([], 6) := by unfold restP; rw [if_neg (by rw [h]; simp), if_pos h2]
theorem restP_out {l : List Int} {o : Int} (h : okOrder l o = true) (h2 : allWideB l = true) (h3 : allWideB (diffN l o.toNat) = false) : restP l o = ([], 6) := by
  unfold restP; rw [if_neg (by rw [h]; simp), if_neg (by rw [h2]; simp), if_pos h3]
theorem restP_ok {l : List Int} {o : Int} (h : okOrder l o = true) (h2 : allWideB l = true) (h3 : allWideB (diffN l o.toNat) = true) : restP l o = (diffN l o.toNat, 0) := by
  unfold restP; rw [if_neg (by rw [h]; simp), if_neg (by rw [h2]; simp), if_neg (by rw [h3]; simp)]

theorem restP_err {l : List Int} {o : Int} (h : (restP l o).2 ≠ 0) : (restP l o).1 = [] := by
  unfold restP at h ⊢
  (repeat' split) <;> simp_all
theorem restP_okc {l : List Int} {o : Int} (h : (restP l o).2 = 0) : okOrder l o = true ∧ allWideB l = true ∧ allWideB (diffN l o.toNat) = true ∧ (restP l o).1 = diffN l o.toNat := by
  unfold restP at h ⊢
  by_cases h1 : okOrder l o = false
  · simp [h1] at h
  · by_cases h2 : allWideB l = false
    · simp [h1, h2] at h
    · by_cases h3 : allWideB (diffN l o.toNat) = false
      · simp [h1, h2, h3] at h
      · simp at h1 h2 h3
        simp [h1, h2, h3]
theorem restP_ord {l : List Int} {o : Int} (h : (restP l o).2 = 0) : 0 ≤ o ∧ o ≤ 4 := by
  have := okOrder_true.1 (restP_okc h).1; omega
theorem restP_len {l : List Int} {o : Int} : (restP l o).1.length ≤ l.length := by
  unfold restP
  (repeat' split) <;> simp [diffN_len]

end Go.Proofs.Ytmbebcgicddbnaa
