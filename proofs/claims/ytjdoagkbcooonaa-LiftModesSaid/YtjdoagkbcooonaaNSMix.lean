/-
  A row whose first numbers are those of another (the seat of lift).
-/
import Derived.Test.YtjdoagkbcooonaaK
namespace Go.Proofs.Ytjdoagkbcooonaa
open Go.RowKit

/-- the row xs whose first k numbers are those of ys. -/
def mixTo (xs ys : List Int) (k : Nat) : List Int := (List.range xs.length).map fun j => if j < k then ix ys j else ix xs j
theorem mixTo_len (xs ys : List Int) (k : Nat) : (mixTo xs ys k).length = xs.length := by simp [mixTo]
theorem mixTo_ix {xs ys : List Int} {k j : Nat} (h : j < xs.length) : ix (mixTo xs ys k) j = if j < k then ix ys j else ix xs j := by unfold mixTo; rw [ix_map_range _ _ _ h]
theorem mixTo_low {xs ys : List Int} {k : Nat} (h : ∀ j, j < k → j < xs.length → ix ys j = ix xs j) : mixTo xs ys k = xs := ix_ext _ _ (mixTo_len ..) fun j hj => by
  rw [mixTo_len] at hj
  rw [mixTo_ix hj]
  split
  · rename_i h'; exact h j h' hj
  · rfl
theorem mixTo_zero (xs ys : List Int) : mixTo xs ys 0 = xs := mixTo_low fun j hj => by omega
theorem mixTo_all {xs ys : List Int} {k : Nat} (h : ys.length = xs.length) (hk : xs.length ≤ k) : mixTo xs ys k = ys := ix_ext _ _ (by rw [mixTo_len, h]) fun j hj => by rw [mixTo_len] at hj; rw [mixTo_ix hj, if_pos (by omega)]
theorem mixTo_set {xs ys : List Int} {k : Nat} (h : k < xs.length) : (mixTo xs ys k).set k (ix ys k) = mixTo xs ys (k + 1) := by
  refine ix_ext _ _ (by simp [mixTo_len]) fun j hj => ?_
  have hj' : j < xs.length := by simpa [mixTo_len] using hj
  rw [ix_set _ _ _ _ (by rw [mixTo_len]; exact h), mixTo_ix hj', mixTo_ix hj']
  by_cases e : j = k
  · subst e; simp
  · rw [if_neg e]
    by_cases h' : j < k
    · rw [if_pos h', if_pos (by omega)]
    · rw [if_neg h', if_neg (by omega)]
end Go.Proofs.Ytjdoagkbcooonaa
