/-
  What stages leave of a row, and the row of what they leave: plain functions.
-/
import Derived.Test.YtjhmmbejpdibhaaProg
import Derived.Test.YtjhmmbejpdibhaaLG
namespace Go.Proofs.Ytjhmmbejpdibhaa
open Go.RowKit

/-- what a filter of n weights guesses at place k of xs. -/
def gsP (n : Nat) (r : Int) (xs : List Int) (k : Nat) : Int := guessP (toldP r (zeroF n) (xs.take k)).1 (toldP r (zeroF n) (xs.take k)).2
theorem gsP_wide (n : Nat) (r : Int) (xs : List Int) (k : Nat) : -1073741824 ≤ gsP n r xs k ∧ gsP n r xs k ≤ 1073741823 := nearI_wide _
def stRes (n : Nat) (r : Int) (xs : List Int) : List Int := (List.range xs.length).map fun k => ix xs k - gsP n r xs k
theorem stRes_len (n : Nat) (r : Int) (xs : List Int) : (stRes n r xs).length = xs.length := by simp [stRes]
theorem stRes_ix {n : Nat} {r : Int} {xs : List Int} {k : Nat} (h : k < xs.length) : ix (stRes n r xs) k = ix xs k - gsP n r xs k := by unfold stRes; rw [ix_map_range _ _ _ h]
/-- the row xs whose first k numbers are those of ys. -/
def mixTo (xs ys : List Int) (k : Nat) : List Int := (List.range xs.length).map fun j => if j < k then ix ys j else ix xs j
theorem mixTo_len (xs ys : List Int) (k : Nat) : (mixTo xs ys k).length = xs.length := by simp [mixTo]
theorem mixTo_ix {xs ys : List Int} {k j : Nat} (h : j < xs.length) : ix (mixTo xs ys k) j = if j < k then ix ys j else ix xs j := by unfold mixTo; rw [ix_map_range _ _ _ h]
theorem mixTo_zero (xs ys : List Int) : mixTo xs ys 0 = xs := ix_ext _ _ (mixTo_len ..) fun j hj => by rw [mixTo_ix (by rwa [mixTo_len] at hj), if_neg (by omega)]
theorem mixTo_all {xs ys : List Int} (h : ys.length = xs.length) : mixTo xs ys xs.length = ys := ix_ext _ _ (by rw [mixTo_len, h]) fun j hj => by rw [mixTo_len] at hj; rw [mixTo_ix hj, if_pos hj]
theorem mixTo_set {xs ys : List Int} {k : Nat} (h : k < xs.length) : (mixTo xs ys k).set k (ix ys k) = mixTo xs ys (k + 1) := by
  refine ix_ext _ _ (by simp [mixTo_len]) fun j hj => ?_
  have hj' : j < xs.length := by simpa [mixTo_len] using hj
  rw [ix_set _ _ _ _ (by rw [mixTo_len]; exact h), mixTo_ix hj', mixTo_ix hj']
  by_cases e : j = k
  · subst e; simp
  · rw [if_neg e]
    by_cases h' : j < k
    · rw [if_pos h', if_pos (by omega)]
    · rw [if_neg h', if_neg (by omega)]

def lrestTo (l : List Int) : List (Int × Int) → Option (List Int)
  | [] => some l
  | s :: ss => if allWideB (stRes s.1.toNat s.2 l) = true then lrestTo (stRes s.1.toNat s.2 l) ss else none
def lrestP (l : List Int) (ss : List (Int × Int)) : List Int × Int :=
  if mayB ss = false then ([], 1) else if allWideB l = false then ([], 6) else
  match lrestTo l ss with
  | none => ([], 6)
  | some y => (y, 0)
theorem lrestP_bad {l : List Int} {ss : List (Int × Int)} (h : mayB ss = false) : lrestP l ss = ([], 1) := by unfold lrestP; rw [if_pos h]
theorem lrestP_far {l : List Int} {ss : List (Int × Int)} (h : mayB ss = true) (h2 : allWideB l = false) : lrestP l ss = ([], 6) := by unfold lrestP; rw [if_neg (by rw [h]; simp), if_pos h2]
theorem lrestP_none {l : List Int} {ss : List (Int × Int)} (h : mayB ss = true) (h2 : allWideB l = true) (h3 : lrestTo l ss = none) : lrestP l ss = ([], 6) := by unfold lrestP; rw [if_neg (by rw [h]; simp), if_neg (by rw [h2]; simp), h3]
theorem lrestP_some {l y : List Int} {ss : List (Int × Int)} (h : mayB ss = true) (h2 : allWideB l = true) (h3 : lrestTo l ss = some y) : lrestP l ss = (y, 0) := by unfold lrestP; rw [if_neg (by rw [h]; simp), if_neg (by rw [h2]; simp), h3]
theorem drop_stage {ss : List (Int × Int)} {k : Nat} (h : k < ss.length) : ss.drop k = (sto ss k, str ss k) :: ss.drop (k + 1) := by
  have e : ss[k] = (sto ss k, str ss k) := by simp [sto, str, h]
  rw [← e]; exact List.drop_eq_getElem_cons h
theorem lrestTo_cons (l : List Int) (s : Int × Int) (ss : List (Int × Int)) : lrestTo l (s :: ss) = if allWideB (stRes s.1.toNat s.2 l) = true then lrestTo (stRes s.1.toNat s.2 l) ss else none := rfl

theorem newL_int (o r : Int) (hv : validB o r = true) (w : World) : Calls Try.prog 12 #[.agg #[.int .i64 o, .int .i64 r]] w (NewlQ o.toNat r w) := by
  obtain ⟨h1, h2, h3, h4⟩ := validB_true.1 hv
  obtain ⟨n, rfl⟩ : ∃ n : Nat, o = (n : Int) := ⟨o.toNat, by omega⟩
  rw [Int.toNat_natCast]
  exact newL_yes n r (by omega) (by omega) h3 h4 w
theorem newR_int (o r : Int) (hv : validB o r = true) (w : World) : Calls Try.prog 13 #[.agg #[.int .i64 o, .int .i64 r]] w (NewrQ o.toNat r w) := by
  obtain ⟨h1, h2, h3, h4⟩ := validB_true.1 hv
  obtain ⟨n, rfl⟩ : ∃ n : Nat, o = (n : Int) := ⟨o.toNat, by omega⟩
  rw [Int.toNat_natCast]
  exact newR_yes n r (by omega) (by omega) h3 h4 w

def LPairQ (r : List Int × Int) (w : World) (e : Ending) (w' : World) : Prop :=
  ∃ A c, e = .returned (.tuple #[.slice A r.1.length c, .int .i64 r.2]) ∧ w'.ownsRow w.heap.size 3 1 (.slice A r.1.length c) r.1.length (r.1.map (.int .i64)) ∧ Below w.heap.size w w'
theorem lpair_err {x : Int} {w w' : World} (hb : Below w.heap.size w w') : LPairQ ([], x) w (.returned (.tuple #[.slice none 0 0, .int .i64 x])) w' := ⟨none, 0, rfl, World.ownsRow_nil _ _ _ _, hb⟩
end Go.Proofs.Ytjhmmbejpdibhaa
