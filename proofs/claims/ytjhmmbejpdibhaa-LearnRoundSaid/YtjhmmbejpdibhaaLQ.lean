/-
  The row of what stages leave: plain functions. No program is named.
-/
import Derived.Test.YtjhmmbejpdibhaaProg
import Derived.Test.YtjhmmbejpdibhaaLP
namespace Go.Proofs.Ytjhmmbejpdibhaa
open Go.RowKit

/-- the first k numbers of the row of which a filter of n weights leaves ys. -/
def bkRow (n : Nat) (r : Int) (ys : List Int) : Nat → List Int
  | 0 => []
  | k + 1 => bkRow n r ys k ++ [guessP (toldP r (zeroF n) (bkRow n r ys k)).1 (toldP r (zeroF n) (bkRow n r ys k)).2 + ix ys k]
theorem bkRow_len (n : Nat) (r : Int) (ys : List Int) : ∀ k, (bkRow n r ys k).length = k
  | 0 => rfl
  | k + 1 => by rw [bkRow, List.length_append, bkRow_len n r ys k]; rfl
theorem bkRow_take (n : Nat) (r : Int) (ys : List Int) : ∀ {k m : Nat}, k ≤ m → (bkRow n r ys m).take k = bkRow n r ys k
  | k, 0, h => by obtain rfl : k = 0 := by omega
                  rfl
  | k, m + 1, h => by
    by_cases e : k = m + 1
    · subst e; rw [List.take_of_length_le (by rw [bkRow_len]; exact Nat.le_refl _)]
    · rw [bkRow, List.take_append_of_le_length (by rw [bkRow_len]; omega), bkRow_take n r ys (by omega)]
theorem bkRow_ix {n : Nat} {r : Int} {ys : List Int} {k m : Nat} (h : k < m) : ix (bkRow n r ys m) k = gsP n r (bkRow n r ys m) k + ix ys k := by
  have e : ix (bkRow n r ys m) k = ix (bkRow n r ys (k + 1)) k := by rw [← bkRow_take n r ys (show k + 1 ≤ m by omega), ix_take (by omega)]
  rw [e, bkRow, ix_append_right (by rw [bkRow_len]; exact Nat.le_refl _), bkRow_len, Nat.sub_self]
  unfold gsP
  rw [bkRow_take n r ys (show k ≤ m by omega)]
  rfl
theorem bkRow_res (n : Nat) (r : Int) (xs : List Int) : ∀ {k : Nat}, k ≤ xs.length → bkRow n r (stRes n r xs) k = xs.take k
  | 0, _ => by simp [bkRow]
  | k + 1, h => by
    rw [bkRow, bkRow_res n r xs (k := k) (by omega), take_succ_ix (by omega), stRes_ix (by omega)]
    congr 2
    show gsP n r xs k + (ix xs k - gsP n r xs k) = _
    omega
theorem res_bkRow (n : Nat) (r : Int) (ys : List Int) : stRes n r (bkRow n r ys ys.length) = ys := by
  refine ix_ext _ _ (by rw [stRes_len, bkRow_len]) fun k hk => ?_
  rw [stRes_len, bkRow_len] at hk
  rw [stRes_ix (by rw [bkRow_len]; exact hk)]
  have := bkRow_ix (n := n) (r := r) (ys := ys) hk
  omega

def stepB (xs : List Int) (s : Int × Int) : Except Int (List Int) :=
  if validB s.1 s.2 = false then .error 1 else if allWideB (bkRow s.1.toNat s.2 xs xs.length) = true then .ok (bkRow s.1.toNat s.2 xs xs.length) else .error 6
def goB (xs : List Int) : List (Int × Int) → Except Int (List Int)
  | [] => .ok xs
  | s :: ss => match stepB xs s with
    | .error c => .error c
    | .ok ys => goB ys ss
theorem goB_cons (xs : List Int) (s : Int × Int) (ss : List (Int × Int)) : goB xs (s :: ss) = match stepB xs s with | .error c => .error c | .ok ys => goB ys ss := rfl
theorem goB_ok {xs ys : List Int} {s : Int × Int} {ss : List (Int × Int)} (h : stepB xs s = .ok ys) : goB xs (s :: ss) = goB ys ss := by rw [goB_cons, h]
theorem goB_err {xs : List Int} {c : Int} {s : Int × Int} {ss : List (Int × Int)} (h : stepB xs s = .error c) : goB xs (s :: ss) = .error c := by rw [goB_cons, h]
theorem goB_app_ok : ∀ {pre : List (Int × Int)} {xs ys : List Int} {ss : List (Int × Int)}, goB xs pre = .ok ys → goB xs (pre ++ ss) = goB ys ss
  | [], xs, ys, ss, h => by cases h; rfl
  | s :: pre, xs, ys, ss, h => by
    rw [goB_cons] at h
    cases hs : stepB xs s with
    | error c => rw [hs] at h; cases h
    | ok zs => rw [hs] at h; rw [List.cons_append, goB_ok hs]; exact goB_app_ok h
theorem goB_app_err : ∀ {pre : List (Int × Int)} {xs : List Int} {c : Int} {ss : List (Int × Int)}, goB xs pre = .error c → goB xs (pre ++ ss) = .error c
  | [], xs, c, ss, h => by cases h
  | s :: pre, xs, c, ss, h => by
    rw [goB_cons] at h
    cases hs : stepB xs s with
    | error c' => rw [hs] at h; cases h; rw [List.cons_append, goB_err hs]
    | ok zs => rw [hs] at h; rw [List.cons_append, goB_ok hs]; exact goB_app_err h
theorem stepB_bad {xs : List Int} {s : Int × Int} (h : validB s.1 s.2 = false) : stepB xs s = .error 1 := by unfold stepB; rw [if_pos h]
theorem stepB_far {xs : List Int} {s : Int × Int} (h : validB s.1 s.2 = true) (h2 : allWideB (bkRow s.1.toNat s.2 xs xs.length) = false) : stepB xs s = .error 6 := by unfold stepB; rw [if_neg (by rw [h]; simp), if_neg (by rw [h2]; simp)]
theorem stepB_ok {xs : List Int} {s : Int × Int} (h : validB s.1 s.2 = true) (h2 : allWideB (bkRow s.1.toNat s.2 xs xs.length) = true) : stepB xs s = .ok (bkRow s.1.toNat s.2 xs xs.length) := by unfold stepB; rw [if_neg (by rw [h]; simp), if_pos h2]
theorem stepB_okc {xs ys : List Int} {s : Int × Int} (h : stepB xs s = .ok ys) : validB s.1 s.2 = true ∧ allWideB ys = true ∧ ys = bkRow s.1.toNat s.2 xs xs.length := by
  unfold stepB at h
  split at h
  · cases h
  · rename_i hv
    split at h
    · rename_i hw
      cases h
      exact ⟨by cases e : validB s.1 s.2 <;> simp_all, hw, rfl⟩
    · cases h
theorem goB_okc : ∀ {ss : List (Int × Int)} {xs ys : List Int}, allWideB xs = true → goB xs ss = .ok ys → allWideB ys = true ∧ ys.length = xs.length
  | [], xs, ys, h, hg => by cases hg; exact ⟨h, rfl⟩
  | s :: ss, xs, ys, h, hg => by
    rw [goB_cons] at hg
    cases hs : stepB xs s with
    | error c => rw [hs] at hg; cases hg
    | ok zs =>
      rw [hs] at hg
      obtain ⟨_, h2, h3⟩ := stepB_okc hs
      obtain ⟨h4, h5⟩ := goB_okc h2 hg
      exact ⟨h4, by rw [h5, h3, bkRow_len]⟩

def lbackP (rest : List Int) (ss : List (Int × Int)) : List Int × Int :=
  if mayB ss = false then ([], 1) else if allWideB rest = false then ([], 6) else
  match goB rest ss.reverse with
  | .error c => ([], c)
  | .ok y => (y, 0)
theorem lbackP_bad {l : List Int} {ss : List (Int × Int)} (h : mayB ss = false) : lbackP l ss = ([], 1) := by unfold lbackP; rw [if_pos h]
theorem lbackP_far {l : List Int} {ss : List (Int × Int)} (h : mayB ss = true) (h2 : allWideB l = false) : lbackP l ss = ([], 6) := by unfold lbackP; rw [if_neg (by rw [h]; simp), if_pos h2]
theorem lbackP_err {l : List Int} {ss : List (Int × Int)} {c : Int} (h : mayB ss = true) (h2 : allWideB l = true) (h3 : goB l ss.reverse = .error c) : lbackP l ss = ([], c) := by unfold lbackP; rw [if_neg (by rw [h]; simp), if_neg (by rw [h2]; simp), h3]
theorem lbackP_ok {l y : List Int} {ss : List (Int × Int)} (h : mayB ss = true) (h2 : allWideB l = true) (h3 : goB l ss.reverse = .ok y) : lbackP l ss = (y, 0) := by unfold lbackP; rw [if_neg (by rw [h]; simp), if_neg (by rw [h2]; simp), h3]
theorem goB_code : ∀ {ss : List (Int × Int)} {xs : List Int} {c : Int}, goB xs ss = .error c → c ≠ 0
  | [], xs, c, h => by cases h
  | s :: ss, xs, c, h => by
    rw [goB_cons] at h
    cases hs : stepB xs s with
    | error c' =>
      rw [hs] at h; cases h
      unfold stepB at hs
      split at hs
      · cases hs; omega
      · split at hs
        · cases hs
        · cases hs; omega
    | ok zs => rw [hs] at h; exact goB_code h
theorem lbackP_okc {l : List Int} {ss : List (Int × Int)} (h : (lbackP l ss).2 = 0) : mayB ss = true ∧ allWideB l = true ∧ goB l ss.reverse = .ok (lbackP l ss).1 := by
  unfold lbackP at h ⊢
  by_cases h1 : mayB ss = false
  · simp [h1] at h
  · by_cases h2 : allWideB l = false
    · simp [h1, h2] at h
    · simp at h1 h2
      cases h3 : goB l ss.reverse with
      | error c => simp [h1, h2, h3] at h; exact absurd h (goB_code h3)
      | ok y => simp [h1, h2]
theorem lback_nil {l : List Int} {ss : List (Int × Int)} (h : (lbackP l ss).2 ≠ 0) : (lbackP l ss).1 = [] := by
  unfold lbackP at h ⊢
  (repeat' split) <;> simp_all
theorem lbackP_len {l : List Int} {ss : List (Int × Int)} : (lbackP l ss).1.length ≤ l.length := by
  by_cases h : (lbackP l ss).2 = 0
  · obtain ⟨h1, h2, h3⟩ := lbackP_okc h
    exact Nat.le_of_eq (goB_okc h2 h3).2
  · rw [lback_nil h]; simp

/-! ### Back of Rest, Rest of Back -/
theorem back_rest : ∀ {ss : List (Int × Int)} {l y : List Int}, (∀ s ∈ ss, validB s.1 s.2 = true) → allWideB l = true → lrestTo l ss = some y → goB y ss.reverse = .ok l
  | [], l, y, _, _, h => by simp [lrestTo] at h; subst h; rfl
  | s :: ss, l, y, hv, hw, h => by
    rw [lrestTo_cons] at h
    split at h
    · rename_i hw2
      have ih := back_rest (fun s hs => hv s (List.mem_cons_of_mem _ hs)) hw2 h
      have e : bkRow s.1.toNat s.2 (stRes s.1.toNat s.2 l) (stRes s.1.toNat s.2 l).length = l := by
        rw [stRes_len, bkRow_res _ _ _ (Nat.le_refl _), List.take_length]
      have hst : stepB (stRes s.1.toNat s.2 l) s = .ok l := by
        rw [stepB_ok (hv s (List.mem_cons_self ..)) (by rw [e]; exact hw), e]
      rw [List.reverse_cons, goB_app_ok ih, goB_ok hst]; rfl
    · cases h
theorem rest_back : ∀ {ss : List (Int × Int)} {rest m : List Int}, allWideB rest = true → goB rest ss.reverse = .ok m → lrestTo m ss = some rest
  | [], rest, m, _, h => by cases h; rfl
  | s :: ss, rest, m, hw, h => by
    rw [List.reverse_cons] at h
    cases hz : goB rest ss.reverse with
    | error c => rw [goB_app_err hz] at h; cases h
    | ok z =>
      rw [goB_app_ok hz, goB_cons] at h
      cases hs : stepB z s with
      | error c => rw [hs] at h; cases h
      | ok q =>
        rw [hs] at h
        cases h
        obtain ⟨_, _, h3⟩ := stepB_okc hs
        have e : stRes s.1.toNat s.2 m = z := by rw [h3]; exact res_bkRow _ _ _
        rw [lrestTo_cons, e, if_pos (goB_okc hw hz).1]
        exact rest_back hw hz
theorem lrestP_okc {l : List Int} {ss : List (Int × Int)} (h : (lrestP l ss).2 = 0) : mayB ss = true ∧ allWideB l = true ∧ lrestTo l ss = some (lrestP l ss).1 := by
  unfold lrestP at h ⊢
  by_cases h1 : mayB ss = false
  · simp [h1] at h
  · by_cases h2 : allWideB l = false
    · simp [h1, h2] at h
    · simp at h1 h2
      cases h3 : lrestTo l ss with
      | none => simp [h1, h2, h3] at h
      | some y => simp [h1, h2]
theorem mayB_mem {ss : List (Int × Int)} (h : mayB ss = true) : ∀ s ∈ ss, validB s.1 s.2 = true := fun s hs => by
  simp only [mayB, Bool.and_eq_true, List.all_eq_true] at h
  exact h.2 s hs
theorem lrestTo_wide : ∀ {ss : List (Int × Int)} {l y : List Int}, allWideB l = true → lrestTo l ss = some y → allWideB y = true
  | [], l, y, hw, h => by simp [lrestTo] at h; subst h; exact hw
  | s :: ss, l, y, _, h => by
    rw [lrestTo_cons] at h
    split at h
    · rename_i hw; exact lrestTo_wide hw h
    · cases h
theorem round_rest {l : List Int} {ss : List (Int × Int)} (h : (lrestP l ss).2 = 0) : lbackP (lrestP l ss).1 ss = (l, 0) := by
  obtain ⟨h1, h2, h3⟩ := lrestP_okc h
  exact lbackP_ok h1 (lrestTo_wide h2 h3) (back_rest (mayB_mem h1) h2 h3)
theorem round_back {l : List Int} {ss : List (Int × Int)} (h : (lbackP l ss).2 = 0) : lrestP (lbackP l ss).1 ss = (l, 0) := by
  obtain ⟨h1, h2, h3⟩ := lbackP_okc h
  exact lrestP_some h1 (goB_okc h2 h3).1 (rest_back h2 h3)
end Go.Proofs.Ytjhmmbejpdibhaa
