/-
  Lifts: plain functions: which lifts, which rows may be; what a lift makes of rows. No program is named.
-/
import Derived.Test.YtjdoagkbcooonaaK
import Derived.Test.YtjdoagkbcooonaaR2W
namespace Go.Proofs.Ytjdoagkbcooonaa
open Go.RowKit

abbrev Lft := Int × Int × Int
def lfF (ls : List Lft) (k : Nat) : Int := (ls.getD k (0, 0, 0)).1
def lfT (ls : List Lft) (k : Nat) : Int := (ls.getD k (0, 0, 0)).2.1
def lfG (ls : List Lft) (k : Nat) : Int := (ls.getD k (0, 0, 0)).2.2
def liftOk (ch : Int) (f t g : Int) : Bool := decide (0 ≤ f) && decide (f < ch) && decide (0 ≤ t) && decide (t < ch) && !(f == t) && decide (-1024 ≤ g) && decide (g ≤ 1024)
theorem liftOk_true {ch f t g : Int} : liftOk ch f t g = true ↔ 0 ≤ f ∧ f < ch ∧ 0 ≤ t ∧ t < ch ∧ f ≠ t ∧ -1024 ≤ g ∧ g ≤ 1024 := by simp [liftOk, and_assoc]
theorem liftOk_no {ch f t g : Int} (h : ¬ (0 ≤ f ∧ f < ch ∧ 0 ≤ t ∧ t < ch ∧ f ≠ t ∧ -1024 ≤ g ∧ g ≤ 1024)) : liftOk ch f t g = false := by
  cases e : liftOk ch f t g with
  | false => rfl
  | true => exact absurd (liftOk_true.1 e) h
def liftB (ls : List Lft) (ch : Int) : Bool := decide (1 ≤ ch) && decide (ch ≤ 8) && decide (ls.length ≤ 16) && ls.all fun s => liftOk ch s.1 s.2.1 s.2.2
theorem liftB_true {ls : List Lft} {ch : Int} : liftB ls ch = true ↔ 1 ≤ ch ∧ ch ≤ 8 ∧ ls.length ≤ 16 ∧ ∀ k, k < ls.length → liftOk ch (lfF ls k) (lfT ls k) (lfG ls k) = true := by
  simp only [liftB, Bool.and_eq_true, decide_eq_true_eq, List.all_eq_true, and_assoc]
  refine and_congr Iff.rfl (and_congr Iff.rfl (and_congr Iff.rfl ⟨fun h k hk => ?_, fun h s hs => ?_⟩))
  · have := h ls[k] (List.getElem_mem hk)
    simpa [lfF, lfT, lfG, hk] using this
  · obtain ⟨k, hk, rfl⟩ := List.getElem_of_mem hs
    simpa [lfF, lfT, lfG, hk] using h k hk
theorem liftB_no {ls : List Lft} {ch : Int} (h : ¬ (1 ≤ ch ∧ ch ≤ 8 ∧ ls.length ≤ 16 ∧ ∀ k, k < ls.length → liftOk ch (lfF ls k) (lfT ls k) (lfG ls k) = true)) : liftB ls ch = false := by
  cases e : liftB ls ch with
  | false => rfl
  | true => exact absurd (liftB_true.1 e) h
theorem liftB_mem {ls : List Lft} {ch : Int} (h : liftB ls ch = true) : ∀ s ∈ ls, liftOk ch s.1 s.2.1 s.2.2 = true := by
  simp only [liftB, Bool.and_eq_true, List.all_eq_true] at h
  exact h.2
theorem drop_lft {ls : List Lft} {k : Nat} (h : k < ls.length) : ls.drop k = (lfF ls k, lfT ls k, lfG ls k) :: ls.drop (k + 1) := by
  have e : ls[k] = (lfF ls k, lfT ls k, lfG ls k) := by simp [lfF, lfT, lfG, h]
  rw [← e]; exact List.drop_eq_getElem_cons h

/-! ### Rows: row i of r is R i. -/
def rowOk (R : Nat → List Int) (i : Nat) : Bool := decide ((R i).length = (R 0).length) && allWideB (R i)
theorem rowOk_true {R : Nat → List Int} {i : Nat} : rowOk R i = true ↔ (R i).length = (R 0).length ∧ allWideB (R i) = true := by simp [rowOk]
def rowsB (R : Nat → List Int) (r : Nat) : Bool := decide (1 ≤ r) && decide (r ≤ 8) && decide ((R 0).length ≤ 4096) && (List.range r).all (rowOk R)
theorem rowsB_true {R : Nat → List Int} {r : Nat} : rowsB R r = true ↔ 1 ≤ r ∧ r ≤ 8 ∧ (R 0).length ≤ 4096 ∧ ∀ i, i < r → (R i).length = (R 0).length ∧ allWideB (R i) = true := by
  simp [rowsB, and_assoc, rowOk]
theorem rowsB_no {R : Nat → List Int} {r : Nat} (h : ¬ (1 ≤ r ∧ r ≤ 8 ∧ (R 0).length ≤ 4096 ∧ ∀ i, i < r → (R i).length = (R 0).length ∧ allWideB (R i) = true)) : rowsB R r = false := by
  cases e : rowsB R r with
  | false => rfl
  | true => exact absurd (rowsB_true.1 e) h
theorem rowsB_row {R : Nat → List Int} {r i : Nat} (hi : i < r) (h : rowOk R i = false) : rowsB R r = false := rowsB_no fun h' => by rw [rowOk_true.2 (h'.2.2.2 i hi)] at h; cases h
theorem rowOk_len {R : Nat → List Int} {i : Nat} (h : (R i).length ≠ (R 0).length) : rowOk R i = false := by simp [rowOk, h]
theorem rowOk_far {R : Nat → List Int} {i : Nat} (h : allWideB (R i) = false) : rowOk R i = false := by simp [rowOk, h]

/-- row y becomes more by g times row x over 256. -/
def appRow (y x : List Int) (g sg : Int) : List Int := (List.range x.length).map fun i => ix y i + sg * (g * ix x i / 256)
theorem appRow_len (y x : List Int) (g sg : Int) : (appRow y x g sg).length = x.length := by simp [appRow]
theorem appRow_ix {y x : List Int} {g sg : Int} {i : Nat} (h : i < x.length) : ix (appRow y x g sg) i = ix y i + sg * (g * ix x i / 256) := by unfold appRow; rw [ix_map_range _ _ _ h]
def appP (R : Nat → List Int) (f t : Nat) (g sg : Int) : Nat → List Int := fun j => if j = t then appRow (R t) (R f) g sg else R j
theorem appP_t (R : Nat → List Int) (f t : Nat) (g sg : Int) : appP R f t g sg t = appRow (R t) (R f) g sg := by simp [appP]
theorem appP_o {R : Nat → List Int} {f t j : Nat} {g sg : Int} (h : j ≠ t) : appP R f t g sg j = R j := by simp [appP, h]
/-- all rows have m numbers, and are wide. -/
def Lvl (R : Nat → List Int) (r m : Nat) : Prop := ∀ i, i < r → (R i).length = m ∧ allWideB (R i) = true
theorem lvl_of {R : Nat → List Int} {r : Nat} (h : rowsB R r = true) : Lvl R r (R 0).length := (rowsB_true.1 h).2.2.2
theorem Lvl.app {R : Nat → List Int} {r m f t : Nat} {g sg : Int} (h : Lvl R r m) (hf : f < r) (hw : allWideB (appRow (R t) (R f) g sg) = true) : Lvl (appP R f t g sg) r m := fun i hi => by
  by_cases e : i = t
  · subst e; rw [appP_t]; exact ⟨by rw [appRow_len]; exact (h f hf).1, hw⟩
  · rw [appP_o e]; exact h i hi

def goL (sg : Int) : (Nat → List Int) → List Lft → Option (Nat → List Int)
  | R, [] => some R
  | R, s :: ss => if allWideB (appRow (R s.2.1.toNat) (R s.1.toNat) s.2.2 sg) = true then goL sg (appP R s.1.toNat s.2.1.toNat s.2.2 sg) ss else none
theorem goL_cons (sg : Int) (R : Nat → List Int) (s : Lft) (ss : List Lft) : goL sg R (s :: ss) = if allWideB (appRow (R s.2.1.toNat) (R s.1.toNat) s.2.2 sg) = true then goL sg (appP R s.1.toNat s.2.1.toNat s.2.2 sg) ss else none := rfl
theorem goL_app {sg : Int} : ∀ {a b : List Lft} {R : Nat → List Int}, goL sg R (a ++ b) = (goL sg R a).bind fun Q => goL sg Q b
  | [], b, R => rfl
  | s :: a, b, R => by
    rw [List.cons_append, goL_cons, goL_cons]
    split
    · exact goL_app
    · rfl
theorem goL_lvl {sg : Int} {r m : Nat} : ∀ {ls : List Lft} {R Q : Nat → List Int}, (∀ s ∈ ls, liftOk (r : Int) s.1 s.2.1 s.2.2 = true) → Lvl R r m → goL sg R ls = some Q → Lvl Q r m
  | [], R, Q, _, h, hg => by cases hg; exact h
  | s :: ls, R, Q, hv, h, hg => by
    rw [goL_cons] at hg
    split at hg
    · rename_i hw
      have hs := liftOk_true.1 (hv s (List.mem_cons_self ..))
      exact goL_lvl (fun s hs => hv s (List.mem_cons_of_mem _ hs)) (h.app (by omega) hw) hg
    · cases hg
theorem app_back {R : Nat → List Int} {f t : Nat} {g sg : Int} (hl : (R f).length = (R t).length) (hft : f ≠ t) : appP (appP R f t g sg) f t g (-sg) = R := by
  funext j
  by_cases e : j = t
  · subst e
    rw [appP_t, appP_t, appP_o hft]
    refine ix_ext _ _ (by rw [appRow_len, hl]) fun i hi => ?_
    rw [appRow_len] at hi
    rw [appRow_ix hi, appRow_ix hi, Int.neg_mul]
    omega
  · rw [appP_o e, appP_o e]
theorem goL_back {sg : Int} {r m : Nat} : ∀ {ls : List Lft} {R Q : Nat → List Int}, (∀ s ∈ ls, liftOk (r : Int) s.1 s.2.1 s.2.2 = true) → Lvl R r m → goL sg R ls = some Q → goL (-sg) Q ls.reverse = some R
  | [], R, Q, _, _, hg => by cases hg; rfl
  | s :: ls, R, Q, hv, h, hg => by
    rw [goL_cons] at hg
    split at hg
    · rename_i hw
      have hs := liftOk_true.1 (hv s (List.mem_cons_self ..))
      obtain ⟨s1, s2, s3, s4, s5, _⟩ := hs
      have hft : s.1.toNat ≠ s.2.1.toNat := by omega
      have ih := goL_back (fun s hs => hv s (List.mem_cons_of_mem _ hs)) (h.app (by omega) hw) hg
      have hbk := app_back (R := R) (f := s.1.toNat) (t := s.2.1.toNat) (g := s.2.2) (sg := sg) (by rw [(h _ (by omega)).1, (h _ (by omega)).1]) hft
      have hrow := congrFun hbk s.2.1.toNat
      rw [appP_t] at hrow
      rw [List.reverse_cons, goL_app, ih]
      show goL (-sg) _ [s] = _
      rw [goL_cons, hrow, if_pos (h _ (by omega)).2, hbk]; rfl
    · cases hg

/-- what Do (sg = 1) and Undo (sg = -1) give. -/
def doP (sg : Int) (R : Nat → List Int) (r : Nat) (ls : List Lft) : Except Int (Nat → List Int) :=
  if rowsB R r = false then .error 1 else if liftB ls (r : Int) = false then .error 1 else match goL sg R (if sg = 1 then ls else ls.reverse) with | none => .error 6 | some Q => .ok Q
section
variable {sg : Int} {R Q : Nat → List Int} {r : Nat} {ls : List Lft}
theorem doP_rows (h : rowsB R r = false) : doP sg R r ls = .error 1 := by unfold doP; rw [if_pos h]
theorem doP_may (h : rowsB R r = true) (h2 : liftB ls (r : Int) = false) : doP sg R r ls = .error 1 := by unfold doP; rw [if_neg (by rw [h]; simp), if_pos h2]
theorem doP_none (h : rowsB R r = true) (h2 : liftB ls (r : Int) = true) (h3 : goL sg R (if sg = 1 then ls else ls.reverse) = none) : doP sg R r ls = .error 6 := by unfold doP; rw [if_neg (by rw [h]; simp), if_neg (by rw [h2]; simp), h3]
theorem doP_some (h : rowsB R r = true) (h2 : liftB ls (r : Int) = true) (h3 : goL sg R (if sg = 1 then ls else ls.reverse) = some Q) : doP sg R r ls = .ok Q := by unfold doP; rw [if_neg (by rw [h]; simp), if_neg (by rw [h2]; simp), h3]
theorem doP_okc (h : doP sg R r ls = .ok Q) : rowsB R r = true ∧ liftB ls (r : Int) = true ∧ goL sg R (if sg = 1 then ls else ls.reverse) = some Q := by
  unfold doP at h
  cases h1 : rowsB R r with
  | false => simp [h1] at h
  | true =>
    cases h2 : liftB ls (r : Int) with
    | false => simp [h1, h2] at h
    | true =>
      cases h3 : goL sg R (if sg = 1 then ls else ls.reverse) with
      | none => simp [h1, h2, h3] at h
      | some q => simp [h1, h2, h3] at h; exact ⟨rfl, rfl, by rw [h]⟩
end
end Go.Proofs.Ytjdoagkbcooonaa
