/-
  Differences of orders 0 to 4: the plain functions that the code of package fixed and the reference compute.
-/
import Derived.Test.YtbigocjodclbhaaK
import Derived.Test.YtbigocjodclbhaaR2W
namespace Go.Proofs.Ytbigocjodclbhaa
open Go.RowKit

def rdiff (l : List Int) : List Int := (List.range (l.length - 1)).map fun i => wrap64 (ix l (i + 1) - ix l i)
theorem rdiff_len (l : List Int) : (rdiff l).length = l.length - 1 := by simp [rdiff]
theorem rdiff_ix {l : List Int} {i : Nat} (h : i < l.length - 1) : ix (rdiff l) i = wrap64 (ix l (i + 1) - ix l i) := by
  unfold rdiff; rw [ix_map_range _ _ _ h]
def diffN (l : List Int) : Nat → List Int
  | 0 => l
  | k + 1 => rdiff (diffN l k)
theorem diffN_len (l : List Int) (k : Nat) : (diffN l k).length = l.length - k := by
  induction k with
  | zero => rfl
  | succ k ih => rw [diffN, rdiff_len, ih]; omega
/-- the row in the midst of the in-place differences. -/
def inTo (l : List Int) (k : Nat) : List Int := (List.range l.length).map fun j => if j < k then wrap64 (ix l (j + 1) - ix l j) else ix l j
theorem inTo_len (l : List Int) (k : Nat) : (inTo l k).length = l.length := by simp [inTo]
theorem inTo_ix {l : List Int} {k j : Nat} (h : j < l.length) : ix (inTo l k) j = if j < k then wrap64 (ix l (j + 1) - ix l j) else ix l j := by
  unfold inTo; rw [ix_map_range _ _ _ h]
theorem inTo_zero (l : List Int) : inTo l 0 = l := ix_ext _ _ (inTo_len ..) fun j hj => by rw [inTo_ix (by rwa [inTo_len] at hj), if_neg (by omega)]
theorem inTo_set {l : List Int} {k : Nat} (h : k + 1 < l.length) : (inTo l k).set k (wrap64 (ix l (k + 1) - ix l k)) = inTo l (k + 1) := by
  refine ix_ext _ _ (by simp [inTo_len]) fun j hj => ?_
  have hj' : j < l.length := by simpa [inTo_len] using hj
  rw [ix_set _ _ _ _ (by rw [inTo_len]; omega), inTo_ix hj', inTo_ix hj']
  by_cases e : j = k
  · subst e; simp
  · rw [if_neg e]
    by_cases h' : j < k
    · rw [if_pos h', if_pos (by omega)]
    · rw [if_neg h', if_neg (by omega)]
theorem inTo_done (l : List Int) : (inTo l (l.length - 1)).take (l.length - 1) = rdiff l := by
  refine ix_ext _ _ (by rw [List.length_take, inTo_len, rdiff_len]; omega) fun j hj => ?_
  have hj' : j < l.length - 1 := by rw [List.length_take, inTo_len] at hj; omega
  rw [ix_take hj', inTo_ix (by omega), if_pos hj', rdiff_ix hj']

def okOrder (l : List Int) (o : Int) : Bool := decide (0 ≤ o) && decide (o ≤ 4) && decide (o ≤ l.length)
theorem okOrder_true {l : List Int} {o : Int} : okOrder l o = true ↔ 0 ≤ o ∧ o ≤ 4 ∧ o ≤ l.length := by simp [okOrder, and_assoc]
def restP (l : List Int) (o : Int) : List Int × Int :=
  if okOrder l o = false then ([], 1) else if allWideB l = false then ([], 6) else if allWideB (diffN l o.toNat) = false then ([], 6) else (diffN l o.toNat, 0)
theorem restP_bad {l : List Int} {o : Int} (h : okOrder l o = false) : restP l o = ([], 1) := by unfold restP; rw [if_pos h]
theorem restP_far {l : List Int} {o : Int} (h : okOrder l o = true) (h2 : allWideB l = false) : restP l o = ([], 6) := by unfold restP; rw [if_neg (by rw [h]; simp), if_pos h2]
theorem restP_out {l : List Int} {o : Int} (h : okOrder l o = true) (h2 : allWideB l = true) (h3 : allWideB (diffN l o.toNat) = false) : restP l o = ([], 6) := by
  unfold restP; rw [if_neg (by rw [h]; simp), if_neg (by rw [h2]; simp), if_pos h3]
theorem restP_ok {l : List Int} {o : Int} (h : okOrder l o = true) (h2 : allWideB l = true) (h3 : allWideB (diffN l o.toNat) = true) : restP l o = (diffN l o.toNat, 0) := by
  unfold restP; rw [if_neg (by rw [h]; simp), if_neg (by rw [h2]; simp), if_neg (by rw [h3]; simp)]

def pk (xs : List Int) (k : Nat) : Int := ix xs (xs.length - k)
def guessF (xs : List Int) (o : Nat) : Int :=
  match o with
  | 1 => pk xs 1
  | 2 => 2 * pk xs 1 - pk xs 2
  | 3 => 3 * pk xs 1 - 3 * pk xs 2 + pk xs 3
  | 4 => 4 * pk xs 1 - 6 * pk xs 2 + 4 * pk xs 3 - pk xs 4
  | _ => 0
theorem pk_wide {xs : List Int} (h : allWideB xs = true) {k : Nat} (h1 : 1 ≤ k) (h2 : k ≤ xs.length) : -1073741824 ≤ pk xs k ∧ pk xs k < 1073741824 :=
  wideB_true.1 (allWideB_true.1 h _ (by omega))


/-! ### Back -/
def backTo (o : Nat) (out : List Int) : List Int → Option (List Int)
  | [] => some out
  | x :: r => if wideB (x + guessF out o) = true then backTo o (out ++ [x + guessF out o]) r else none
def okBack (warm : List Int) (o : Int) : Bool := decide (0 ≤ o) && decide (o ≤ 4) && decide ((warm.length : Int) = o)
theorem okBack_true {warm : List Int} {o : Int} : okBack warm o = true ↔ 0 ≤ o ∧ o ≤ 4 ∧ (warm.length : Int) = o := by simp [okBack, and_assoc]
def backP (warm rest : List Int) (o : Int) : List Int × Int :=
  if okBack warm o = false then ([], 1) else if allWideB warm = false then ([], 6) else if allWideB rest = false then ([], 6) else
  match backTo o.toNat warm rest with
  | none => ([], 6)
  | some l => (l, 0)
theorem backP_bad {warm rest : List Int} {o : Int} (h : okBack warm o = false) : backP warm rest o = ([], 1) := by unfold backP; rw [if_pos h]
theorem backP_w1 {warm rest : List Int} {o : Int} (h : okBack warm o = true) (h2 : allWideB warm = false) : backP warm rest o = ([], 6) := by unfold backP; rw [if_neg (by rw [h]; simp), if_pos h2]
theorem backP_w2 {warm rest : List Int} {o : Int} (h : okBack warm o = true) (h2 : allWideB warm = true) (h3 : allWideB rest = false) : backP warm rest o = ([], 6) := by
  unfold backP; rw [if_neg (by rw [h]; simp), if_neg (by rw [h2]; simp), if_pos h3]
theorem backP_none {warm rest : List Int} {o : Int} (h : okBack warm o = true) (h2 : allWideB warm = true) (h3 : allWideB rest = true) (h4 : backTo o.toNat warm rest = none) : backP warm rest o = ([], 6) := by
  unfold backP; rw [if_neg (by rw [h]; simp), if_neg (by rw [h2]; simp), if_neg (by rw [h3]; simp), h4]
theorem backP_some {warm rest l : List Int} {o : Int} (h : okBack warm o = true) (h2 : allWideB warm = true) (h3 : allWideB rest = true) (h4 : backTo o.toNat warm rest = some l) : backP warm rest o = (l, 0) := by
  unfold backP; rw [if_neg (by rw [h]; simp), if_neg (by rw [h2]; simp), if_neg (by rw [h3]; simp), h4]

theorem drop_ix {xs : List Int} {k : Nat} (h : k < xs.length) : xs.drop k = ix xs k :: xs.drop (k + 1) := by
  rw [List.drop_eq_getElem_cons h, ix_eq h]
theorem allWide_snoc {xs : List Int} {x : Int} (h : allWideB xs = true) (hx : wideB x = true) : allWideB (xs ++ [x]) = true := by
  simp [allWideB] at h ⊢
  exact ⟨h, hx⟩
theorem guessF_b {xs : List Int} {o : Nat} (ho : o ≤ 4) (hl : o ≤ xs.length) (h : allWideB xs = true) : -21474836480 ≤ guessF xs o ∧ guessF xs o ≤ 21474836480 := by
  rcases o with _ | _ | _ | _ | _ | o
  · simp [guessF]
  · have := pk_wide h (k := 1) (by omega) (by omega); simp only [guessF]; omega
  · have := pk_wide h (k := 1) (by omega) (by omega); have := pk_wide h (k := 2) (by omega) (by omega); simp only [guessF]; omega
  · have := pk_wide h (k := 1) (by omega) (by omega); have := pk_wide h (k := 2) (by omega) (by omega); have := pk_wide h (k := 3) (by omega) (by omega); simp only [guessF]; omega
  · have := pk_wide h (k := 1) (by omega) (by omega); have := pk_wide h (k := 2) (by omega) (by omega); have := pk_wide h (k := 3) (by omega) (by omega); have := pk_wide h (k := 4) (by omega) (by omega); simp only [guessF]; omega
  · omega

theorem backTo_len {o : Nat} : ∀ {rest out l : List Int}, backTo o out rest = some l → l.length = out.length + rest.length
  | [], out, l, h => by simp [backTo] at h; subst h; simp
  | x :: r, out, l, h => by
    rw [backTo] at h
    split at h
    · have := backTo_len h; simp at this ⊢; omega
    · cases h
theorem backP_len {warm rest : List Int} {o : Int} : (backP warm rest o).1.length ≤ warm.length + rest.length := by
  unfold backP
  (repeat' split) <;> simp
  rename_i l h
  have := backTo_len h
  omega

/-! ### Weights -/
def absW (x : Int) : Int := if x < wrap64 (-x) then wrap64 (-x) else x
/-- the weight of the first k numbers of r: those from place 4 - o on. -/
def wsum (r : List Int) (o : Int) : Nat → Int
  | 0 => 0
  | k + 1 => if 4 ≤ (k : Int) + o then wrap64 (wsum r o k + absW (ix r k)) else wsum r o k
theorem wsum_in {r : List Int} {o : Int} {k : Nat} (h : 4 ≤ (k : Int) + o) : wsum r o (k + 1) = wrap64 (wsum r o k + absW (ix r k)) := by rw [wsum, if_pos h]
theorem wsum_out {r : List Int} {o : Int} {k : Nat} (h : ¬ 4 ≤ (k : Int) + o) : wsum r o (k + 1) = wsum r o k := by rw [wsum, if_neg h]
theorem wsum_zero {r : List Int} {o : Int} {k : Nat} (h : (k : Int) + o ≤ 4) : wsum r o k = 0 := by
  induction k with
  | zero => rfl
  | succ k ih => rw [wsum_out (by omega), ih (by omega)]

def weightP (l : List Int) (o : Int) : Int := if (restP l o).2 = 0 then wsum (restP l o).1 o (restP l o).1.length else 0
theorem restP_err {l : List Int} {o : Int} (h : (restP l o).2 ≠ 0) : (restP l o).1 = [] := by
  unfold restP at h ⊢
  (repeat' split) <;> simp_all
theorem restP_okc {l : List Int} {o : Int} (h : (restP l o).2 = 0) : okOrder l o = true ∧ allWideB l = true ∧ allWideB (diffN l o.toNat) = true ∧ (restP l o).1 = diffN l o.toNat := by
  unfold restP at h ⊢
  by_cases h1 : okOrder l o = false
  · simp [h1] at h
  · by_cases h2 : allWideB l = false
    · simp [h1, h2] at h
    · by_cases h3 : allWideB (diffN l o.toNat) = false
      · simp [h1, h2, h3] at h
      · simp at h1 h2 h3
        simp [h1, h2, h3]
theorem restP_ord {l : List Int} {o : Int} (h : (restP l o).2 = 0) : 0 ≤ o ∧ o ≤ 4 := by
  have := okOrder_true.1 (restP_okc h).1; omega
theorem restP_len {l : List Int} {o : Int} : (restP l o).1.length ≤ l.length := by
  unfold restP
  (repeat' split) <;> simp [diffN_len]

/-- one order of Best, package fixed's way: (best, least). -/
def bestLS (l : List Int) (s : Int × Int) (o : Nat) : Int × Int :=
  if (restP l o).2 = 0 then (if s.2 < 0 then (↑o, weightP l o) else if weightP l o < s.2 then (↑o, weightP l o) else s) else s
def bestLTo (l : List Int) : Nat → Int × Int
  | 0 => (0, -1)
  | k + 1 => bestLS l (bestLTo l k) k
/-- the reference's way. -/
def bestRS (l : List Int) (s : Int × Int) (o : Nat) : Int × Int :=
  if (restP l o).2 = 0 then (if s.1 < 0 then (↑o, weightP l o) else if weightP l o < s.2 then (↑o, weightP l o) else s) else s
def bestRTo (l : List Int) : Nat → Int × Int
  | 0 => (-1, 0)
  | k + 1 => bestRS l (bestRTo l k) k

theorem absW_wide {x : Int} (h : wideB x = true) : 0 ≤ absW x ∧ absW x ≤ 1073741824 := by
  have := wideB_true.1 h
  unfold absW
  rw [IntWalk.wrap64_in _ (by omega)]
  split <;> omega
theorem wsum_b {r : List Int} {o : Int} (hw : allWideB r = true) {k : Nat} (hk : k ≤ r.length) (h3 : r.length ≤ 4096) : 0 ≤ wsum r o k ∧ wsum r o k ≤ 1073741824 * k := by
  induction k with
  | zero => simp [wsum]
  | succ k ih =>
    have ih := ih (by omega)
    have ha := absW_wide (allWideB_true.1 hw k (by omega))
    by_cases h : 4 ≤ (k : Int) + o
    · rw [wsum_in h, IntWalk.wrap64_in _ (by omega)]; omega
    · rw [wsum_out h]; omega
theorem weightP_nonneg {l : List Int} {o : Int} (h3 : l.length ≤ 4096) : 0 ≤ weightP l o := by
  unfold weightP
  split
  · rename_i h
    obtain ⟨_, _, hw, he⟩ := restP_okc h
    rw [he]
    exact (wsum_b hw (Nat.le_refl _) (by rw [diffN_len]; omega)).1
  · exact Int.le_refl _
theorem best_inv (l : List Int) (h3 : l.length ≤ 4096) (k : Nat) :
    (bestLTo l k = (0, -1) ∧ bestRTo l k = (-1, 0)) ∨ (bestLTo l k = bestRTo l k ∧ 0 ≤ (bestRTo l k).1 ∧ 0 ≤ (bestRTo l k).2) := by
  induction k with
  | zero => exact .inl ⟨rfl, rfl⟩
  | succ k ih =>
    have hn := weightP_nonneg (l := l) (o := (k : Int)) h3
    rw [bestLTo, bestRTo]
    unfold bestLS bestRS
    rcases ih with ⟨h1, h2⟩ | ⟨h1, h2, h3⟩
    · rw [h1, h2]
      by_cases h : (restP l k).2 = 0
      · right
        simp [h]; omega
      · left
        simp [h]
    · right
      rw [h1]
      by_cases h : (restP l k).2 = 0
      · have e1 : ¬ (bestRTo l k).2 < 0 := by omega
        have e2 : ¬ (bestRTo l k).1 < 0 := by omega
        simp only [h, e1, e2, if_false, if_true]
        by_cases h4 : weightP l k < (bestRTo l k).2
        · simp only [h4, if_true, true_and]; omega
        · simp only [h4, if_false, true_and]; omega
      · simp only [h, if_false, true_and]; omega
theorem best_same (l : List Int) (h3 : l.length ≤ 4096) : (bestLTo l 5).1 = max (bestRTo l 5).1 0 := by
  rcases best_inv l h3 5 with ⟨h1, h2⟩ | ⟨h1, h2, _⟩
  · rw [h1, h2]; rfl
  · rw [h1]; omega

end Go.Proofs.Ytbigocjodclbhaa
