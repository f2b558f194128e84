/-
  Package linear: plain functions: the scaled row, reflections. No program is named.
-/
import Derived.Test.YtmbebcgicddbnaaNP
namespace Go.Proofs.Ytmbebcgicddbnaa
open Go.RowKit

/-! ### The scaled row -/
def heldI (x : Int) : Int := min (max x (-1048576)) 1048575
def inB (x : Int) : Bool := decide (-1048576 ≤ x) && decide (x ≤ 1048575)
theorem inB_true {x : Int} : inB x = true ↔ -1048576 ≤ x ∧ x ≤ 1048575 := by simp [inB]
theorem held_in {x : Int} : heldI x = x ↔ inB x = true := by rw [inB_true]; unfold heldI; omega
theorem held_b (x : Int) : -1048576 ≤ heldI x ∧ heldI x ≤ 1048575 := by unfold heldI; omega
def okS (l : List Int) (s : Nat) : Bool := l.all fun x => inB (x / 2 ^ s)
theorem okS_true {xs : List Int} {s : Nat} : okS xs s = true ↔ ∀ k, k < xs.length → inB (ix xs k / 2 ^ s) = true := by
  simp only [okS, List.all_eq_true]
  exact ⟨fun h k hk => h _ (ix_mem hk), fun h x hx => by obtain ⟨k, hk, rfl⟩ := mem_ix hx; exact h k hk⟩
theorem okS_false {xs : List Int} {s k : Nat} (hk : k < xs.length) (h : inB (ix xs k / 2 ^ s) = false) : okS xs s = false := by
  cases e : okS xs s with
  | false => rfl
  | true => rw [okS_true.1 e k hk] at h; cases h
theorem div_succ (x : Int) (s : Nat) : x / 2 ^ (s + 1) = x / 2 ^ s / 2 := by rw [Int.pow_succ, Int.ediv_ediv_of_nonneg (Int.le_of_lt (Int.pow_pos (by omega)))]
theorem inB_up {x : Int} {s : Nat} (h : inB (x / 2 ^ s) = true) : inB (x / 2 ^ (s + 1)) = true := by
  rw [div_succ]; rw [inB_true] at h ⊢; omega
theorem inB_ups {x : Int} {s : Nat} (h : inB (x / 2 ^ s) = true) : ∀ d, inB (x / 2 ^ (s + d)) = true
  | 0 => h
  | d + 1 => inB_up (inB_ups h d)
theorem inB_le {x : Int} {s t : Nat} (h : inB (x / 2 ^ s) = true) (hst : s ≤ t) : inB (x / 2 ^ t) = true := by
  have := inB_ups h (t - s); rwa [show s + (t - s) = t by omega] at this
theorem inB_ten {x : Int} (h : wideB x = true) : inB (x / 2 ^ 10) = true := by
  have := wideB_true.1 h; rw [inB_true]; omega
/-- the smallest shift from s on, of n more, at which all are within. -/
def leastS (l : List Int) : Nat → Nat → Nat
  | s, 0 => s
  | s, n + 1 => if okS l s = true then s else leastS l (s + 1) n
theorem leastS_eq {l : List Int} {t : Nat} (h : okS l t = true) : ∀ {n s : Nat}, s ≤ t → t ≤ s + n → (∀ j, s ≤ j → j < t → okS l j = false) → leastS l s n = t
  | 0, s, h1, h2, _ => by rw [leastS]; omega
  | n + 1, s, h1, h2, h3 => by
    rw [leastS]
    by_cases e : s = t
    · subst e; rw [if_pos h]
    · rw [if_neg (by rw [h3 s (Nat.le_refl _) (by omega)]; simp)]
      exact leastS_eq h (by omega) (by omega) fun j h4 h5 => h3 j (by omega) h5
def shOf (l : List Int) : Nat := leastS l 0 10
def scaledP (l : List Int) : List Int := l.map (· / 2 ^ shOf l)
theorem shOf_eq {l : List Int} {t : Nat} (h : okS l t = true) (ht : t ≤ 10) (h2 : ∀ j, j < t → okS l j = false) : shOf l = t := leastS_eq h (Nat.zero_le _) (by omega) fun j _ hj => h2 j hj
theorem scaledP_len (l : List Int) : (scaledP l).length = l.length := by simp [scaledP]
def divL (l : List Int) (s : Nat) : List Int := l.map (· / 2 ^ s)
theorem divL_len (l : List Int) (s : Nat) : (divL l s).length = l.length := by simp [divL]
theorem divL_ix {l : List Int} {s k : Nat} (h : k < l.length) : ix (divL l s) k = ix l k / 2 ^ s := by
  rw [ix_eq (by rw [divL_len]; exact h), ix_eq h]; simp [divL]
theorem divL_zero (l : List Int) : divL l 0 = l := by simp [divL]
theorem divL_scaled {l : List Int} {s : Nat} (h : shOf l = s) : divL l s = scaledP l := by unfold divL scaledP; rw [h]

/-! ### A reflection -/
def numTo (f g : List Int) (m : Nat) : Nat → Int
  | 0 => 0
  | j + 1 => wrap64 (numTo f g m j + wrap64 (ix f (m + j) * ix g (m + j - 1)))
def denTo (f g : List Int) (m : Nat) : Nat → Int
  | 0 => 0
  | j + 1 => wrap64 (denTo f g m j + wrap64 (wrap64 (ix f (m + j) * ix f (m + j)) + wrap64 (ix g (m + j - 1) * ix g (m + j - 1))))
theorem w64_assoc (a b c : Int) : wrap64 (wrap64 (a + b) + c) = wrap64 (a + wrap64 (b + c)) := by unfold wrap64; omega
def halve (num den : Int) : Int × Int :=
  if 1099511627776 ≤ den then halve (num / 2) (den / 2) else (num, den)
termination_by den.toNat
decreasing_by omega
theorem halve_more {num den : Int} (h : 1099511627776 ≤ den) : halve num den = halve (num / 2) (den / 2) := by rw [halve, if_pos h]
theorem halve_done {num den : Int} (h : ¬ 1099511627776 ≤ den) : halve num den = (num, den) := by rw [halve, if_neg h]
theorem halve_lt (num den : Int) : (halve num den).2 < 1099511627776 := by
  rw [halve]
  split
  · exact halve_lt _ _
  · omega
termination_by den.toNat
decreasing_by omega
/-- the quotient, rounded down, within its bounds. -/
def overI (x d : Int) : Int := if x.tmod d < 0 then wrap64 (wrap64 (x.tdiv d) - 1) else wrap64 (x.tdiv d)
theorem overI_neg {x d : Int} (h : x.tmod d < 0) : overI x d = wrap64 (wrap64 (x.tdiv d) - 1) := by unfold overI; rw [if_pos h]
theorem overI_pos {x d : Int} (h : ¬ x.tmod d < 0) : overI x d = wrap64 (x.tdiv d) := by unfold overI; rw [if_neg h]
def quoI (num den : Int) : Int := overI (wrap64 (num * 32768)) den
/-- what is made of the two sums. -/
def endK (num den : Int) : Int := if (halve num den).2 = 0 then 0 else min (max (quoI (halve num den).1 (halve num den).2) (-16383)) 16383
theorem endK_more {num den : Int} (h : 1099511627776 ≤ den) : endK num den = endK (num / 2) (den / 2) := by unfold endK; rw [halve_more h]
theorem endK_zero {num den : Int} (h : ¬ 1099511627776 ≤ den) (h0 : den = 0) : endK num den = 0 := by unfold endK; rw [halve_done h, if_pos h0]
theorem endK_quo {num den : Int} (h : ¬ 1099511627776 ≤ den) (h0 : den ≠ 0) : endK num den = min (max (quoI num den) (-16383)) 16383 := by unfold endK; rw [halve_done h, if_neg h0]
def reflK (f g : List Int) (m : Nat) : Int := endK (numTo f g m (f.length - m)) (denTo f g m (f.length - m))
theorem reflK_b (f g : List Int) (m : Nat) : -16383 ≤ reflK f g m ∧ reflK f g m ≤ 16383 := by
  unfold reflK endK; split
  · omega
  · omega
def stepF (f g : List Int) (k : Int) (m : Nat) : List Int := (List.range f.length).map fun n => if n < m then ix f n else heldI (wrap64 (ix f n - wrap64 (k * ix g (n - 1)) / 16384))
def stepG (f g : List Int) (k : Int) (m : Nat) : List Int := (List.range f.length).map fun n => if n < m then ix g n else heldI (wrap64 (ix g (n - 1) - wrap64 (k * ix f n) / 16384))
theorem stepF_len (f g : List Int) (k : Int) (m : Nat) : (stepF f g k m).length = f.length := by simp [stepF]
theorem stepG_len (f g : List Int) (k : Int) (m : Nat) : (stepG f g k m).length = f.length := by simp [stepG]
theorem stepF_ix {f g : List Int} {k : Int} {m n : Nat} (h : n < f.length) (hm : m ≤ n) : ix (stepF f g k m) n = heldI (wrap64 (ix f n - wrap64 (k * ix g (n - 1)) / 16384)) := by
  unfold stepF; rw [ix_map_range _ _ _ h, if_neg (by omega)]
theorem stepF_lo {f g : List Int} {k : Int} {m n : Nat} (h : n < f.length) (hm : n < m) : ix (stepF f g k m) n = ix f n := by
  unfold stepF; rw [ix_map_range _ _ _ h, if_pos hm]
theorem stepG_ix {f g : List Int} {k : Int} {m n : Nat} (h : n < f.length) (hm : m ≤ n) : ix (stepG f g k m) n = heldI (wrap64 (ix g (n - 1) - wrap64 (k * ix f n) / 16384)) := by
  unfold stepG; rw [ix_map_range _ _ _ h, if_neg (by omega)]
theorem stepG_lo {f g : List Int} {k : Int} {m n : Nat} (h : n < f.length) (hm : n < m) : ix (stepG f g k m) n = ix g n := by
  unfold stepG; rw [ix_map_range _ _ _ h, if_pos hm]

/-- the row xs whose numbers from k on are those of ys. -/
def tailFrom (xs ys : List Int) (k : Nat) : List Int := (List.range xs.length).map fun j => if j < k then ix xs j else ix ys j
theorem tailFrom_len (xs ys : List Int) (k : Nat) : (tailFrom xs ys k).length = xs.length := by simp [tailFrom]
theorem tailFrom_ix {xs ys : List Int} {k j : Nat} (h : j < xs.length) : ix (tailFrom xs ys k) j = if j < k then ix xs j else ix ys j := by unfold tailFrom; rw [ix_map_range _ _ _ h]
theorem tailFrom_none {xs ys : List Int} {k : Nat} (h : xs.length ≤ k) : tailFrom xs ys k = xs := ix_ext _ _ (tailFrom_len ..) fun j hj => by rw [tailFrom_len] at hj; rw [tailFrom_ix hj, if_pos (by omega)]
theorem tailFrom_set {xs ys : List Int} {k : Nat} (h : k < xs.length) : (tailFrom xs ys (k + 1)).set k (ix ys k) = tailFrom xs ys k := by
  refine ix_ext _ _ (by simp [tailFrom_len]) fun j hj => ?_
  have hj' : j < xs.length := by simpa [tailFrom_len] using hj
  rw [ix_set _ _ _ _ (by rw [tailFrom_len]; exact h), tailFrom_ix hj', tailFrom_ix hj']
  by_cases e : j = k
  · subst e; simp
  · rw [if_neg e]
    by_cases h' : j < k
    · rw [if_pos h', if_pos (by omega)]
    · rw [if_neg h', if_neg (by omega)]
theorem tailFrom_all {xs ys : List Int} {k : Nat} (hl : ys.length = xs.length) (h : ∀ j, j < k → j < xs.length → ix ys j = ix xs j) : tailFrom xs ys k = ys := ix_ext _ _ (by rw [tailFrom_len, hl]) fun j hj => by
  rw [tailFrom_len] at hj
  rw [tailFrom_ix hj]
  split
  · rename_i h'; exact (h j h' hj).symm
  · rfl
/-- the row xs whose first k numbers are those of ys. -/
def mixTo (xs ys : List Int) (k : Nat) : List Int := (List.range xs.length).map fun j => if j < k then ix ys j else ix xs j
theorem mixTo_len (xs ys : List Int) (k : Nat) : (mixTo xs ys k).length = xs.length := by simp [mixTo]
theorem mixTo_ix {xs ys : List Int} {k j : Nat} (h : j < xs.length) : ix (mixTo xs ys k) j = if j < k then ix ys j else ix xs j := by unfold mixTo; rw [ix_map_range _ _ _ h]
theorem mixTo_low {xs ys : List Int} {k : Nat} (h : ∀ j, j < k → j < xs.length → ix ys j = ix xs j) : mixTo xs ys k = xs := ix_ext _ _ (mixTo_len ..) fun j hj => by
  rw [mixTo_len] at hj
  rw [mixTo_ix hj]
  split
  · rename_i h'; exact h j h' hj
  · rfl
theorem mixTo_zero (xs ys : List Int) : mixTo xs ys 0 = xs := mixTo_low fun j hj => by omega
theorem mixTo_all {xs ys : List Int} {k : Nat} (h : ys.length = xs.length) (hk : xs.length ≤ k) : mixTo xs ys k = ys := ix_ext _ _ (by rw [mixTo_len, h]) fun j hj => by rw [mixTo_len] at hj; rw [mixTo_ix hj, if_pos (by omega)]
theorem mixTo_set {xs ys : List Int} {k : Nat} (h : k < xs.length) : (mixTo xs ys k).set k (ix ys k) = mixTo xs ys (k + 1) := by
  refine ix_ext _ _ (by simp [mixTo_len]) fun j hj => ?_
  have hj' : j < xs.length := by simpa [mixTo_len] using hj
  rw [ix_set _ _ _ _ (by rw [mixTo_len]; exact h), mixTo_ix hj', mixTo_ix hj']
  by_cases e : j = k
  · subst e; simp
  · rw [if_neg e]
    by_cases h' : j < k
    · rw [if_pos h', if_pos (by omega)]
    · rw [if_neg h', if_neg (by omega)]

/-! ### Reflect -/
/-- behind m stages: the rows f, g, and the reflections. -/
def refTo (f0 : List Int) : Nat → (List Int × List Int) × List Int
  | 0 => ((f0, f0), [])
  | m + 1 => ((stepF (refTo f0 m).1.1 (refTo f0 m).1.2 (reflK (refTo f0 m).1.1 (refTo f0 m).1.2 (m + 1)) (m + 1), stepG (refTo f0 m).1.1 (refTo f0 m).1.2 (reflK (refTo f0 m).1.1 (refTo f0 m).1.2 (m + 1)) (m + 1)), (refTo f0 m).2 ++ [reflK (refTo f0 m).1.1 (refTo f0 m).1.2 (m + 1)])
theorem refTo_len (f0 : List Int) : ∀ m, (refTo f0 m).1.1.length = f0.length ∧ (refTo f0 m).1.2.length = f0.length ∧ (refTo f0 m).2.length = m
  | 0 => ⟨rfl, rfl, rfl⟩
  | m + 1 => by
    obtain ⟨h1, h2, h3⟩ := refTo_len f0 m
    exact ⟨by rw [refTo]; simp only; rw [stepF_len, h1], by rw [refTo]; simp only; rw [stepG_len, h1], by rw [refTo]; simp [h3]⟩
def okRef (l : List Int) (o : Int) : Bool := decide (1 ≤ o) && decide (o ≤ 32) && decide (l.length ≤ 4096)
theorem okRef_true {l : List Int} {o : Int} : okRef l o = true ↔ 1 ≤ o ∧ o ≤ 32 ∧ l.length ≤ 4096 := by simp [okRef, and_assoc]
theorem okRef_no {l : List Int} {o : Int} (h : ¬ (1 ≤ o ∧ o ≤ 32 ∧ l.length ≤ 4096)) : okRef l o = false := by
  cases e : okRef l o with
  | false => rfl
  | true => exact absurd (okRef_true.1 e) h
def refP (l : List Int) (o : Int) : List Int × Int := if okRef l o = true then (if allWideB l = true then ((refTo (scaledP l) o.toNat).2, 0) else ([], 6)) else ([], 1)
theorem refP_bad {l : List Int} {o : Int} (h : okRef l o = false) : refP l o = ([], 1) := by unfold refP; rw [if_neg (by rw [h]; simp)]
theorem refP_far {l : List Int} {o : Int} (h : okRef l o = true) (h2 : allWideB l = false) : refP l o = ([], 6) := by unfold refP; rw [if_pos h, if_neg (by rw [h2]; simp)]
theorem refP_ok {l : List Int} {o : Int} (h : okRef l o = true) (h2 : allWideB l = true) : refP l o = ((refTo (scaledP l) o.toNat).2, 0) := by unfold refP; rw [if_pos h, if_pos h2]
theorem refP_okc {l : List Int} {o : Int} (h : (refP l o).2 = 0) : okRef l o = true ∧ allWideB l = true ∧ refP l o = ((refTo (scaledP l) o.toNat).2, 0) := by
  unfold refP at h ⊢
  by_cases h1 : okRef l o = true
  · by_cases h2 : allWideB l = true
    · rw [if_pos h1, if_pos h2]; exact ⟨h1, h2, rfl⟩
    · rw [if_pos h1, if_neg h2] at h; simp at h
  · rw [if_neg h1] at h; simp at h
theorem refP_err {l : List Int} {o : Int} (h : (refP l o).2 ≠ 0) : (refP l o).1 = [] := by
  unfold refP at h ⊢
  (repeat' split) <;> simp_all
theorem refTo_kB (f0 : List Int) : ∀ m i, i < m → -16383 ≤ ix (refTo f0 m).2 i ∧ ix (refTo f0 m).2 i ≤ 16383
  | 0, i, h => by omega
  | m + 1, i, h => by
    rw [refTo]
    simp only
    have hl := (refTo_len f0 m).2.2
    by_cases e : i < m
    · rw [ix_append_left (by omega)]; exact refTo_kB f0 m i e
    · rw [ix_append_right (by omega), show i - (refTo f0 m).2.length = 0 by omega]
      exact reflK_b _ _ _
theorem refP_len {l : List Int} {o : Int} (h : (refP l o).2 = 0) : 1 ≤ o ∧ o ≤ 32 ∧ ((refP l o).1.length : Int) = o ∧ ∀ i, i < (refP l o).1.length → -16383 ≤ ix (refP l o).1 i ∧ ix (refP l o).1 i ≤ 16383 := by
  obtain ⟨h1, h2, h3⟩ := refP_okc h
  obtain ⟨o1, o2, _⟩ := okRef_true.1 h1
  rw [h3]
  have hl := (refTo_len (scaledP l) o.toNat).2.2
  exact ⟨o1, o2, by simp only; rw [hl]; omega, fun i hi => refTo_kB _ _ i (by simp only at hi; rw [hl] at hi; exact hi)⟩
theorem refP_small {l : List Int} {o : Int} : (refP l o).1.length ≤ 32 := by
  by_cases h : (refP l o).2 = 0
  · have := refP_len h; omega
  · rw [refP_err h]; simp

/-! ### A row of zeros -/
theorem w64_0 : wrap64 0 = 0 := IntWalk.wrap64_in 0 (by omega)
theorem ix_zeros (n k : Nat) : ix (List.replicate n (0 : Int)) k = 0 := by
  by_cases h : k < n
  · rw [ix_eq (by simpa using h)]; simp
  · rw [ix_out (by simp; omega)]
theorem num_zeros (n m : Nat) : ∀ j, numTo (List.replicate n 0) (List.replicate n 0) m j = 0
  | 0 => rfl
  | j + 1 => by rw [numTo, num_zeros n m j, ix_zeros, Int.zero_mul, w64_0, Int.add_zero, w64_0]
theorem den_zeros (n m : Nat) : ∀ j, denTo (List.replicate n 0) (List.replicate n 0) m j = 0
  | 0 => rfl
  | j + 1 => by rw [denTo, den_zeros n m j, ix_zeros, ix_zeros, Int.zero_mul, w64_0, Int.add_zero, w64_0, Int.add_zero, w64_0]
theorem refl_zeros (n m : Nat) : reflK (List.replicate n 0) (List.replicate n 0) m = 0 := by
  unfold reflK; rw [num_zeros, den_zeros, endK_zero (by omega) rfl]
theorem stepF_zeros (n m : Nat) : stepF (List.replicate n 0) (List.replicate n 0) 0 m = List.replicate n 0 := by
  refine ix_ext _ _ (by rw [stepF_len]) fun k hk => ?_
  rw [stepF_len] at hk
  by_cases h : k < m
  · rw [stepF_lo hk h]
  · rw [stepF_ix hk (by omega), ix_zeros, ix_zeros, Int.zero_mul, w64_0, show (0 : Int) - 0 / 16384 = 0 from rfl, w64_0]; rfl
theorem stepG_zeros (n m : Nat) : stepG (List.replicate n 0) (List.replicate n 0) 0 m = List.replicate n 0 := by
  refine ix_ext _ _ (by rw [stepG_len]) fun k hk => ?_
  rw [stepG_len] at hk
  by_cases h : k < m
  · rw [stepG_lo hk h]
  · rw [stepG_ix hk (by omega), ix_zeros, ix_zeros, Int.zero_mul, w64_0, show (0 : Int) - 0 / 16384 = 0 from rfl, w64_0]; rfl
theorem ref_zeros (n : Nat) : ∀ m, refTo (List.replicate n 0) m = ((List.replicate n 0, List.replicate n 0), List.replicate m 0)
  | 0 => rfl
  | m + 1 => by rw [refTo, ref_zeros n m]; simp only; rw [refl_zeros, stepF_zeros, stepG_zeros, List.replicate_succ']
theorem allWide_zeros (n : Nat) : allWideB (List.replicate n 0) = true := allWideB_true.2 fun k _ => by rw [ix_zeros]; decide
theorem refP_zeros {n : Nat} (h : n ≤ 4096) : refP (List.replicate n 0) 4 = ([0, 0, 0, 0], 0) := by
  have hs : scaledP (List.replicate n 0) = List.replicate n 0 := by
    refine ix_ext _ _ (scaledP_len _) fun k hk => ?_
    rw [scaledP_len] at hk
    show ix (divL _ _) k = _
    rw [divL_ix hk, ix_zeros]; simp
  rw [refP_ok (okRef_true.2 ⟨by omega, by omega, by simpa using h⟩) (allWide_zeros n), hs, show (4 : Int).toNat = 4 from rfl, ref_zeros]; rfl
end Go.Proofs.Ytmbebcgicddbnaa
