/-
  Package linear: plain functions: coefficients out of reflections, rounded coefficients. No program is named.
-/
import Derived.Test.YtmbebcgicddbnaaNP
import Derived.Test.YtmbebcgicddbnaaMA
namespace Go.Proofs.Ytmbebcgicddbnaa
open Go.RowKit

/-! ### Climb -/
def climbS (cs : List Int) (k : Int) : List Int := (List.range cs.length).map (fun i => wrap64 (ix cs i - wrap64 (k * ix cs (cs.length - 1 - i)) / 16384)) ++ [k]
theorem climbS_len (cs : List Int) (k : Int) : (climbS cs k).length = cs.length + 1 := by simp [climbS]
def kB (k : Int) : Bool := decide (-16383 ≤ k) && decide (k ≤ 16383)
theorem kB_true {k : Int} : kB k = true ↔ -16383 ≤ k ∧ k ≤ 16383 := by simp [kB]
def allKB (ks : List Int) : Bool := ks.all kB
theorem allKB_true {xs : List Int} : allKB xs = true ↔ ∀ k, k < xs.length → kB (ix xs k) = true := by
  simp only [allKB, List.all_eq_true]
  exact ⟨fun h k hk => h _ (ix_mem hk), fun h x hx => by obtain ⟨k, hk, rfl⟩ := mem_ix hx; exact h k hk⟩
theorem allKB_false {xs : List Int} {k : Nat} (hk : k < xs.length) (h : kB (ix xs k) = false) : allKB xs = false := by
  cases e : allKB xs with
  | false => rfl
  | true => rw [allKB_true.1 e k hk] at h; cases h
def climbTo (ks : List Int) (k : Nat) : List Int := (ks.take k).foldl climbS []
theorem climbTo_zero (ks : List Int) : climbTo ks 0 = [] := by simp [climbTo]
theorem climbTo_succ {ks : List Int} {k : Nat} (h : k < ks.length) : climbTo ks (k + 1) = climbS (climbTo ks k) (ix ks k) := by
  unfold climbTo; rw [take_succ_ix h, List.foldl_append]; rfl
theorem climbTo_len {ks : List Int} : ∀ {k : Nat}, k ≤ ks.length → (climbTo ks k).length = k
  | 0, _ => by simp [climbTo]
  | k + 1, h => by rw [climbTo_succ (by omega), climbS_len, climbTo_len (k := k) (by omega)]
def okClimb (ks : List Int) : Bool := decide (1 ≤ ks.length) && decide (ks.length ≤ 32) && allKB ks
theorem okClimb_true {ks : List Int} : okClimb ks = true ↔ 1 ≤ ks.length ∧ ks.length ≤ 32 ∧ allKB ks = true := by simp [okClimb, and_assoc]
def climbP (ks : List Int) : List Int × Int := if okClimb ks = true then (climbTo ks ks.length, 0) else ([], 1)
theorem climbP_ok {ks : List Int} (h : okClimb ks = true) : climbP ks = (climbTo ks ks.length, 0) := by unfold climbP; rw [if_pos h]
theorem climbP_bad {ks : List Int} (h : okClimb ks = false) : climbP ks = ([], 1) := by unfold climbP; rw [if_neg (by rw [h]; simp)]
theorem okClimb_no {ks : List Int} (h : ¬ (1 ≤ ks.length ∧ ks.length ≤ 32 ∧ allKB ks = true)) : okClimb ks = false := by
  cases e : okClimb ks with
  | false => rfl
  | true => exact absurd (okClimb_true.1 e) h
theorem climbP_len {ks : List Int} : (climbP ks).1.length ≤ ks.length := by
  unfold climbP
  split
  · rw [climbTo_len (Nat.le_refl _)]; exact Nat.le_refl _
  · simp
theorem climbP_okc {ks : List Int} (h : (climbP ks).2 = 0) : okClimb ks = true := by
  unfold climbP at h
  split at h
  · assumption
  · simp at h
/-- the row when k of the new numbers are there: next of Climb. -/
def nextTo (cs : List Int) (k : Int) (n : Nat) : List Int := (List.range n).map (fun i => wrap64 (ix cs i - wrap64 (k * ix cs (cs.length - 1 - i)) / 16384))
theorem nextTo_succ (cs : List Int) (k : Int) (n : Nat) : nextTo cs k (n + 1) = nextTo cs k n ++ [wrap64 (ix cs n - wrap64 (k * ix cs (cs.length - 1 - n)) / 16384)] := by
  unfold nextTo; rw [List.range_succ, List.map_append]; rfl
theorem nextTo_len (cs : List Int) (k : Int) (n : Nat) : (nextTo cs k n).length = n := by simp [nextTo]
theorem climbS_next (cs : List Int) (k : Int) : climbS cs k = nextTo cs k cs.length ++ [k] := rfl
/-- the reference's way, in place. -/
theorem nextTo_ix {cs : List Int} {k : Int} {n i : Nat} (h : i < n) : ix (nextTo cs k n) i = wrap64 (ix cs i - wrap64 (k * ix cs (cs.length - 1 - i)) / 16384) := by
  unfold nextTo; rw [ix_map_range _ _ _ h]

/-! ### Round -/
def halfN : Nat → Int
  | 0 => 0
  | s + 1 => 2 ^ s
def roundAt (cs : List Int) (s : Nat) : List Int := cs.map fun c => (c + halfN s) / 2 ^ s
theorem roundAt_len (cs : List Int) (s : Nat) : (roundAt cs s).length = cs.length := by simp [roundAt]
theorem roundAt_ix {cs : List Int} {s k : Nat} (h : k < cs.length) : ix (roundAt cs s) k = (ix cs k + halfN s) / 2 ^ s := by
  rw [ix_eq (by rw [roundAt_len]; exact h), ix_eq h]; simp [roundAt]
def fitAll (l : List Int) (bits : Int) : Bool := l.all (fun x => fitsB x bits)
theorem fitAll_true {xs : List Int} {b : Int} : fitAll xs b = true ↔ ∀ k, k < xs.length → fitsB (ix xs k) b = true := by
  simp only [fitAll, List.all_eq_true]
  exact ⟨fun h k hk => h _ (ix_mem hk), fun h x hx => by obtain ⟨k, hk, rfl⟩ := mem_ix hx; exact h k hk⟩
theorem fitAll_false {xs : List Int} {b : Int} {k : Nat} (hk : k < xs.length) (h : fitsB (ix xs k) b = false) : fitAll xs b = false := by
  cases e : fitAll xs b with
  | false => rfl
  | true => rw [fitAll_true.1 e k hk] at h; cases h
def bigB (c : Int) : Bool := decide (-35184372088832 ≤ c) && decide (c ≤ 35184372088832)
theorem bigB_true {c : Int} : bigB c = true ↔ -35184372088832 ≤ c ∧ c ≤ 35184372088832 := by simp [bigB]
def allBigB (cs : List Int) : Bool := cs.all bigB
theorem allBigB_true {xs : List Int} : allBigB xs = true ↔ ∀ k, k < xs.length → bigB (ix xs k) = true := by
  simp only [allBigB, List.all_eq_true]
  exact ⟨fun h k hk => h _ (ix_mem hk), fun h x hx => by obtain ⟨k, hk, rfl⟩ := mem_ix hx; exact h k hk⟩
theorem allBigB_false {xs : List Int} {k : Nat} (hk : k < xs.length) (h : bigB (ix xs k) = false) : allBigB xs = false := by
  cases e : allBigB xs with
  | false => rfl
  | true => rw [allBigB_true.1 e k hk] at h; cases h
def okRound (cs : List Int) (bits : Int) : Bool := decide (1 ≤ cs.length) && decide (cs.length ≤ 32) && decide (2 ≤ bits) && decide (bits ≤ 16) && allBigB cs
theorem okRound_true {cs : List Int} {b : Int} : okRound cs b = true ↔ 1 ≤ cs.length ∧ cs.length ≤ 32 ∧ 2 ≤ b ∧ b ≤ 16 ∧ allBigB cs = true := by simp [okRound, and_assoc]
theorem okRound_no {cs : List Int} {b : Int} (h : ¬ (1 ≤ cs.length ∧ cs.length ≤ 32 ∧ 2 ≤ b ∧ b ≤ 16 ∧ allBigB cs = true)) : okRound cs b = false := by
  cases e : okRound cs b with
  | false => rfl
  | true => exact absurd (okRound_true.1 e) h
/-- the first shift from s on, of n more, at which all fit. -/
def findS (cs : List Int) (b : Int) : Nat → Nat → Option Nat
  | _, 0 => none
  | s, n + 1 => if fitAll (roundAt cs s) b = true then some s else findS cs b (s + 1) n
theorem findS_yes {cs : List Int} {b : Int} {s n : Nat} (h : fitAll (roundAt cs s) b = true) : findS cs b s (n + 1) = some s := by unfold findS; rw [if_pos h]
theorem findS_no {cs : List Int} {b : Int} {s n : Nat} (h : fitAll (roundAt cs s) b = false) : findS cs b s (n + 1) = findS cs b (s + 1) n := by rw [findS, if_neg (by rw [h]; simp)]
def roundP (cs : List Int) (b : Int) : List Int × Int × Int :=
  if okRound cs b = true then (match findS cs b 0 15 with | some s => (roundAt cs s, 14 - (s : Int), 0) | none => ([], 0, 6)) else ([], 0, 1)
theorem roundP_bad {cs : List Int} {b : Int} (h : okRound cs b = false) : roundP cs b = ([], 0, 1) := by unfold roundP; rw [if_neg (by rw [h]; simp)]
theorem roundP_some {cs : List Int} {b : Int} {s : Nat} (h : okRound cs b = true) (h2 : findS cs b 0 15 = some s) : roundP cs b = (roundAt cs s, 14 - (s : Int), 0) := by unfold roundP; rw [if_pos h, h2]
theorem roundP_none {cs : List Int} {b : Int} (h : okRound cs b = true) (h2 : findS cs b 0 15 = none) : roundP cs b = ([], 0, 6) := by unfold roundP; rw [if_pos h, h2]
theorem roundP_len {cs : List Int} {b : Int} : (roundP cs b).1.length ≤ cs.length := by
  unfold roundP
  (repeat' split) <;> simp [roundAt_len]
theorem half_b {s : Nat} (h : s ≤ 14) : 0 ≤ halfN s ∧ halfN s ≤ 8192 := by
  rcases s with _ | _ | _ | _ | _ | _ | _ | _ | _ | _ | _ | _ | _ | _ | _ | s <;> first | (exact ⟨by decide, by decide⟩) | omega
theorem roundTo_succ {cs : List Int} {s k : Nat} (h : k < cs.length) : (roundAt cs s).take (k + 1) = (roundAt cs s).take k ++ [(ix cs k + halfN s) / 2 ^ s] := by
  rw [take_succ_ix (by rw [roundAt_len]; exact h), roundAt_ix h]
theorem findS_fit {cs : List Int} {b : Int} : ∀ {n s t : Nat}, findS cs b s n = some t → fitAll (roundAt cs t) b = true ∧ s ≤ t ∧ t < s + n
  | 0, s, t, h => by simp [findS] at h
  | n + 1, s, t, h => by
    rw [findS] at h
    split at h
    · rename_i hf
      injection h with h; subst h
      exact ⟨hf, by omega, by omega⟩
    · obtain ⟨h1, h2, h3⟩ := findS_fit h
      exact ⟨h1, by omega, by omega⟩

/-! ### LinearNought -/
theorem climbS_wf {cs : List Int} {k : Int} (hk : kB k = true) : ∀ i, -9223372036854775808 ≤ ix (climbS cs k) i ∧ ix (climbS cs k) i ≤ 9223372036854775807 := fun i => by
  have hk' := kB_true.1 hk
  rw [climbS_next]
  by_cases h : i < cs.length
  · rw [ix_append_left (by rw [nextTo_len]; exact h), nextTo_ix h]; exact w64_b _
  · rw [ix_append_right (by rw [nextTo_len]; omega), nextTo_len]
    by_cases e : i - cs.length = 0
    · rw [e]; simp [ix]; omega
    · rw [ix_out (by simp; omega)]; omega
theorem climbTo_wf {ks : List Int} (h : allKB ks = true) {k : Nat} (hk : k ≤ ks.length) : ∀ i, -9223372036854775808 ≤ ix (climbTo ks k) i ∧ ix (climbTo ks k) i ≤ 9223372036854775807 := fun i => by
  cases k with
  | zero => rw [climbTo_zero]; simp [ix]
  | succ k => rw [climbTo_succ (by omega)]; exact climbS_wf (allKB_true.1 h k (by omega)) i
theorem climbS_nought {cs : List Int} (h : ∀ i, -9223372036854775808 ≤ ix cs i ∧ ix cs i ≤ 9223372036854775807) : climbS cs 0 = cs ++ [0] := by
  rw [climbS_next]
  congr 1
  refine ix_ext _ _ (nextTo_len _ _ _) fun i hi => ?_
  rw [nextTo_len] at hi
  rw [nextTo_ix hi, Int.zero_mul, show wrap64 0 / 16384 = 0 from by rw [IntWalk.wrap64_in 0 (by omega)]; rfl, Int.sub_zero]
  exact IntWalk.wrap64_in _ (h i)
theorem climb_nought {ks : List Int} (hl : ks.length ≤ 31) (h : (climbP ks).2 = 0) : climbP (ks ++ [0]) = ((climbP ks).1 ++ [0], 0) := by
  have hok := climbP_okc h
  obtain ⟨h1, h2, h3⟩ := okClimb_true.1 hok
  have hok2 : okClimb (ks ++ [0]) = true := okClimb_true.2 ⟨by simp, by simp; omega, by simp [allKB] at h3 ⊢; exact ⟨h3, by decide⟩⟩
  rw [climbP_ok hok, climbP_ok hok2]
  have e : climbTo (ks ++ [0]) ks.length = climbTo ks ks.length := by unfold climbTo; simp
  have e2 : ix (ks ++ [0]) ks.length = 0 := by rw [ix_append_right (Nat.le_refl _)]; simp [ix]
  rw [show (ks ++ [(0 : Int)]).length = ks.length + 1 from by simp, climbTo_succ (by simp), e, e2, climbS_nought (climbTo_wf h3 (Nat.le_refl _))]
theorem sumTo_app {past cs : List Int} {c : Int} : ∀ {k : Nat}, k ≤ cs.length → sumTo past (cs ++ [c]) k = sumTo past cs k
  | 0, _ => rfl
  | k + 1, h => by rw [sumTo, sumTo, sumTo_app (by omega), ix_append_left (by omega)]
theorem pred_nought (past cs : List Int) (s : Nat) : predP past (cs ++ [0]) s = predP past cs s := by
  unfold predP
  by_cases h : past.length ≤ cs.length
  · rw [show min (cs ++ [(0 : Int)]).length past.length = past.length from by (simp; omega), show min cs.length past.length = past.length by omega, sumTo_app h]
  · rw [show min (cs ++ [(0 : Int)]).length past.length = cs.length + 1 from by (simp; omega), show min cs.length past.length = cs.length by omega, sumTo, sumTo_app (Nat.le_refl _)]
    have e2 : ix (cs ++ [0]) cs.length = 0 := by rw [ix_append_right (Nat.le_refl _)]; simp [ix]
    rw [e2, Int.zero_mul]
    congr 1
    have := sumTo_b past cs cs.length
    rw [IntWalk.wrap64_in 0 (by omega), Int.add_zero, IntWalk.wrap64_in _ this]
theorem mayN_nought {cs : List Int} {sh : Int} (hl : cs.length ≤ 31) (h : mayN cs sh = true) : mayN (cs ++ [0]) sh = true := by
  obtain ⟨h1, h2, h3, h4, h5⟩ := mayN_true.1 h
  exact mayN_true.2 ⟨by simp, by simp; omega, h3, h4, by simp [allCoefB] at h5 ⊢; exact ⟨h5, by decide⟩⟩

/-! ### What Round gives may be. -/
theorem round_may {cs : List Int} {b : Int} (h : (roundP cs b).2.2 = 0) : mayN (roundP cs b).1 (roundP cs b).2.1 = true := by
  unfold roundP at h ⊢
  by_cases hk : okRound cs b = true
  · obtain ⟨h1, h2, h3, h4, _⟩ := okRound_true.1 hk
    rw [if_pos hk] at h ⊢
    cases hf : findS cs b 0 15 with
    | none => rw [hf] at h; simp at h
    | some t =>
      obtain ⟨f1, _, f3⟩ := findS_fit hf
      refine mayN_true.2 ⟨by simp [roundAt_len]; omega, by simp [roundAt_len]; omega, by simp; omega, by simp; omega, allCoefB_true.2 fun k hk => ?_⟩
      have hx := fitAll_true.1 f1 k hk
      have p30' := p30 (k := (b - 1).toNat) (by omega)
      have hp : (2 : Nat) ^ (b - 1).toNat ≤ 2 ^ 15 := Nat.pow_le_pow_right (by omega) (by omega)
      have e : ((2 ^ (b - 1).toNat : Nat) : Int) = 2 ^ (b - 1).toNat := by simp
      have hl := low_ok (k := (b - 1).toNat) (by omega)
      have hh := high_ok (k := (b - 1).toNat) (by omega)
      rw [show ((b - 1).toNat : Int) + 1 = b by omega] at hl hh
      simp only [fitsB, hl, hh, Bool.and_eq_true, decide_eq_true_eq] at hx
      exact coefB_true.2 (by show _ ≤ ix (roundAt cs t) k ∧ ix (roundAt cs t) k < _; omega)
  · rw [if_neg hk] at h; simp at h
end Go.Proofs.Ytmbebcgicddbnaa
