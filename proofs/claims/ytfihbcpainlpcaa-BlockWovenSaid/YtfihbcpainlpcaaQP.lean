/-
  Plain: what the functions on blocks give.
-/
import Derived.Test.YtfihbcpainlpcaaProg
import Derived.Test.YtfihbcpainlpcaaQM
import Derived.Test.YtfihbcpainlpcaaMD
namespace Go.Proofs.Ytfihbcpainlpcaa
open Go.RowKit
set_option linter.unusedVariables false
set_option linter.unusedSimpArgs false

/-- what a function gives that gives a block and an error. -/
structure BR where
  bits : Int
  r : Nat
  R : Nat → List Int
  code : Int
def errB (c : Int) : BR := ⟨0, 0, fun _ => [], c⟩

def rightB (rate ch bits : Int) : Bool := decide (1 ≤ rate) && decide (rate ≤ 1048576) && decide (1 ≤ ch) && decide (ch ≤ 8) && decide (4 ≤ bits) && decide (bits ≤ 24)
theorem rightB_true {rate ch bits : Int} : rightB rate ch bits = true ↔ 1 ≤ rate ∧ rate ≤ 1048576 ∧ 1 ≤ ch ∧ ch ≤ 8 ∧ 4 ≤ bits ∧ bits ≤ 24 := by simp [rightB, and_assoc]
theorem rightB_no {rate ch bits : Int} (h : ¬ (1 ≤ rate ∧ rate ≤ 1048576 ∧ 1 ≤ ch ∧ ch ≤ 8 ∧ 4 ≤ bits ∧ bits ≤ 24)) : rightB rate ch bits = false := by
  cases e : rightB rate ch bits with
  | false => rfl
  | true => exact absurd (rightB_true.1 e) h

/-! ### Part -/
def cnt (ch j i : Nat) : Nat := j / ch + if i < j % ch then 1 else 0
def partTo (l : List Int) (ch j i : Nat) : List Int := (List.range (cnt ch j i)).map fun k => ix l (k * ch + i)
theorem cnt_zero (ch i : Nat) : cnt ch 0 i = 0 := by simp [cnt]
theorem partTo_zero (l : List Int) (ch i : Nat) : partTo l ch 0 i = [] := by simp [partTo, cnt_zero]
theorem cnt_step {ch j i : Nat} (hc : 0 < ch) (hi : i < ch) : cnt ch (j + 1) i = cnt ch j i + if i = j % ch then 1 else 0 := by
  have hj : ch * (j / ch) + j % ch = j := Nat.div_add_mod j ch
  have ht : j % ch < ch := Nat.mod_lt _ hc
  unfold cnt
  generalize j / ch = q at *
  generalize j % ch = t at *
  by_cases h : t + 1 < ch
  · have e1 : (j + 1) / ch = q := by rw [← hj, Nat.add_assoc, Nat.mul_add_div hc, Nat.div_eq_of_lt h]; rfl
    have e2 : (j + 1) % ch = t + 1 := by rw [← hj, Nat.add_assoc, Nat.mul_add_mod, Nat.mod_eq_of_lt h]
    rw [e1, e2]
    by_cases a : i < t
    · rw [if_pos a, if_pos (by omega), if_neg (by omega)]
    · by_cases b : i = t
      · rw [if_neg a, if_pos b, if_pos (by omega)]
      · rw [if_neg a, if_neg b, if_neg (by omega)]
  · have e0 : j + 1 = ch * (q + 1) := by rw [Nat.mul_add]; omega
    rw [e0, Nat.mul_div_cancel_left _ hc, Nat.mul_mod_right]
    by_cases a : i < t
    · rw [if_pos a, if_neg (by omega), if_neg (by omega)]
    · rw [if_neg a, if_neg (by omega), if_pos (by omega)]
theorem cnt_at {ch j : Nat} : cnt ch j (j % ch) = j / ch := by unfold cnt; rw [if_neg (by omega)]; rfl
theorem cnt_le {ch j i : Nat} : cnt ch j i ≤ j + 1 := by
  unfold cnt
  have := Nat.div_le_self j ch
  split <;> omega
theorem partTo_len {l : List Int} {ch j i : Nat} : (partTo l ch j i).length = cnt ch j i := by simp [partTo]
theorem partTo_step {l : List Int} {ch j i : Nat} (hc : 0 < ch) (hi : i < ch) : partTo l ch (j + 1) i = if i = j % ch then partTo l ch j i ++ [ix l j] else partTo l ch j i := by
  unfold partTo
  rw [cnt_step hc hi]
  by_cases e : i = j % ch
  · rw [if_pos e, if_pos e, List.range_succ, List.map_append]
    subst e
    rw [cnt_at]
    simp only [List.map_cons, List.map_nil]
    rw [Nat.mul_comm, Nat.div_add_mod]
  · rw [if_neg e, if_neg e]; rfl
def partB (l : List Int) (rate ch bits : Int) : BR :=
  if rightB rate ch bits = true then
    (if l.length = 0 then errB 7 else if l.length % ch.toNat ≠ 0 then errB 3 else if 4096 < l.length / ch.toNat then errB 4 else
      if allFit l bits = true then ⟨bits, ch.toNat, partTo l ch.toNat l.length, 0⟩ else errB 6)
  else errB 1

/-! ### Weave -/
def weaveN (R : Nat → List Int) (r : Nat) : Nat → List Int
  | 0 => []
  | i + 1 => weaveN R r i ++ (List.range r).map fun k => ix (R k) i
theorem weaveN_len (R : Nat → List Int) (r : Nat) : ∀ n, (weaveN R r n).length = n * r
  | 0 => by simp [weaveN]
  | n + 1 => by rw [weaveN, List.length_append, weaveN_len R r n, Nat.add_mul]; simp
def weaveB (bits : Int) (R : Nat → List Int) (r : Nat) : List Int := if bmayB bits R r = true then weaveN R r (R 0).length else []
theorem weaveB_len {bits : Int} {R : Nat → List Int} {r : Nat} : (weaveB bits R r).length ≤ (R 0).length * r := by
  unfold weaveB
  split
  · rw [weaveN_len]; exact Nat.le_refl _
  · simp

/-! ### Pack, Unpack, Cut, Join -/
def packB (bits : Int) (R : Nat → List Int) (r : Nat) : List Int × Int := if bmayB bits R r = true then packR (weaveN R r (R 0).length) bits else ([], 1)
def unpackB (l : List Int) (rate ch bits : Int) : BR :=
  if rightB rate ch bits = true then (if (unpackR l bits).2 = 0 then partB (unpackR l bits).1 rate ch bits else errB (unpackR l bits).2) else errB 1
def cutB (bits : Int) (R : Nat → List Int) (r : Nat) (a b : Int) : BR :=
  if bmayB bits R r = true then (if 0 ≤ a ∧ a < b ∧ b ≤ ((R 0).length : Int) then ⟨bits, r, fun i => ((R i).drop a.toNat).take (b.toNat - a.toNat), 0⟩ else errB 6) else errB 1
def joinB (bits : Int) (R : Nat → List Int) (r : Nat) (bits2 : Int) (R2 : Nat → List Int) (r2 : Nat) : BR :=
  if bmayB bits R r = true ∧ bmayB bits2 R2 r2 = true then
    (if bits = bits2 ∧ r = r2 then (if (R 0).length + (R2 0).length ≤ 4096 then ⟨bits, r, fun i => R i ++ R2 i, 0⟩ else errB 4) else errB 2)
  else errB 1
end Go.Proofs.Ytfihbcpainlpcaa
