/-
  Contracts of package learn's and the reference's small functions: limits of numbers, stages, what a filter guesses.
-/
import Derived.Test.YtjhmmbejpdibhaaProg
import Derived.Test.YtjhmmbejpdibhaaK
import Derived.Test.YtjhmmbejpdibhaaR2W
namespace Go.Proofs.Ytjhmmbejpdibhaa
open Go.RowKit

def nearI (x : Int) : Int := min (max x (-1073741824)) 1073741823
theorem nearI_wide (x : Int) : -1073741824 ≤ nearI x ∧ nearI x ≤ 1073741823 := by unfold nearI; omega
def sgnI (x : Int) : Int := if 0 < x then 1 else if x < 0 then -1 else 0
def validB (o r : Int) : Bool := decide (1 ≤ o) && decide (o ≤ 32) && decide (0 ≤ r) && decide (r ≤ 8)
theorem validB_true {o r : Int} : validB o r = true ↔ 1 ≤ o ∧ o ≤ 32 ∧ 0 ≤ r ∧ r ≤ 8 := by simp [validB]; omega
theorem validB_not {o r : Int} (h : ¬ (1 ≤ o ∧ o ≤ 32 ∧ 0 ≤ r ∧ r ≤ 8)) : validB o r = false := by
  cases e : validB o r with
  | false => rfl
  | true => exact absurd (validB_true.1 e) h

theorem wideL_any (x : Int) (w : World) :
    Calls Try.prog 36 #[.int .i64 x] w fun e w' => e = .returned (.bool (wideB x)) ∧ w = w' := by
  go_enter Try.func36, Try.ntmps36
  go_wp2
  all_goals go_ret
  all_goals refine ⟨ret_bool ?_, rfl⟩
  · have : -1073741824 ≤ x := by assumption
    simp [wideB, this]
  · have : x < -1073741824 := by assumption
    simp [wideB]; omega

theorem allWideL_any (xs : List Int) (n : Nat) (hn : n = xs.length) (hm : n ≤ 140737488355328) (A : Option Addr) (b c : Nat) (w : World) (ha : Ints .i64 w b A xs) :
    Calls Try.prog 35 #[.slice A n c] w fun e w' => e = .returned (.bool (allWideB xs)) ∧ w = w' := by
  subst hn
  go_enter Try.func35, Try.ntmps35
  go_wp2
  go_loop [4, 7] (fun _ i => ∃ k : Nat, k ≤ xs.length ∧ i = .int .i64 k ∧ ∀ j, j < k → wideB (ix xs j) = true) (fun _ i => xs.length - (intOf i).toNat)
  case atStart => exact ⟨0, Nat.zero_le _, rfl, fun j h => absurd h (by omega)⟩
  case round =>
    obtain ⟨k, hk, rfl, hj⟩ := hrel
    have Hj := Lib.hid hj
    clear hj
    by_cases hlt : k < xs.length
    · obtain ⟨b1, o1, rfl, hc1⟩ := ha.at_ hlt
      go_wp2_with (go_at_call 36; refine (wideL_any _ _).mono ?_; rintro e w' ⟨rfl, rfl⟩)
      · have hn : wideB (ix xs k) = false := by first | assumption | (simpa using ‹(!wideB (ix xs k)) = true›)
        go_ret
        exact ⟨ret_bool (allWideB_false hlt hn).symm, rfl⟩
      · have hn : wideB (ix xs k) = true := by first | assumption | (simpa using ‹(!wideB (ix xs k)) = false›)
        go_round
        case rel =>
          refine ⟨k + 1, by omega, by go_num, fun j h => ?_⟩
          by_cases e : j = k
          · subst e; exact hn
          · exact Hj.out j (by omega)
        case measure => simp [intOf]; omega
    · go_wp2
      go_ret
      exact ⟨ret_bool (allWideB_true.2 fun j hj => Hj.out j (by omega)).symm, rfl⟩

theorem nearL_any (x : Int) (w : World) :
    Calls Try.prog 31 #[.int .i64 x] w fun e w' => e = .returned (.int .i64 (nearI x)) ∧ w = w' := by
  go_enter Try.func31, Try.ntmps31
  go_wp2
  all_goals go_ret
  all_goals exact ⟨ret_int (by unfold nearI; omega), rfl⟩
theorem nearR_any (x : Int) (w : World) :
    Calls Try.prog 32 #[.int .i64 x] w fun e w' => e = .returned (.int .i64 (nearI x)) ∧ w = w' := by
  go_enter Try.func32, Try.ntmps32
  go_wp2
  all_goals go_ret
  all_goals exact ⟨ret_int (by unfold nearI; omega), rfl⟩
theorem sign_any (x : Int) (w : World) :
    Calls Try.prog 33 #[.int .i64 x] w fun e w' => e = .returned (.int .i64 (sgnI x)) ∧ w = w' := by
  go_enter Try.func33, Try.ntmps33
  go_wp2
  all_goals go_ret
  all_goals exact ⟨ret_int (by unfold sgnI; (repeat' split) <;> omega), rfl⟩

theorem validB_last {o r : Int} (h1 : 1 ≤ o) (h2 : o ≤ 32) (h3 : 0 ≤ r) : validB o r = decide (r ≤ 8) := by simp [validB, h1, h2, h3]

theorem validL_any (o r : Int) (w : World) :
    Calls Try.prog 30 #[.agg #[.int .i64 o, .int .i64 r]] w fun e w' => e = .returned (.bool (validB o r)) ∧ Below w.heap.size w w' := by
  by_cases h1 : 1 ≤ o
  · by_cases h2 : o ≤ 32
    · by_cases h3 : 0 ≤ r
      · have hv := Lib.hid (validB_last h1 h2 h3)
        go_enter Try.func30, Try.ntmps30
        go_wp2
        go_ret
        exact ⟨ret_bool hv.out.symm, (Below.refl _ _).alloc (Nat.le_refl _) _⟩
      · have hv := Lib.hid (validB_not (o := o) (r := r) (by omega))
        go_enter Try.func30, Try.ntmps30
        go_wp2
        go_ret
        exact ⟨ret_bool hv.out.symm, (Below.refl _ _).alloc (Nat.le_refl _) _⟩
    · have hv := Lib.hid (validB_not (o := o) (r := r) (by omega))
      go_enter Try.func30, Try.ntmps30
      go_wp2
      go_ret
      exact ⟨ret_bool hv.out.symm, (Below.refl _ _).alloc (Nat.le_refl _) _⟩
  · have hv := Lib.hid (validB_not (o := o) (r := r) (by omega))
    go_enter Try.func30, Try.ntmps30
    go_wp2
    go_ret
    exact ⟨ret_bool hv.out.symm, (Below.refl _ _).alloc (Nat.le_refl _) _⟩

theorem stageMay_any (o r : Int) (w : World) :
    Calls Try.prog 20 #[.agg #[.int .i64 o, .int .i64 r]] w fun e w' => e = .returned (.bool (validB o r)) ∧ Below w.heap.size w w' := by
  by_cases h1 : 1 ≤ o
  · by_cases h2 : o ≤ 32
    · by_cases h3 : 0 ≤ r
      · have hv := Lib.hid (validB_last h1 h2 h3)
        go_enter Try.func20, Try.ntmps20
        go_wp2
        go_ret
        exact ⟨ret_bool hv.out.symm, (Below.refl _ _).alloc (Nat.le_refl _) _⟩
      · have hv := Lib.hid (validB_not (o := o) (r := r) (by omega))
        go_enter Try.func20, Try.ntmps20
        go_wp2
        go_ret
        exact ⟨ret_bool hv.out.symm, (Below.refl _ _).alloc (Nat.le_refl _) _⟩
    · have hv := Lib.hid (validB_not (o := o) (r := r) (by omega))
      go_enter Try.func20, Try.ntmps20
      go_wp2
      go_ret
      exact ⟨ret_bool hv.out.symm, (Below.refl _ _).alloc (Nat.le_refl _) _⟩
  · have hv := Lib.hid (validB_not (o := o) (r := r) (by omega))
    go_enter Try.func20, Try.ntmps20
    go_wp2
    go_ret
    exact ⟨ret_bool hv.out.symm, (Below.refl _ _).alloc (Nat.le_refl _) _⟩
end Go.Proofs.Ytjhmmbejpdibhaa
