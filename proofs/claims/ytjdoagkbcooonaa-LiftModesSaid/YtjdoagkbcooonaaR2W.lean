/-
  Contracts of the reference's small functions that many laws share: Wide, AllWide.
-/
import Derived.Test.YtjdoagkbcooonaaProg
import Derived.Test.YtjdoagkbcooonaaK
namespace Go.Proofs.Ytjdoagkbcooonaa
open Go.RowKit

def wideB (x : Int) : Bool := decide (-1073741824 ≤ x) && decide (x < 1073741824)
theorem wideB_true {x : Int} : wideB x = true ↔ -1073741824 ≤ x ∧ x < 1073741824 := by simp [wideB]
theorem wideB_false {x : Int} (h : wideB x = false) : x < -1073741824 ∨ 1073741824 ≤ x := by
  simp [wideB] at h; omega
def allWideB (xs : List Int) : Bool := xs.all wideB
theorem allWideB_true {xs : List Int} : allWideB xs = true ↔ ∀ k, k < xs.length → wideB (ix xs k) = true := by
  simp only [allWideB, List.all_eq_true]
  exact ⟨fun h k hk => h _ (ix_mem hk), fun h x hx => by obtain ⟨k, hk, rfl⟩ := mem_ix hx; exact h k hk⟩
theorem allWideB_false {xs : List Int} {k : Nat} (hk : k < xs.length) (h : wideB (ix xs k) = false) : allWideB xs = false := by
  cases e : allWideB xs with
  | false => rfl
  | true => rw [allWideB_true.1 e k hk] at h; cases h

theorem wide2_any (x : Int) (w : World) : Calls Try.prog 46 #[.int .i64 x] w fun e w' => e = .returned (.bool (wideB x)) ∧ w = w' := by
  go_enter Try.func46, Try.ntmps46
  go_wp2
  all_goals go_ret
  all_goals refine ⟨ret_bool ?_, rfl⟩
  · have : -1073741824 ≤ x := by assumption
    simp [wideB, this]
  · have : x < -1073741824 := by assumption
    simp [wideB]; omega

theorem allWide2_any (xs : List Int) (n : Nat) (hn : n = xs.length) (hm : n ≤ 140737488355328) (A : Option Addr) (b c : Nat) (w : World) (ha : Ints .i64 w b A xs) :
    Calls Try.prog 39 #[.slice A n c] w fun e w' => e = .returned (.bool (allWideB xs)) ∧ w = w' := by
  subst hn
  go_enter Try.func39, Try.ntmps39
  go_wp2
  go_loop [3] (fun i => ∃ k : Nat, k ≤ xs.length ∧ i = .int .i64 k ∧ ∀ j, j < k → wideB (ix xs j) = true) (fun i => xs.length - (intOf i).toNat)
  case atStart => exact ⟨0, Nat.zero_le _, rfl, fun j h => absurd h (by omega)⟩
  case round =>
    obtain ⟨k, hk, rfl, hj⟩ := hrel
    have Hj := Lib.hid hj
    clear hj
    by_cases hlt : k < xs.length
    · obtain ⟨b1, o1, rfl, hc1⟩ := ha.at_ hlt
      go_wp2_with (go_at_call 46; refine (wide2_any _ _).mono ?_; rintro e w' ⟨rfl, rfl⟩)
      · have hn : wideB (ix xs k) = false := by first | assumption | (simpa using ‹(!wideB (ix xs k)) = true›)
        go_ret
        exact ⟨ret_bool (allWideB_false hlt hn).symm, rfl⟩
      · have hn : wideB (ix xs k) = true := by first | assumption | (simpa using ‹(!wideB (ix xs k)) = false›)
        go_round
        case rel =>
          refine ⟨k + 1, by omega, by go_num, fun j h => ?_⟩
          by_cases e : j = k
          · subst e; exact hn
          · exact Hj.out j (by omega)
        case measure => simp [intOf]; omega
    · go_wp2
      go_ret
      exact ⟨ret_bool (allWideB_true.2 fun j hj => Hj.out j (by omega)).symm, rfl⟩
end Go.Proofs.Ytjdoagkbcooonaa
