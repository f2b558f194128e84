/-
  Contracts of the reference's small functions that many laws share: SameInts.
-/
import Derived.Test.YtfihbcpainlpcaaProg
import Derived.Test.YtfihbcpainlpcaaK
namespace Go.Proofs.Ytfihbcpainlpcaa
open Go.RowKit
set_option linter.unusedVariables false
set_option linter.unusedSimpArgs false

theorem same_any (xs ys : List Int) (n m : Nat) (hn : n = xs.length) (hm : m = ys.length) (hmx : n ≤ 140737488355328) (hmy : m ≤ 140737488355328) (A B : Option Addr) (b1 b2 c d : Nat) (w : World) (ha : Ints .i64 w b1 A xs) (hb : Ints .i64 w b2 B ys) :
    Calls Try.prog 29 #[.slice A n c, .slice B m d] w fun e w' => e = .returned (.bool (eqI xs ys)) ∧ ∃ n, w' = w.drewN n := by
  subst hn
  subst hm
  by_cases hlen : xs.length = ys.length
  · have hne : ((xs.length : Int) != (ys.length : Int)) = false := by simp [hlen]
    have Hlen := Lib.hid hlen
    clear hlen
    go_enter Try.func29, Try.ntmps29
    go_wp2
    go_loopw [4, 5] (fun r i wr => r = .bool false ∧ (∃ k : Nat, k ≤ xs.length ∧ i = .int .i64 k ∧ ∀ j, j < k → ix xs j = ix ys j) ∧ ∃ n, wr = w.drewN n) (fun _ i _ => xs.length - (intOf i).toNat)
    case atStart => exact ⟨rfl, ⟨0, Nat.zero_le _, rfl, fun j h => absurd h (by omega)⟩, 0, rfl⟩
    case round =>
      obtain ⟨rfl, ⟨k, hk, rfl, hj⟩, n, rfl⟩ := hrel
      have Hj := Lib.hid hj
      clear hj
      by_cases hlt : k < xs.length
      · have hlt2 : k < ys.length := by have := Hlen.out; omega
        obtain ⟨b1, o1, rfl, hc1⟩ := ha.at_ hlt
        obtain ⟨b2, o2, rfl, hc2⟩ := hb.at_ hlt2
        go_wp2
        go_quiet (fail)
        go_wp2
        · go_ret
          have hn : (ix xs k != ix ys k) = true := by assumption
          refine ⟨ret_bool (eqI_false (fun h => ?_)).symm, n + nq, World.drewN_drewN _ _ _⟩
          subst h
          simp at hn
        · have hn : (ix xs k != ix ys k) = false := by assumption
          go_roundw
          case rel =>
            refine ⟨rfl, ⟨k + 1, by omega, by go_num, fun j h => ?_⟩, n + nq, rfl⟩
            by_cases e : j = k
            · subst e; simpa using hn
            · exact Hj.out j (by omega)
          case measure => simp [intOf]; omega
      · go_wp2
        go_ret
        have e : xs = ys := ix_ext _ _ Hlen.out (fun j h => Hj.out j (by omega))
        exact ⟨ret_bool (eqI_true e).symm, n, rfl⟩
  · have hne : ((xs.length : Int) != (ys.length : Int)) = true := by simp; omega
    have Hlen := Lib.hid hlen
    clear hlen
    go_enter Try.func29, Try.ntmps29
    go_wp2
    go_ret
    exact ⟨ret_bool (eqI_false (fun h => Hlen.out (by rw [h]))).symm, 0, rfl⟩


theorem same_q (xs ys : List Int) (n m : Nat) (hn : n = xs.length) (hm : m = ys.length) (hmx : n ≤ 140737488355328) (hmy : m ≤ 140737488355328) (A B : Option Addr) (b1 b2 c d : Nat) (w : World) (ha : Ints .i64 w b1 A xs) (hb : Ints .i64 w b2 B ys) :
    Calls Try.prog 29 #[.slice A n c, .slice B m d] w fun e w' => e = .returned (.bool (eqI xs ys)) ∧ Below w.heap.size w w' :=
  (same_any xs ys n m hn hm hmx hmy A B b1 b2 c d w ha hb).mono fun e w' ⟨h, n, hw⟩ => ⟨h, by rw [hw]; exact below_drewN (brefl w) n⟩
end Go.Proofs.Ytfihbcpainlpcaa
