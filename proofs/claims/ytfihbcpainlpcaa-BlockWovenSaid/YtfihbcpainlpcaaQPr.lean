/-
  block.Print.
-/
import Derived.Test.YtfihbcpainlpcaaProg
import Derived.Test.YtfihbcpainlpcaaQK
import Derived.Test.YtfihbcpainlpcaaQSF
import Derived.Test.YtfihbcpainlpcaaQBp
namespace Go.Proofs.Ytfihbcpainlpcaa
open Go.RowKit
set_option linter.unusedVariables false
set_option linter.unusedSimpArgs false

theorem packR_byt (l : List Int) (b : Int) : Byt (packR l b).1 := by
  unfold packR
  split
  · split
    · exact pack_byt _ _
    · exact fun x hx => by simp at hx
  · exact fun x hx => by simp at hx
theorem packB_byt (bits : Int) (R : Nat → List Int) (r : Nat) : Byt (packB bits R r).1 := by
  unfold packB
  split
  · exact packR_byt _ _
  · exact fun x hx => by simp at hx
theorem packB_len {bits : Int} {R : Nat → List Int} {r : Nat} (h : (R 0).length * r ≤ 20000) : (packB bits R r).1.length ≤ 60000 := by
  unfold packB
  split
  · rename_i hm
    obtain ⟨a1, a2, _⟩ := bmayB_true.1 hm
    unfold packR
    split
    · split
      · show (packN _ _).length ≤ 60000
        rw [packN_len, weaveN_len]
        have : sizeN bits ≤ 3 := by unfold sizeN; omega
        exact Nat.le_trans (Nat.mul_le_mul h this) (by omega)
      · simp
    · simp
  · simp
def printB (bits : Int) (R : Nat → List Int) (r : Nat) : Nat := if (packB bits R r).2 = 0 then printN (packB bits R r).1 else 0

set_option maxHeartbeats 2000000 in
theorem printBL_any (R : Nat → List Int) (r : Nat) (hr1 : r ≤ 1000) (hR : ∀ i, i < r → (R i).length ≤ 100000) (hsz : (R 0).length * r ≤ 20000) (RA : Nat → Option Addr) (RC : Nat → Nat) (A : Option Addr) (c : Nat) (bits : Int) (w : World) (h : Rw w w.heap.size A r RA RC R) :
    Calls Try.prog 35 #[.agg #[.int .i64 bits, .slice A r c]] w fun e w' => e = .returned (.int .u64 (printB bits R r : Int)) ∧ Below w.heap.size w w' := by
  obtain ⟨y, hy⟩ : ∃ y, y = packB bits R r := ⟨_, rfl⟩
  have Hpr : Hid (printB bits R r = if y.2 = 0 then printN y.1 else 0) := by show _ = _; rw [hy]; rfl
  have hyl : y.1.length ≤ 60000 := by rw [hy]; exact packB_len hsz
  have Hby : Hid (Byt y.1) := by show Byt _; rw [hy]; exact packB_byt _ _ _
  have Hy := Lib.hid hy
  have HR := Lib.hid hR
  clear hy hR
  go_enter Try.func35, Try.ntmps35
  go_wp2_with fail
  have B1 := bal (brefl w) (.cells #[.int .i64 bits, .slice A r c] 28)
  obtain ⟨w1, hw1⟩ : ∃ w1, w1 = w.alloc (.cells #[.int .i64 bits, .slice A r c] 28) := ⟨_, rfl⟩
  rw [← hw1] at B1 ⊢
  clear hw1
  have t1 := packBL_any R r hr1 HR.out hsz RA RC A c bits w1 ((h.below B1).more B1.size)
  rw [← Hy.out] at t1
  (with_reducible refine t1.mono ?_); rintro e w2 ⟨A2, c2, rfl, ho2, b2⟩
  have B2 := bth B1 b2
  have hz2 := OwnB.ints ho2
  clear t1
  by_cases h0 : y.2 = 0
  · have Hp : Hid (printB bits R r = printN y.1) := by show _ = _; rw [Hpr.out, if_pos h0]
    rw [h0]
    clear h0
    go_wp2_with fail
    (with_reducible refine (printL_q y.1 Hby.out y.1.length rfl (by omega) A2 _ c2 w2 hz2).mono ?_); rintro e w3 ⟨rfl, b3⟩
    have B3 := bth B2 b3
    go_wp2_with fail
    go_ret
    exact ⟨by rw [Hp.out]; rfl, B3⟩
  · have Hp : Hid (printB bits R r = 0) := by show _ = _; rw [Hpr.out, if_neg h0]
    have hb : (y.2 != 0) = true := by simpa using h0
    clear h0
    go_wp2_with fail
    go_ret
    exact ⟨by rw [Hp.out]; rfl, B2⟩
end Go.Proofs.Ytfihbcpainlpcaa
