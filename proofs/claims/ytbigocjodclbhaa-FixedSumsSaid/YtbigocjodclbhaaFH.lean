/-
  What 'known' of the fixed predictors says.
-/
import Derived.Test.YtbigocjodclbhaaProg
import Derived.Test.YtbigocjodclbhaaFG
namespace Go.Proofs.Ytbigocjodclbhaa
open Go.RowKit

set_option maxHeartbeats 2000000 in
theorem known_any (w : World) : Calls Try.prog 10 #[] w fun e w' => e = .returned (.bool true) ∧ Below w.heap.size w w' := by
  have r1 : restP [0, 1, 4, 9, 16] 2 = ([2, 2, 2], 0) := by decide +kernel
  have r2 : backP [0, 1] [2, 2, 2] 2 = ([0, 1, 4, 9, 16], 0) := by decide +kernel
  have r3 : (bestLTo [0, 1, 4, 9, 16, 25] 5).1 = 3 := by decide +kernel
  have r4 : weightP [0, 1, 4, 9, 16, 25] 2 = 4 := by decide +kernel
  have R1 := Lib.hid r1
  have R2 := Lib.hid r2
  have R3 := Lib.hid r3
  have R4 := Lib.hid r4
  clear r1 r2 r3 r4
  have q1 : eqI [2, 2, 2] [2, 2, 2] = true := eqI_refl _
  have q2 : eqI [0, 1, 4, 9, 16] [0, 1, 4, 9, 16] = true := eqI_refl _
  have hI5 : ∀ w : World, Ints .i64 (w.alloc (.cells #[.int .i64 0, .int .i64 1, .int .i64 4, .int .i64 9, .int .i64 16] 3)) (w.alloc (.cells #[.int .i64 0, .int .i64 1, .int .i64 4, .int .i64 9, .int .i64 16] 3)).heap.size (some ⟨w.heap.size, 0, none⟩) [0, 1, 4, 9, 16] := fun w => (ints_lit w .i64 _ _ _ rfl).more (by simp)
  have hI2 : ∀ w : World, Ints .i64 (w.alloc (.cells #[.int .i64 0, .int .i64 1] 3)) (w.alloc (.cells #[.int .i64 0, .int .i64 1] 3)).heap.size (some ⟨w.heap.size, 0, none⟩) [0, 1] := fun w => (ints_lit w .i64 _ _ _ rfl).more (by simp)
  have hI3 : ∀ w : World, Ints .i64 (w.alloc (.cells #[.int .i64 2, .int .i64 2, .int .i64 2] 3)) (w.alloc (.cells #[.int .i64 2, .int .i64 2, .int .i64 2] 3)).heap.size (some ⟨w.heap.size, 0, none⟩) [2, 2, 2] := fun w => (ints_lit w .i64 _ _ _ rfl).more (by simp)
  have hI6 : ∀ w : World, Ints .i64 (w.alloc (.cells #[.int .i64 0, .int .i64 1, .int .i64 4, .int .i64 9, .int .i64 16, .int .i64 25] 3)) (w.alloc (.cells #[.int .i64 0, .int .i64 1, .int .i64 4, .int .i64 9, .int .i64 16, .int .i64 25] 3)).heap.size (some ⟨w.heap.size, 0, none⟩) [0, 1, 4, 9, 16, 25] := fun w => (ints_lit w .i64 _ _ _ rfl).more (by simp)
  have HI5 := Lib.hid hI5
  have HI2 := Lib.hid hI2
  have HI3 := Lib.hid hI3
  have HI6 := Lib.hid hI6
  clear hI5 hI2 hI3 hI6
  go_enter Try.func10, Try.ntmps10
  go_wp2_with fail
  refine (restL_any [0, 1, 4, 9, 16] 2 (by simp) _ _ _ (HI5.out _)).mono ?_; rintro e w1 ⟨A1, k1, rfl, ho1, b1⟩
  rw [R1.out] at ho1 ⊢
  have B1 := bth (bal (brefl w) _) b1
  go_wp2_with fail
  have x1 := own_ints ho1
  refine (backL_any [0, 1] [2, 2, 2] 2 (by simp) (by simp) _ _ _ _ _ (HI2.out _) ((x1.below (bal (brefl w1) _)).more (by simp))).mono ?_; rintro e w2 ⟨A2, k2, rfl, ho2, b2⟩
  rw [R2.out] at ho2 ⊢
  have C2 := bth (bal (brefl w1) _) b2
  have B2 := bth B1 C2
  have x1 := (x1.below C2)
  have x2 := own_ints ho2
  go_wp2_with fail
  have D0 := bal (brefl w2) (.cells #[.int .i64 2, .int .i64 2, .int .i64 2] 3)
  refine (same_q [2, 2, 2] [2, 2, 2] _ _ rfl rfl (by simp) (by simp) _ _ _ _ _ _ _ ((x1.more C2.size).below D0) (HI3.out _)).mono ?_; rintro e w3 ⟨rfl, b3⟩
  rw [q1]
  have D3 := bth D0 b3
  go_wp2_with fail
  have D4 := bal D3 (.cells #[.int .i64 0, .int .i64 1, .int .i64 4, .int .i64 9, .int .i64 16] 3)
  refine (same_q [0, 1, 4, 9, 16] [0, 1, 4, 9, 16] _ _ rfl rfl (by simp) (by simp) _ _ _ _ _ _ _ (x2.below D4) (HI5.out _)).mono ?_; rintro e w4 ⟨rfl, b4⟩
  rw [q2]
  have D5 := bth D4 b4
  go_wp2_with fail
  refine (bestL_any [0, 1, 4, 9, 16, 25] (by simp) _ _ _ (HI6.out _)).mono ?_; rintro e w5 ⟨rfl, b5⟩
  rw [R3.out]
  have D6 := bth (bal D5 _) b5
  go_wp2_with fail
  refine (weightL_any [0, 1, 4, 9, 16, 25] 2 (by simp) _ _ _ (HI6.out _)).mono ?_; rintro e w6 ⟨rfl, b6⟩
  rw [R4.out]
  go_wp2_with fail
  go_ret
  exact ⟨rfl, bth B2 (bth (bal D6 _) b6)⟩
end Go.Proofs.Ytbigocjodclbhaa
