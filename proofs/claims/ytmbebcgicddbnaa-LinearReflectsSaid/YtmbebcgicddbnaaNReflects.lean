/-
  LinearReflects: the walk of the law.
-/
import Derived.Test.YtmbebcgicddbnaaProg
import Derived.Test.YtmbebcgicddbnaaNK
import Derived.Test.YtmbebcgicddbnaaNF
import Derived.Test.YtmbebcgicddbnaaNJ
namespace Go.Proofs.Ytmbebcgicddbnaa
open Go.RowKit

set_option maxHeartbeats 1000000 in
theorem reflects_any (l : List Int) (hm : l.length ≤ 9223372036854775807) (A : Option Addr) (c : Nat) (o : Int) (w : World) (ha : Ints .i64 w w.heap.size A l) (_f1 : Fit .i64 l) (_f2 : (Lit.int .i64 o).wf = true) :
    Calls Try.prog 8 #[.slice A l.length c, .int .i64 o] w fun e w' => e = .returned (.bool true) ∧ Below w.heap.size w w' := by
  by_cases q1 : 200 < l.length ∧ l.length ≤ 4096
  · have hI : (200 : Int) < (l.length : Int) := by omega
    have hI2 : (l.length : Int) ≤ 4096 := by omega
    clear q1
    go_enter Try.func8, Try.ntmps8
    go_wp2_with fail
    (with_reducible refine (known_any _).mono ?_); rintro e w1 ⟨rfl, b1⟩
    go_wp2_with fail
    go_ret
    exact ⟨rfl, b1⟩
  have hll := @refP_small l o
  have s1 : eqI (refP l o).1 (refP l o).1 = true := eqI_refl _
  by_cases q2 : 200 < l.length
  · have hI : (200 : Int) < (l.length : Int) := by omega
    have hI2 : (4096 : Int) < (l.length : Int) := by omega
    clear q1 q2
    go_enter Try.func8, Try.ntmps8
    go_wp2_with fail
    (with_reducible refine (known_any _).mono ?_); rintro e w1 ⟨rfl, b1⟩
    go_wp2_with fail
    (with_reducible refine (reflectL_any l _ rfl hm _ _ _ _ ((ha.below b1).more b1.size)).mono ?_); rintro e w2 ⟨R2, r2, rfl, hr2, b2⟩
    have B2 := bth b1 b2
    go_wp2_with fail
    (with_reducible refine (reflectR_any l _ rfl hm _ _ _ _ ((ha.below B2).more B2.size)).mono ?_); rintro e w3 ⟨R3, r3, rfl, hr3, b3⟩
    have B3 := bth B2 b3
    have z2 := (OwnZ.ints hr2).below b3
    have z3 := OwnZ.ints hr3
    go_wp2_with fail
    (with_reducible refine (same_q (refP l o).1 (refP l o).1 _ _ rfl rfl (by omega) (by omega) _ _ _ _ _ _ _ z2 z3).mono ?_); rintro e w4 ⟨rfl, b4⟩
    rw [s1]
    go_wp2_with fail
    go_ret
    exact ⟨rfl, bth B3 b4⟩
  · have hI : (l.length : Int) ≤ 200 := by omega
    clear q1 q2
    go_enter Try.func8, Try.ntmps8
    go_wp2_with fail
    (with_reducible refine (known_any _).mono ?_); rintro e w1 ⟨rfl, b1⟩
    go_wp2_with fail
    (with_reducible refine (reflectL_any l _ rfl hm _ _ _ _ ((ha.below b1).more b1.size)).mono ?_); rintro e w2 ⟨R2, r2, rfl, hr2, b2⟩
    have B2 := bth b1 b2
    go_wp2_with fail
    (with_reducible refine (reflectR_any l _ rfl hm _ _ _ _ ((ha.below B2).more B2.size)).mono ?_); rintro e w3 ⟨R3, r3, rfl, hr3, b3⟩
    have B3 := bth B2 b3
    have z2 := (OwnZ.ints hr2).below b3
    have z3 := OwnZ.ints hr3
    go_wp2_with fail
    (with_reducible refine (same_q (refP l o).1 (refP l o).1 _ _ rfl rfl (by omega) (by omega) _ _ _ _ _ _ _ z2 z3).mono ?_); rintro e w4 ⟨rfl, b4⟩
    rw [s1]
    go_wp2_with fail
    go_ret
    exact ⟨rfl, bth B3 b4⟩
end Go.Proofs.Ytmbebcgicddbnaa
