/-
  LinearClimbs: the walk of the law.
-/
import Derived.Test.YtmbebcgicddbnaaProg
import Derived.Test.YtmbebcgicddbnaaNK
import Derived.Test.YtmbebcgicddbnaaNF
namespace Go.Proofs.Ytmbebcgicddbnaa
open Go.RowKit

set_option maxHeartbeats 1000000 in
theorem climbs_any (ks : List Int) (hm : ks.length ≤ 9223372036854775807) (A : Option Addr) (c : Nat) (cs : List Int) (hm2 : cs.length ≤ 9223372036854775807) (A2 : Option Addr) (c2 : Nat) (b : Int) (w : World)
    (ha : Ints .i64 w w.heap.size A ks) (_f1 : Fit .i64 ks) (hb : Ints .i64 w w.heap.size A2 cs) (_f2 : Fit .i64 cs) (_f3 : (Lit.int .i64 b).wf = true) :
    Calls Try.prog 5 #[.slice A ks.length c, .slice A2 cs.length c2, .int .i64 b] w fun e w' => e = .returned (.bool true) ∧ Below w.heap.size w w' := by
  by_cases q0 : 40 < ks.length
  · have hI : (40 : Int) < (ks.length : Int) := by omega
    go_enter Try.func5, Try.ntmps5
    go_wp2_with fail
    (with_reducible refine (known_any _).mono ?_); rintro e w1 ⟨rfl, b1⟩
    go_wp2_with fail
    go_ret
    exact ⟨rfl, b1⟩
  have q0I : (ks.length : Int) ≤ 40 := by omega
  by_cases q1 : 40 < cs.length
  · have hI : (40 : Int) < (cs.length : Int) := by omega
    go_enter Try.func5, Try.ntmps5
    go_wp2_with fail
    (with_reducible refine (known_any _).mono ?_); rintro e w1 ⟨rfl, b1⟩
    go_wp2_with fail
    go_ret
    exact ⟨rfl, b1⟩
  have q1I : (cs.length : Int) ≤ 40 := by omega
  clear q0 q1
  have hl1 := @climbP_len ks
  have hl2 := @roundP_len cs b
  have s1 : eqI (climbP ks).1 (climbP ks).1 = true := eqI_refl _
  have s2 : eqI (roundP cs b).1 (roundP cs b).1 = true := eqI_refl _
  go_enter Try.func5, Try.ntmps5
  go_wp2_with fail
  (with_reducible refine (known_any _).mono ?_); rintro e w1 ⟨rfl, b1⟩
  go_wp2_with fail
  (with_reducible refine (climbL_any ks _ rfl (by omega) _ _ _ ((ha.below b1).more b1.size)).mono ?_); rintro e w2 ⟨R2, r2, rfl, hr2, b2⟩
  have B2 := bth b1 b2
  go_wp2_with fail
  (with_reducible refine (climbR_any ks _ rfl (by omega) _ _ _ ((ha.below B2).more B2.size)).mono ?_); rintro e w3 ⟨R3, r3, rfl, hr3, b3⟩
  have B3 := bth B2 b3
  go_wp2_with fail
  (with_reducible refine (roundL_any cs _ rfl (by omega) _ _ _ _ ((hb.below B3).more B3.size)).mono ?_); rintro e w4 ⟨R4, r4, rfl, hr4, b4⟩
  have B4 := bth B3 b4
  go_wp2_with fail
  (with_reducible refine (roundR_any cs _ rfl (by omega) _ _ _ _ ((hb.below B4).more B4.size)).mono ?_); rintro e w5 ⟨R5, r5, rfl, hr5, b5⟩
  have B5 := bth B4 b5
  have z2 := (OwnZ.ints hr2).below (bth b3 (bth b4 b5))
  have z3 := (OwnZ.ints hr3).below (bth b4 b5)
  have z4 := (OwnZ.ints hr4).below b5
  have z5 := OwnZ.ints hr5
  have y4 := b5.size
  clear hr2 hr3 hr4 hr5 b1 b2 b3 b4 b5 B2 B3 B4
  go_wp2_with fail
  (with_reducible refine (same_q (climbP ks).1 (climbP ks).1 _ _ rfl rfl (by omega) (by omega) _ _ _ _ _ _ _ z2 z3).mono ?_); rintro e w6 ⟨rfl, b6⟩
  rw [s1]
  go_wp2_with fail
  (with_reducible refine (same_q (roundP cs b).1 (roundP cs b).1 _ _ rfl rfl (by omega) (by omega) _ _ _ _ _ _ _ ((z4.more y4).below b6) (z5.below b6)).mono ?_); rintro e w7 ⟨rfl, b7⟩
  rw [s2]
  go_wp2_with fail
  go_ret
  exact ⟨rfl, bth B5 (bth b6 b7)⟩
end Go.Proofs.Ytmbebcgicddbnaa
