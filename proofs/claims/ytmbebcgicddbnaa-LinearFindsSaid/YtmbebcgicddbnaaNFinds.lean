/-
  LinearFinds: the walk of the law.
-/
import Derived.Test.YtmbebcgicddbnaaProg
import Derived.Test.YtmbebcgicddbnaaNK
import Derived.Test.YtmbebcgicddbnaaNF
import Derived.Test.YtmbebcgicddbnaaNI
namespace Go.Proofs.Ytmbebcgicddbnaa
open Go.RowKit

/-- what Find gives. -/
def findP (l : List Int) (o b : Int) : List Int × Int × Int := if (refP l o).2 = 0 then roundP (climbP (refP l o).1).1 b else ([], 0, (refP l o).2)
theorem findP_yes {l : List Int} {o b : Int} (h : (refP l o).2 = 0) : findP l o b = roundP (climbP (refP l o).1).1 b := by unfold findP; rw [if_pos h]
theorem findP_no {l : List Int} {o b : Int} (h : (refP l o).2 ≠ 0) : findP l o b = ([], 0, (refP l o).2) := by unfold findP; rw [if_neg h]
theorem climb_ref {l : List Int} {o : Int} (h : (refP l o).2 = 0) : (climbP (refP l o).1).2 = 0 := by
  obtain ⟨h1, h2, h3, h4⟩ := refP_len h
  rw [climbP_ok (okClimb_true.2 ⟨by omega, by omega, allKB_true.2 fun k hk => kB_true.2 (h4 k hk)⟩)]

set_option maxHeartbeats 1000000 in
theorem find_any (l : List Int) (n : Nat) (hn : n = l.length) (hn1 : n ≤ 9223372036854775807) (o b : Int) (A : Option Addr) (c : Nat) (w : World) (ha : Ints .i64 w w.heap.size A l) :
    Calls Try.prog 26 #[.slice A n c, .int .i64 o, .int .i64 b] w (Ints3Q (findP l o b) w) := by
  have hll := @refP_small l o
  have Hn := Lib.hid hn
  clear hn
  by_cases h : (refP l o).2 = 0
  · have hr := Lib.hid (findP_yes (b := b) h)
    have h1 : ((refP l o).2 != 0) = false := by simp [h]
    have h2 : ((climbP (refP l o).1).2 != 0) = false := by simp [climb_ref h]
    have hcl := @climbP_len (refP l o).1
    clear h
    go_enter Try.func26, Try.ntmps26
    go_wp2_with fail
    (with_reducible refine (reflectL_any l _ Hn.out hn1 _ _ _ _ ha).mono ?_); rintro e w2 ⟨R2, r2, rfl, hr2, b2⟩
    go_wp2_with fail
    (with_reducible refine (climbL_any (refP l o).1 _ rfl (by omega) _ _ _ (OwnZ.ints hr2)).mono ?_); rintro e w3 ⟨R3, r3, rfl, hr3, b3⟩
    have B3 := bth b2 b3
    go_wp2_with fail
    (with_reducible refine (roundL_any (climbP (refP l o).1).1 _ rfl (by omega) _ _ _ _ (OwnZ.ints hr3)).mono ?_); rintro e w4 ⟨R4, r4, rfl, hr4, b4⟩
    go_wp2_with fail
    go_ret3
    rw [hr.out]
    exact ints3_of (hr4.base B3.size) (bth B3 b4)
  · have hr := Lib.hid (findP_no (b := b) h)
    have h1 : ((refP l o).2 != 0) = true := by simp [h]
    clear h
    go_enter Try.func26, Try.ntmps26
    go_wp2_with fail
    (with_reducible refine (reflectL_any l _ Hn.out hn1 _ _ _ _ ha).mono ?_); rintro e w2 ⟨R2, r2, rfl, hr2, b2⟩
    go_wp2_with fail
    go_ret3
    rw [hr.out]
    exact ints3_none b2

set_option maxHeartbeats 1000000 in
theorem finds_any (l : List Int) (hm : l.length ≤ 9223372036854775807) (A : Option Addr) (c : Nat) (o b : Int) (w : World) (ha : Ints .i64 w w.heap.size A l) (_f1 : Fit .i64 l) (_f2 : (Lit.int .i64 o).wf = true) (_f3 : (Lit.int .i64 b).wf = true) :
    Calls Try.prog 10 #[.slice A l.length c, .int .i64 o, .int .i64 b] w fun e w' => e = .returned (.bool true) ∧ Below w.heap.size w w' := by
  by_cases q1 : 200 < l.length ∧ l.length ≤ 4096
  · have hI : (200 : Int) < (l.length : Int) := by omega
    have hI2 : (l.length : Int) ≤ 4096 := by omega
    clear q1
    go_enter Try.func10, Try.ntmps10
    go_wp2_with fail
    (with_reducible refine (known_any _).mono ?_); rintro e w1 ⟨rfl, b1⟩
    go_wp2_with fail
    go_ret
    exact ⟨rfl, b1⟩
  have hll := @refP_small l o
  by_cases h : (refP l o).2 = 0
  · have hr := Lib.hid (findP_yes (b := b) h)
    have h1 : ((refP l o).2 != 0) = false := by simp [h]
    have h2 : ((climbP (refP l o).1).2 != 0) = false := by simp [climb_ref h]
    have hcl := @climbP_len (refP l o).1
    have hrl := @roundP_len (climbP (refP l o).1).1 b
    have hlen : (((refP l o).1.length : Int) != o) = false := by have := (refP_len h).2.2.1; simp; omega
    have s1 : eqI (roundP (climbP (refP l o).1).1 b).1 (roundP (climbP (refP l o).1).1 b).1 = true := eqI_refl _
    clear h
    by_cases q2 : 200 < l.length
    · have hI : (200 : Int) < (l.length : Int) := by omega
      have hI2 : (4096 : Int) < (l.length : Int) := by omega
      clear q1 q2
      go_enter Try.func10, Try.ntmps10
      go_wp2_with fail
      (with_reducible refine (known_any _).mono ?_); rintro e w1 ⟨rfl, b1⟩
      go_wp2_with fail
      (with_reducible refine (find_any l _ rfl hm _ _ _ _ _ ((ha.below b1).more b1.size)).mono ?_); rintro e w2 ⟨R2, r2, rfl, hr2, b2⟩
      have B2 := bth b1 b2
      rw [hr.out] at hr2 ⊢
      go_wp2_with fail
      (with_reducible refine (reflectL_any l _ rfl hm _ _ _ _ ((ha.below B2).more B2.size)).mono ?_); rintro e w3 ⟨R3, r3, rfl, hr3, b3⟩
      have B3 := bth B2 b3
      go_wp2_with fail
      (with_reducible refine (climbL_any (refP l o).1 _ rfl (by omega) _ _ _ (OwnZ.ints hr3)).mono ?_); rintro e w4 ⟨R4, r4, rfl, hr4, b4⟩
      have B4 := bth B3 b4
      go_wp2_with fail
      (with_reducible refine (roundL_any (climbP (refP l o).1).1 _ rfl (by omega) _ _ _ _ (OwnZ.ints hr4)).mono ?_); rintro e w5 ⟨R5, r5, rfl, hr5, b5⟩
      have B5 := bth B4 b5
      have z2 := (OwnZ.ints hr2).below (bth b3 (bth b4 b5))
      have z5 := OwnZ.ints hr5
      have y2 := (bth b3 (bth b4 b5)).size
      clear hr2 hr3 hr4 hr5 b1 b2 b3 b4 b5 B2 B3 B4
      go_wp2_with fail
      (with_reducible refine (same_q (roundP (climbP (refP l o).1).1 b).1 (roundP (climbP (refP l o).1).1 b).1 _ _ rfl rfl (by omega) (by omega) _ _ _ _ _ _ _ z2 z5).mono ?_); rintro e w6 ⟨rfl, b6⟩
      rw [s1]
      have B6 := bth B5 b6
      have z6 := (z2.more y2).below b6
      by_cases hf : (roundP (climbP (refP l o).1).1 b).2.2 = 0
      · have hfb : ((roundP (climbP (refP l o).1).1 b).2.2 != 0) = false := by simp [hf]
        have hmay := Lib.hid (round_may hf)
        clear hf
        go_wp2_with fail
        (with_reducible refine (mayL_any (roundP (climbP (refP l o).1).1 b).1 _ rfl (by omega) _ _ _ _ _ z6).mono ?_); rintro e w' ⟨rfl, rfl⟩
        rw [hmay.out]
        go_wp2_with fail
        go_ret
        exact ⟨rfl, B6⟩
      · have hfb : ((roundP (climbP (refP l o).1).1 b).2.2 != 0) = true := by simp [hf]
        clear hf
        go_wp2_with fail
        go_ret
        exact ⟨rfl, B6⟩
    · have hI : (l.length : Int) ≤ 200 := by omega
      clear q1 q2
      go_enter Try.func10, Try.ntmps10
      go_wp2_with fail
      (with_reducible refine (known_any _).mono ?_); rintro e w1 ⟨rfl, b1⟩
      go_wp2_with fail
      (with_reducible refine (find_any l _ rfl hm _ _ _ _ _ ((ha.below b1).more b1.size)).mono ?_); rintro e w2 ⟨R2, r2, rfl, hr2, b2⟩
      have B2 := bth b1 b2
      rw [hr.out] at hr2 ⊢
      go_wp2_with fail
      (with_reducible refine (reflectL_any l _ rfl hm _ _ _ _ ((ha.below B2).more B2.size)).mono ?_); rintro e w3 ⟨R3, r3, rfl, hr3, b3⟩
      have B3 := bth B2 b3
      go_wp2_with fail
      (with_reducible refine (climbL_any (refP l o).1 _ rfl (by omega) _ _ _ (OwnZ.ints hr3)).mono ?_); rintro e w4 ⟨R4, r4, rfl, hr4, b4⟩
      have B4 := bth B3 b4
      go_wp2_with fail
      (with_reducible refine (roundL_any (climbP (refP l o).1).1 _ rfl (by omega) _ _ _ _ (OwnZ.ints hr4)).mono ?_); rintro e w5 ⟨R5, r5, rfl, hr5, b5⟩
      have B5 := bth B4 b5
      have z2 := (OwnZ.ints hr2).below (bth b3 (bth b4 b5))
      have z5 := OwnZ.ints hr5
      have y2 := (bth b3 (bth b4 b5)).size
      clear hr2 hr3 hr4 hr5 b1 b2 b3 b4 b5 B2 B3 B4
      go_wp2_with fail
      (with_reducible refine (same_q (roundP (climbP (refP l o).1).1 b).1 (roundP (climbP (refP l o).1).1 b).1 _ _ rfl rfl (by omega) (by omega) _ _ _ _ _ _ _ z2 z5).mono ?_); rintro e w6 ⟨rfl, b6⟩
      rw [s1]
      have B6 := bth B5 b6
      have z6 := (z2.more y2).below b6
      by_cases hf : (roundP (climbP (refP l o).1).1 b).2.2 = 0
      · have hfb : ((roundP (climbP (refP l o).1).1 b).2.2 != 0) = false := by simp [hf]
        have hmay := Lib.hid (round_may hf)
        clear hf
        go_wp2_with fail
        (with_reducible refine (mayL_any (roundP (climbP (refP l o).1).1 b).1 _ rfl (by omega) _ _ _ _ _ z6).mono ?_); rintro e w' ⟨rfl, rfl⟩
        rw [hmay.out]
        go_wp2_with fail
        go_ret
        exact ⟨rfl, B6⟩
      · have hfb : ((roundP (climbP (refP l o).1).1 b).2.2 != 0) = true := by simp [hf]
        clear hf
        go_wp2_with fail
        go_ret
        exact ⟨rfl, B6⟩
  · have hr := Lib.hid (findP_no (b := b) h)
    have h1 : ((refP l o).2 != 0) = true := by simp [h]
    clear h
    by_cases q2 : 200 < l.length
    · have hI : (200 : Int) < (l.length : Int) := by omega
      have hI2 : (4096 : Int) < (l.length : Int) := by omega
      clear q1 q2
      go_enter Try.func10, Try.ntmps10
      go_wp2_with fail
      (with_reducible refine (known_any _).mono ?_); rintro e w1 ⟨rfl, b1⟩
      go_wp2_with fail
      (with_reducible refine (find_any l _ rfl hm _ _ _ _ _ ((ha.below b1).more b1.size)).mono ?_); rintro e w2 ⟨R2, r2, rfl, hr2, b2⟩
      have B2 := bth b1 b2
      rw [hr.out] at hr2 ⊢
      go_wp2_with fail
      (with_reducible refine (reflectL_any l _ rfl hm _ _ _ _ ((ha.below B2).more B2.size)).mono ?_); rintro e w3 ⟨R3, r3, rfl, hr3, b3⟩
      have B3 := bth B2 b3
      go_wp2_with fail
      go_ret
      exact ⟨by simp, B3⟩
    · have hI : (l.length : Int) ≤ 200 := by omega
      clear q1 q2
      go_enter Try.func10, Try.ntmps10
      go_wp2_with fail
      (with_reducible refine (known_any _).mono ?_); rintro e w1 ⟨rfl, b1⟩
      go_wp2_with fail
      (with_reducible refine (find_any l _ rfl hm _ _ _ _ _ ((ha.below b1).more b1.size)).mono ?_); rintro e w2 ⟨R2, r2, rfl, hr2, b2⟩
      have B2 := bth b1 b2
      rw [hr.out] at hr2 ⊢
      go_wp2_with fail
      (with_reducible refine (reflectL_any l _ rfl hm _ _ _ _ ((ha.below B2).more B2.size)).mono ?_); rintro e w3 ⟨R3, r3, rfl, hr3, b3⟩
      have B3 := bth B2 b3
      go_wp2_with fail
      go_ret
      exact ⟨by simp, B3⟩
end Go.Proofs.Ytmbebcgicddbnaa
