/-
  LearnBacks, LearnRound: the walks of the laws.
-/
import Derived.Test.YtjhmmbejpdibhaaProg
import Derived.Test.YtjhmmbejpdibhaaLS
import Derived.Test.YtjhmmbejpdibhaaLT
import Derived.Test.YtjhmmbejpdibhaaOS
namespace Go.Proofs.Ytjhmmbejpdibhaa
open Go.RowKit

set_option maxHeartbeats 1000000 in
theorem lbacks_any (l : List Int) (hm : l.length ≤ 9223372036854775807) (A : Option Addr) (c : Nat) (ss : List (Int × Int)) (hm2 : ss.length ≤ 9223372036854775807) (A2 : Option Addr) (c2 : Nat) (_hc : ss.length ≤ c2) (w : World)
    (ha : Ints .i64 w w.heap.size A l) (_f1 : Fit .i64 l) (hb : Stgs w w.heap.size A2 ss) (_f2 : True) :
    Calls Try.prog 9 #[.slice A l.length c, .slice A2 ss.length c2] w fun e w' => e = .returned (.bool true) ∧ Below w.heap.size w w' := by
  by_cases q0 : 150 < l.length
  · have hI : (150 : Int) < (l.length : Int) := by omega
    go_enter Try.func9, Try.ntmps9
    go_wp2_with fail
    (with_reducible refine (known_any _).mono ?_); rintro e w1 ⟨rfl, b1⟩
    go_wp2_with fail
    go_ret
    exact ⟨rfl, b1⟩
  have q0I : (l.length : Int) ≤ 150 := by omega
  by_cases q1 : 6 < ss.length
  · have hI : (6 : Int) < (ss.length : Int) := by omega
    go_enter Try.func9, Try.ntmps9
    go_wp2_with fail
    (with_reducible refine (known_any _).mono ?_); rintro e w1 ⟨rfl, b1⟩
    go_wp2_with fail
    go_ret
    exact ⟨rfl, b1⟩
  have q1I : (ss.length : Int) ≤ 6 := by omega
  clear q0 q1
  have hll := @lbackP_len l ss
  have s1 : eqI (lbackP l ss).1 (lbackP l ss).1 = true := eqI_refl _
  go_enter Try.func9, Try.ntmps9
  go_wp2_with fail
  (with_reducible refine (known_any _).mono ?_); rintro e w1 ⟨rfl, b1⟩
  go_wp2_with fail
  (with_reducible refine (lbackL_any l ss (by omega) (by omega) _ _ _ _ _ ((ha.below b1).more b1.size) ((hb.below b1).more b1.size)).mono ?_); rintro e w2 ⟨R2, r2, rfl, hr2, b2⟩
  have B2 := bth b1 b2
  go_wp2_with fail
  (with_reducible refine (lbackR_any l ss (by omega) (by omega) _ _ _ _ _ ((ha.below B2).more B2.size) ((hb.below B2).more B2.size)).mono ?_); rintro e w3 ⟨R3, r3, rfl, hr3, b3⟩
  have B3 := bth B2 b3
  have z2 := (own_ints hr2).below b3
  have z3 := own_ints hr3
  go_wp2_with fail
  (with_reducible refine (same_q (lbackP l ss).1 (lbackP l ss).1 _ _ rfl rfl (by omega) (by omega) _ _ _ _ _ _ _ z2 z3).mono ?_); rintro e w4 ⟨rfl, b4⟩
  rw [s1]
  go_wp2_with fail
  go_ret
  exact ⟨rfl, bth B3 b4⟩

set_option maxHeartbeats 2000000 in
theorem lround_any (l : List Int) (hm : l.length ≤ 9223372036854775807) (A : Option Addr) (c : Nat) (rest : List Int) (hm2 : rest.length ≤ 9223372036854775807) (A2 : Option Addr) (c2 : Nat) (ss : List (Int × Int)) (hm3 : ss.length ≤ 9223372036854775807) (A3 : Option Addr) (c3 : Nat) (_hc : ss.length ≤ c3) (w : World)
    (ha : Ints .i64 w w.heap.size A l) (_f1 : Fit .i64 l) (hb : Ints .i64 w w.heap.size A2 rest) (_f2 : Fit .i64 rest) (hc : Stgs w w.heap.size A3 ss) (_f3 : True) :
    Calls Try.prog 10 #[.slice A l.length c, .slice A2 rest.length c2, .slice A3 ss.length c3] w fun e w' => e = .returned (.bool true) ∧ Below w.heap.size w w' := by
  by_cases q0 : 150 < l.length
  · have hI : (150 : Int) < (l.length : Int) := by omega
    go_enter Try.func10, Try.ntmps10
    go_wp2_with fail
    (with_reducible refine (known_any _).mono ?_); rintro e w1 ⟨rfl, b1⟩
    go_wp2_with fail
    go_ret
    exact ⟨rfl, b1⟩
  have q0I : (l.length : Int) ≤ 150 := by omega
  by_cases q1 : 150 < rest.length
  · have hI : (150 : Int) < (rest.length : Int) := by omega
    go_enter Try.func10, Try.ntmps10
    go_wp2_with fail
    (with_reducible refine (known_any _).mono ?_); rintro e w1 ⟨rfl, b1⟩
    go_wp2_with fail
    go_ret
    exact ⟨rfl, b1⟩
  have q1I : (rest.length : Int) ≤ 150 := by omega
  by_cases q2 : 6 < ss.length
  · have hI : (6 : Int) < (ss.length : Int) := by omega
    go_enter Try.func10, Try.ntmps10
    go_wp2_with fail
    (with_reducible refine (known_any _).mono ?_); rintro e w1 ⟨rfl, b1⟩
    go_wp2_with fail
    go_ret
    exact ⟨rfl, b1⟩
  have q2I : (ss.length : Int) ≤ 6 := by omega
  clear q0 q1 q2
  have hll := @lrestP_len l ss
  by_cases hr : (lrestP l ss).2 = 0
  · have hre : ((lrestP l ss).2 == 0) = true := by simp [hr]
    have Hrb := Lib.hid (round_rest hr)
    have s1 : eqI l l = true := eqI_refl _
    clear hr
    go_enter Try.func10, Try.ntmps10
    go_wp2_with fail
    (with_reducible refine (known_any _).mono ?_); rintro e w1 ⟨rfl, b1⟩
    go_wp2_with fail
    (with_reducible refine (lrestL_any l ss (by omega) (by omega) _ _ _ _ _ ((ha.below b1).more b1.size) ((hc.below b1).more b1.size)).mono ?_); rintro e w2 ⟨R2, r2, rfl, hr2, b2⟩
    have B2 := bth b1 b2
    go_wp2_with fail
    (with_reducible refine (lbackL_any (lrestP l ss).1 ss (by omega) (by omega) _ _ _ _ _ (own_ints hr2) ((hc.below B2).more B2.size)).mono ?_); rintro e w3 ⟨R3, r3, rfl, hr3, b3⟩
    rw [Hrb.out] at hr3 ⊢
    have B3 := bth B2 b3
    go_wp2_with fail
    (with_reducible refine (same_q l l _ _ rfl rfl (by omega) (by omega) _ _ _ _ _ _ _ ((ha.below B3).more B3.size) (own_ints hr3)).mono ?_); rintro e w4 ⟨rfl, b4⟩
    rw [s1]
    have B4 := bth B3 b4
    clear b1 b2 b3 b4 hr2 hr3 B2 B3
    go_wp2_with fail
    (with_reducible refine (lbackL_any rest ss (by omega) (by omega) _ _ _ _ _ ((hb.below B4).more B4.size) ((hc.below B4).more B4.size)).mono ?_); rintro e u1 ⟨P1, p1, rfl, ho1, v1⟩
    have U1 := bth B4 v1
    by_cases hg : (lbackP rest ss).2 = 0
    · have hgb : ((lbackP rest ss).2 != 0) = false := by simp [hg]
      have Hrb := Lib.hid (round_back hg)
      have s1 : eqI rest rest = true := eqI_refl _
      have hlm := @lbackP_len rest ss
      clear hg
      go_wp2_with fail
      (with_reducible refine (lrestL_any (lbackP rest ss).1 ss (by omega) (by omega) _ _ _ _ _ (own_ints ho1) ((hc.below U1).more U1.size)).mono ?_); rintro e u2 ⟨P2, p2, rfl, ho2, v2⟩
      rw [Hrb.out] at ho2 ⊢
      have U2 := bth U1 v2
      go_wp2_with fail
      (with_reducible refine (same_q rest rest _ _ rfl rfl (by omega) (by omega) _ _ _ _ _ _ _ (own_ints ho2) ((hb.below U2).more U2.size)).mono ?_); rintro e u3 ⟨rfl, v3⟩
      rw [s1]
      go_wp2_with fail
      go_ret
      exact ⟨rfl, bth U2 v3⟩
    · have hgb : ((lbackP rest ss).2 != 0) = true := by simp [hg]
      have he := Lib.hid (lback_nil hg)
      rw [he.out]
      clear hg
      go_wp2_with fail
      go_ret
      exact ⟨rfl, U1⟩
  · have hre : ((lrestP l ss).2 == 0) = false := by simp [hr]
    clear hr
    go_enter Try.func10, Try.ntmps10
    go_wp2_with fail
    (with_reducible refine (known_any _).mono ?_); rintro e w1 ⟨rfl, b1⟩
    go_wp2_with fail
    (with_reducible refine (lrestL_any l ss (by omega) (by omega) _ _ _ _ _ ((ha.below b1).more b1.size) ((hc.below b1).more b1.size)).mono ?_); rintro e w2 ⟨R2, r2, rfl, hr2, b2⟩
    have B2 := bth b1 b2
    go_wp2_with fail
    (with_reducible refine (lbackL_any rest ss (by omega) (by omega) _ _ _ _ _ ((hb.below B2).more B2.size) ((hc.below B2).more B2.size)).mono ?_); rintro e u1 ⟨P1, p1, rfl, ho1, v1⟩
    have U1 := bth B2 v1
    by_cases hg : (lbackP rest ss).2 = 0
    · have hgb : ((lbackP rest ss).2 != 0) = false := by simp [hg]
      have Hrb := Lib.hid (round_back hg)
      have s1 : eqI rest rest = true := eqI_refl _
      have hlm := @lbackP_len rest ss
      clear hg
      go_wp2_with fail
      (with_reducible refine (lrestL_any (lbackP rest ss).1 ss (by omega) (by omega) _ _ _ _ _ (own_ints ho1) ((hc.below U1).more U1.size)).mono ?_); rintro e u2 ⟨P2, p2, rfl, ho2, v2⟩
      rw [Hrb.out] at ho2 ⊢
      have U2 := bth U1 v2
      go_wp2_with fail
      (with_reducible refine (same_q rest rest _ _ rfl rfl (by omega) (by omega) _ _ _ _ _ _ _ (own_ints ho2) ((hb.below U2).more U2.size)).mono ?_); rintro e u3 ⟨rfl, v3⟩
      rw [s1]
      go_wp2_with fail
      go_ret
      exact ⟨rfl, bth U2 v3⟩
    · have hgb : ((lbackP rest ss).2 != 0) = true := by simp [hg]
      have he := Lib.hid (lback_nil hg)
      rw [he.out]
      clear hg
      go_wp2_with fail
      go_ret
      exact ⟨rfl, U1⟩
end Go.Proofs.Ytjhmmbejpdibhaa
