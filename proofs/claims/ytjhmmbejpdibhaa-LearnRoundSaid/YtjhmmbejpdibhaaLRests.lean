/-
  LearnRests: the walk of the law.
-/
import Derived.Test.YtjhmmbejpdibhaaProg
import Derived.Test.YtjhmmbejpdibhaaLI
import Derived.Test.YtjhmmbejpdibhaaOS
namespace Go.Proofs.Ytjhmmbejpdibhaa
open Go.RowKit

theorem Stgs.more {w : World} {B B2 : Nat} {A : Option Addr} {ss : List (Int × Int)} (h : Stgs w B A ss) (hB : B ≤ B2) : Stgs w B2 A ss := fun h0 => by
  obtain ⟨b, off, e, hb0, hc⟩ := h h0
  exact ⟨b, off, e, by omega, hc⟩
theorem lrestP_len {l : List Int} {ss : List (Int × Int)} : (lrestP l ss).1.length ≤ l.length := by
  have hto : ∀ (ss : List (Int × Int)) (l y : List Int), lrestTo l ss = some y → y.length = l.length := by
    intro ss
    induction ss with
    | nil => intro l y h; simp [lrestTo] at h; rw [h]
    | cons s ss ih =>
      intro l y h
      rw [lrestTo_cons] at h
      split at h
      · rw [ih _ _ h, stRes_len]
      · cases h
  unfold lrestP
  split
  · simp
  · split
    · simp
    · split
      · simp
      · rename_i y h
        exact Nat.le_of_eq (hto _ _ _ h)

set_option maxHeartbeats 1000000 in
theorem lrests_any (l : List Int) (hm : l.length ≤ 9223372036854775807) (A : Option Addr) (c : Nat) (ss : List (Int × Int)) (hm2 : ss.length ≤ 9223372036854775807) (A2 : Option Addr) (c2 : Nat) (_hc : ss.length ≤ c2) (w : World)
    (ha : Ints .i64 w w.heap.size A l) (_f1 : Fit .i64 l) (hb : Stgs w w.heap.size A2 ss) (_f2 : True) :
    Calls Try.prog 5 #[.slice A l.length c, .slice A2 ss.length c2] w fun e w' => e = .returned (.bool true) ∧ Below w.heap.size w w' := by
  by_cases q1 : 150 < l.length
  · have hI : (150 : Int) < (l.length : Int) := by omega
    go_enter Try.func5, Try.ntmps5
    go_wp2_with fail
    (with_reducible refine (known_any _).mono ?_); rintro e w1 ⟨rfl, b1⟩
    go_wp2_with fail
    go_ret
    exact ⟨rfl, b1⟩
  have q1I : (l.length : Int) ≤ 150 := by omega
  by_cases q2 : 6 < ss.length
  · have hI : (6 : Int) < (ss.length : Int) := by omega
    go_enter Try.func5, Try.ntmps5
    go_wp2_with fail
    (with_reducible refine (known_any _).mono ?_); rintro e w1 ⟨rfl, b1⟩
    go_wp2_with fail
    go_ret
    exact ⟨rfl, b1⟩
  have q2I : (ss.length : Int) ≤ 6 := by omega
  clear q1 q2
  have hll := @lrestP_len l ss
  have s1 : eqI (lrestP l ss).1 (lrestP l ss).1 = true := eqI_refl _
  have s2 : (mayB ss == mayB ss) = true := by simp
  go_enter Try.func5, Try.ntmps5
  go_wp2_with fail
  (with_reducible refine (known_any _).mono ?_); rintro e w1 ⟨rfl, b1⟩
  go_wp2_with fail
  (with_reducible refine (lrestL_any l ss (by omega) (by omega) _ _ _ _ _ ((ha.below b1).more b1.size) ((hb.below b1).more b1.size)).mono ?_); rintro e w2 ⟨R2, r2, rfl, hr2, b2⟩
  have B2 := bth b1 b2
  go_wp2_with fail
  (with_reducible refine (lrestR_any l ss (by omega) (by omega) _ _ _ _ _ ((ha.below B2).more B2.size) ((hb.below B2).more B2.size)).mono ?_); rintro e w3 ⟨R3, r3, rfl, hr3, b3⟩
  have B3 := bth B2 b3
  go_wp2_with fail
  (with_reducible refine (mayL_any ss _ rfl (by omega) _ _ _ ((hb.below B3).more B3.size)).mono ?_); rintro e w4 ⟨rfl, b4⟩
  have B4 := bth B3 b4
  go_wp2_with fail
  (with_reducible refine (mayR_any ss _ rfl (by omega) _ _ _ ((hb.below B4).more B4.size)).mono ?_); rintro e w5 ⟨rfl, b5⟩
  have B5 := bth B4 b5
  have z2 := (own_ints hr2).below (bth b3 (bth b4 b5))
  have z3 := (own_ints hr3).below (bth b4 b5)
  go_wp2_with fail
  (with_reducible refine (same_q (lrestP l ss).1 (lrestP l ss).1 _ _ rfl rfl (by omega) (by omega) _ _ _ _ _ _ _ z2 z3).mono ?_); rintro e w6 ⟨rfl, b6⟩
  rw [s1]
  go_wp2_with fail
  go_ret
  exact ⟨rfl, bth B5 b6⟩
end Go.Proofs.Ytjhmmbejpdibhaa
