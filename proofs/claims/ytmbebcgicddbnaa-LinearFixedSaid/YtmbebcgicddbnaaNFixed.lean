/-
  LinearFixed: the walk of the law.
-/
import Derived.Test.YtmbebcgicddbnaaProg
import Derived.Test.YtmbebcgicddbnaaNK
import Derived.Test.YtmbebcgicddbnaaNF
import Derived.Test.YtmbebcgicddbnaaNFC
import Derived.Test.YtmbebcgicddbnaaNFP
namespace Go.Proofs.Ytmbebcgicddbnaa
open Go.RowKit

theorem fxL_any (l : List Int) (o : Nat) (ho : o ≤ 4) (hm : l.length ≤ 1000) (oI : Int) (hoI : oI = (o : Int)) (A : Option Addr) (c : Nat) (w : World) (ha : Ints .i64 w w.heap.size A l) :
    Calls Try.prog 23 #[.slice A l.length c, .int .i64 oI] w (PairQ w.heap.size (restP l oI) w) := by
  subst hoI
  by_cases h : o ≤ l.length
  · exact fxL_ok l o ho h (by omega) A c w ha
  · refine fxL_bad l o (by omega) ?_ A c w
    cases e : okOrder l (o : Int) with
    | false => rfl
    | true => have := okOrder_true.1 e; omega
theorem and255 (o : Int) : 0 ≤ bits .and .i64 o 255 ∧ bits .and .i64 o 255 ≤ 255 := by
  have h : ((BitVec.ofInt 64 o) &&& (BitVec.ofInt 64 255)).toNat ≤ 255 := by
    rw [BitVec.toNat_and]; exact Nat.le_trans Nat.and_le_right (by decide)
  have e : bits .and .i64 o 255 = IntKind.i64.wrap (((BitVec.ofInt 64 o) &&& (BitVec.ofInt 64 255)).toNat : Int) := rfl
  rw [e, IntWalk.i64_in _ (by omega)]
  omega

set_option maxHeartbeats 1000000 in
theorem lfixed_any (l : List Int) (hm : l.length ≤ 9223372036854775807) (A : Option Addr) (c : Nat) (hcap : l.length ≤ c) (o : Int) (w : World) (ha : Ints .i64 w w.heap.size A l) (_f1 : Fit .i64 l) (_f2 : (Lit.int .i64 o).wf = true) :
    Calls Try.prog 7 #[.slice A l.length c, .int .i64 o] w fun e w' => e = .returned (.bool true) ∧ Below w.heap.size w w' := by
  by_cases q1 : 200 < l.length
  · have hI : (200 : Int) < (l.length : Int) := by omega
    go_enter Try.func7, Try.ntmps7
    go_wp2_with fail
    (with_reducible refine (known_any _).mono ?_); rintro e w1 ⟨rfl, b1⟩
    go_wp2_with fail
    go_ret
    exact ⟨rfl, b1⟩
  have hI : (l.length : Int) ≤ 200 := by omega
  obtain ⟨m0, m1⟩ := and255 o
  clear q1
  have l1 := fun (w : World) (g : Nat) (hg : g = w.heap.size) => lit_more w [1] #[.int .i64 1] rfl g hg
  have l2 := fun (w : World) (g : Nat) (hg : g = w.heap.size) => lit_more w [2, -1] #[.int .i64 2, .int .i64 (-1)] rfl g hg
  have l3 := fun (w : World) (g : Nat) (hg : g = w.heap.size) => lit_more w [3, -3, 1] #[.int .i64 3, .int .i64 (-3), .int .i64 1] rfl g hg
  have l4 := fun (w : World) (g : Nat) (hg : g = w.heap.size) => lit_more w [4, -6, 4, -1] #[.int .i64 4, .int .i64 (-6), .int .i64 4, .int .i64 (-1)] rfl g hg
  have L1 := Lib.hid l1
  have L2 := Lib.hid l2
  have L3 := Lib.hid l3
  have L4 := Lib.hid l4
  clear l1 l2 l3 l4
  rcases (show bits .and .i64 o 255 % 4 = 0 ∨ bits .and .i64 o 255 % 4 = 1 ∨ bits .and .i64 o 255 % 4 = 2 ∨ bits .and .i64 o 255 % 4 = 3 by omega) with hk | hk | hk | hk
  · obtain ⟨hlf, hlc⟩ := lin_fixed l 1 (by omega) (by omega)
    have Hlf : Hid (lrestP l (pasc 1) 0 = restP l 1) := hlf
    have s1 : eqI (restP l 1).1 (restP l 1).1 = true := eqI_refl _
    have hrl := @restP_len l 1
    clear hlf hlc
    go_enter Try.func7, Try.ntmps7
    go_wp2_with fail
    (with_reducible refine (known_any _).mono ?_); rintro e w1 ⟨rfl, b1⟩
    go_wp2_with fail
    have H5 := bal (bal (bal (bal (bal b1 (.cells #[.int .i64 1] 3)) (.cells #[.int .i64 2, .int .i64 (-1)] 3)) (.cells #[.int .i64 3, .int .i64 (-3), .int .i64 1] 3)) (.cells #[.int .i64 4, .int .i64 (-6), .int .i64 4, .int .i64 (-1)] 3)) (.cells #[.slice (some ⟨w1.heap.size, 0, none⟩) 1 1, .slice (some ⟨w1.heap.size + 1, 0, none⟩) 2 2, .slice (some ⟨w1.heap.size + 1 + 1, 0, none⟩) 3 3, .slice (some ⟨w1.heap.size + 1 + 1 + 1, 0, none⟩) 4 4] 22)
    (with_reducible refine (restL_any l (pasc 1) _ 1 rfl rfl (by omega) (by omega) 0 _ _ _ 1 hcap _ ((ha.below H5).more H5.size) (lit_next (lit_next (lit_next (lit_next (L1.out w1 _ rfl) (Nat.le_refl _) _) (Nat.le_refl _) _) (Nat.le_refl _) _) (Nat.le_refl _) _)).mono ?_); rintro e w2 ⟨R2, r2, rfl, hr2, b2⟩
    rw [Hlf.out] at hr2 ⊢
    have B2 := bth H5 b2
    go_wp2_with fail
    (with_reducible refine (fxL_any l 1 (by omega) (by omega) 1 rfl _ _ _ ((ha.below B2).more B2.size)).mono ?_); rintro e w3 ⟨R3, r3, rfl, hr3, b3⟩
    have B3 := bth B2 b3
    go_wp2_with fail
    (with_reducible refine (same_q (restP l 1).1 (restP l 1).1 _ _ rfl rfl (by omega) (by omega) _ _ _ _ _ _ _ ((OwnZ.ints hr2).below b3) (own_ints hr3)).mono ?_); rintro e w4 ⟨rfl, b4⟩
    rw [s1]
    go_wp2_with fail
    go_ret
    exact ⟨rfl, bth B3 b4⟩
  · obtain ⟨hlf, hlc⟩ := lin_fixed l 2 (by omega) (by omega)
    have Hlf : Hid (lrestP l (pasc 2) 0 = restP l 2) := hlf
    have s1 : eqI (restP l 2).1 (restP l 2).1 = true := eqI_refl _
    have hrl := @restP_len l 2
    clear hlf hlc
    go_enter Try.func7, Try.ntmps7
    go_wp2_with fail
    (with_reducible refine (known_any _).mono ?_); rintro e w1 ⟨rfl, b1⟩
    go_wp2_with fail
    have H5 := bal (bal (bal (bal (bal b1 (.cells #[.int .i64 1] 3)) (.cells #[.int .i64 2, .int .i64 (-1)] 3)) (.cells #[.int .i64 3, .int .i64 (-3), .int .i64 1] 3)) (.cells #[.int .i64 4, .int .i64 (-6), .int .i64 4, .int .i64 (-1)] 3)) (.cells #[.slice (some ⟨w1.heap.size, 0, none⟩) 1 1, .slice (some ⟨w1.heap.size + 1, 0, none⟩) 2 2, .slice (some ⟨w1.heap.size + 1 + 1, 0, none⟩) 3 3, .slice (some ⟨w1.heap.size + 1 + 1 + 1, 0, none⟩) 4 4] 22)
    (with_reducible refine (restL_any l (pasc 2) _ 2 rfl rfl (by omega) (by omega) 0 _ _ _ 2 hcap _ ((ha.below H5).more H5.size) (lit_next (lit_next (lit_next (L2.out _ _ (by simp)) (Nat.le_refl _) _) (Nat.le_refl _) _) (Nat.le_refl _) _)).mono ?_); rintro e w2 ⟨R2, r2, rfl, hr2, b2⟩
    rw [Hlf.out] at hr2 ⊢
    have B2 := bth H5 b2
    go_wp2_with fail
    (with_reducible refine (fxL_any l 2 (by omega) (by omega) 2 rfl _ _ _ ((ha.below B2).more B2.size)).mono ?_); rintro e w3 ⟨R3, r3, rfl, hr3, b3⟩
    have B3 := bth B2 b3
    go_wp2_with fail
    (with_reducible refine (same_q (restP l 2).1 (restP l 2).1 _ _ rfl rfl (by omega) (by omega) _ _ _ _ _ _ _ ((OwnZ.ints hr2).below b3) (own_ints hr3)).mono ?_); rintro e w4 ⟨rfl, b4⟩
    rw [s1]
    go_wp2_with fail
    go_ret
    exact ⟨rfl, bth B3 b4⟩
  · obtain ⟨hlf, hlc⟩ := lin_fixed l 3 (by omega) (by omega)
    have Hlf : Hid (lrestP l (pasc 3) 0 = restP l 3) := hlf
    have s1 : eqI (restP l 3).1 (restP l 3).1 = true := eqI_refl _
    have hrl := @restP_len l 3
    clear hlf hlc
    go_enter Try.func7, Try.ntmps7
    go_wp2_with fail
    (with_reducible refine (known_any _).mono ?_); rintro e w1 ⟨rfl, b1⟩
    go_wp2_with fail
    have H5 := bal (bal (bal (bal (bal b1 (.cells #[.int .i64 1] 3)) (.cells #[.int .i64 2, .int .i64 (-1)] 3)) (.cells #[.int .i64 3, .int .i64 (-3), .int .i64 1] 3)) (.cells #[.int .i64 4, .int .i64 (-6), .int .i64 4, .int .i64 (-1)] 3)) (.cells #[.slice (some ⟨w1.heap.size, 0, none⟩) 1 1, .slice (some ⟨w1.heap.size + 1, 0, none⟩) 2 2, .slice (some ⟨w1.heap.size + 1 + 1, 0, none⟩) 3 3, .slice (some ⟨w1.heap.size + 1 + 1 + 1, 0, none⟩) 4 4] 22)
    (with_reducible refine (restL_any l (pasc 3) _ 3 rfl rfl (by omega) (by omega) 0 _ _ _ 3 hcap _ ((ha.below H5).more H5.size) (lit_next (lit_next (L3.out _ _ (by simp)) (Nat.le_refl _) _) (Nat.le_refl _) _)).mono ?_); rintro e w2 ⟨R2, r2, rfl, hr2, b2⟩
    rw [Hlf.out] at hr2 ⊢
    have B2 := bth H5 b2
    go_wp2_with fail
    (with_reducible refine (fxL_any l 3 (by omega) (by omega) 3 rfl _ _ _ ((ha.below B2).more B2.size)).mono ?_); rintro e w3 ⟨R3, r3, rfl, hr3, b3⟩
    have B3 := bth B2 b3
    go_wp2_with fail
    (with_reducible refine (same_q (restP l 3).1 (restP l 3).1 _ _ rfl rfl (by omega) (by omega) _ _ _ _ _ _ _ ((OwnZ.ints hr2).below b3) (own_ints hr3)).mono ?_); rintro e w4 ⟨rfl, b4⟩
    rw [s1]
    go_wp2_with fail
    go_ret
    exact ⟨rfl, bth B3 b4⟩
  · obtain ⟨hlf, hlc⟩ := lin_fixed l 4 (by omega) (by omega)
    have Hlf : Hid (lrestP l (pasc 4) 0 = restP l 4) := hlf
    have s1 : eqI (restP l 4).1 (restP l 4).1 = true := eqI_refl _
    have hrl := @restP_len l 4
    clear hlf hlc
    go_enter Try.func7, Try.ntmps7
    go_wp2_with fail
    (with_reducible refine (known_any _).mono ?_); rintro e w1 ⟨rfl, b1⟩
    go_wp2_with fail
    have H5 := bal (bal (bal (bal (bal b1 (.cells #[.int .i64 1] 3)) (.cells #[.int .i64 2, .int .i64 (-1)] 3)) (.cells #[.int .i64 3, .int .i64 (-3), .int .i64 1] 3)) (.cells #[.int .i64 4, .int .i64 (-6), .int .i64 4, .int .i64 (-1)] 3)) (.cells #[.slice (some ⟨w1.heap.size, 0, none⟩) 1 1, .slice (some ⟨w1.heap.size + 1, 0, none⟩) 2 2, .slice (some ⟨w1.heap.size + 1 + 1, 0, none⟩) 3 3, .slice (some ⟨w1.heap.size + 1 + 1 + 1, 0, none⟩) 4 4] 22)
    (with_reducible refine (restL_any l (pasc 4) _ 4 rfl rfl (by omega) (by omega) 0 _ _ _ 4 hcap _ ((ha.below H5).more H5.size) (lit_next (L4.out _ _ (by simp)) (Nat.le_refl _) _)).mono ?_); rintro e w2 ⟨R2, r2, rfl, hr2, b2⟩
    rw [Hlf.out] at hr2 ⊢
    have B2 := bth H5 b2
    go_wp2_with fail
    (with_reducible refine (fxL_any l 4 (by omega) (by omega) 4 rfl _ _ _ ((ha.below B2).more B2.size)).mono ?_); rintro e w3 ⟨R3, r3, rfl, hr3, b3⟩
    have B3 := bth B2 b3
    go_wp2_with fail
    (with_reducible refine (same_q (restP l 4).1 (restP l 4).1 _ _ rfl rfl (by omega) (by omega) _ _ _ _ _ _ _ ((OwnZ.ints hr2).below b3) (own_ints hr3)).mono ?_); rintro e w4 ⟨rfl, b4⟩
    rw [s1]
    go_wp2_with fail
    go_ret
    exact ⟨rfl, bth B3 b4⟩
end Go.Proofs.Ytmbebcgicddbnaa
