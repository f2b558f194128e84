/-
  The walk of LiftTells.
-/
import Derived.Test.YtjdoagkbcooonaaProg
import Derived.Test.YtjdoagkbcooonaaTK
import Derived.Test.YtjdoagkbcooonaaTWt
namespace Go.Proofs.Ytjdoagkbcooonaa
open Go.RowKit

set_option maxHeartbeats 2000000 in
theorem tells_any (ls : List Lft) (hm : ls.length ≤ 9223372036854775807) (B : Option Addr) (d : Nat) (ch mode : Int) (A : Option Addr) (c r : Nat) (RA : Nat → Option Addr) (RC : Nat → Nat) (R : Nat → List Int) (hr : r ≤ 9223372036854775807) (w : World) (hs : Lfts w w.heap.size B ls) (_f1 : (Lit.int .i64 ch).wf = true) (_f2 : (Lit.int .i64 mode).wf = true) (h : Rw w w.heap.size A r RA RC R) :
    Calls Try.prog 8 #[.slice B ls.length d, .int .i64 ch, .int .i64 mode, .slice A r c] w fun e w' => e = .returned (.bool true) ∧ Below w.heap.size w w' := by
  clear _f1 _f2
  go_enter Try.func8, Try.ntmps8
  go_wp2_with fail
  (with_reducible refine (known_any _).mono ?_); rintro e w1 ⟨rfl, b1⟩
  go_wp2_with fail
  (with_reducible refine (small_any R r hr RA RC _ _ _ _ _ hm _ _ ((h.below b1).more b1.size)).mono ?_); rintro e w2 ⟨rfl, b2⟩
  have B2 := bth b1 b2
  clear b1 b2
  cases hsm : (smallB R r 200 && decide (ls.length ≤ 20)) with
  | false =>
    go_wp2_with fail
    go_ret
    exact ⟨rfl, B2⟩
  | true =>
    have hsm' : smallB R r 200 = true ∧ ls.length ≤ 20 := by simpa using hsm
    obtain ⟨h12, hlen⟩ := smallB_true.1 hsm'.1
    have h20 := hsm'.2
    have HR : Hid (∀ i, i < r → (R i).length ≤ 100000) := fun i hi => by have := hlen i hi; omega
    clear hsm hsm' hlen
    obtain ⟨bb, hbb⟩ : ∃ bb, bb = liftB ls ch := ⟨_, rfl⟩
    have Hbb := Lib.hid hbb
    have e1 : (bb == bb) = true := by simp
    obtain ⟨wt, hwt⟩ : ∃ wt, wt = weightP R r := ⟨_, rfl⟩
    have Hwt := Lib.hid hwt
    have e2 : (wt == wt) = true := by simp
    obtain ⟨ns, hns⟩ : ∃ ns, ns = namedP mode := ⟨_, rfl⟩
    have Hns := Lib.hid hns
    have hnl : ns.length ≤ 3 := by rw [hns]; exact named_len mode
    clear hbb hwt hns
    go_wp2_with fail
    (with_reducible refine (mayL_any ls _ rfl hm ch _ _ _ ((hs.below B2).more B2.size)).mono ?_); rintro e w3 ⟨rfl, b3⟩
    rw [← Hbb.out]
    have B3 := bth B2 b3
    clear b3 B2
    go_wp2_with fail
    (with_reducible refine (mayR_any ls _ rfl hm ch _ _ _ ((hs.below B3).more B3.size)).mono ?_); rintro e w4 ⟨rfl, b4⟩
    rw [← Hbb.out]
    have B4 := bth B3 b4
    clear b4 B3
    go_wp2_with fail
    (with_reducible refine (namedL_any mode _).mono ?_); rintro e w5 ⟨A5, k5, rfl, hl5, b5⟩
    rw [← Hns.out] at hl5 ⊢
    have B5 := bth B4 b5
    clear b5 B4
    go_wp2_with fail
    (with_reducible refine (namedR_any mode _).mono ?_); rintro e w6 ⟨A6, k6, rfl, hl6, b6⟩
    rw [← Hns.out] at hl6 ⊢
    have B6 := bth B5 b6
    have hl5' := hl5.below b6
    clear b6 B5 hl5
    go_wp2_with fail
    (with_reducible refine (sameLifts_any ns _ rfl (by omega) _ _ _ _ _ _ _ hl5' hl6).mono ?_); rintro e w7 ⟨rfl, b7⟩
    have B7 := bth B6 b7
    clear b7 B6 hl5' hl6
    go_wp2_with fail
    (with_reducible refine (weightL_any R r (by omega) HR.out _ _ _ _ _ _ (h.below B7)).mono ?_); rintro e w8 ⟨rfl, b8⟩
    rw [← Hwt.out]
    have B8 := bth B7 b8
    clear b8 B7
    go_wp2_with fail
    (with_reducible refine (weightR_any R r (by omega) HR.out _ _ _ _ _ ((h.below B8).more B8.size)).mono ?_); rintro e w9 ⟨rfl, b9⟩
    rw [← Hwt.out]
    go_wp2_with fail
    go_ret
    exact ⟨rfl, bth B8 b9⟩
end Go.Proofs.Ytjdoagkbcooonaa
