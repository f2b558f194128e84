/-
  The walk of LiftBests.
-/
import Derived.Test.YtjdoagkbcooonaaProg
import Derived.Test.YtjdoagkbcooonaaTBr
namespace Go.Proofs.Ytjdoagkbcooonaa
open Go.RowKit

set_option maxHeartbeats 4000000 in
theorem bests_any (bits_ : Int) (A : Option Addr) (c r : Nat) (RA : Nat → Option Addr) (RC : Nat → Nat) (R : Nat → List Int) (hrc : r ≤ c) (hc63 : c ≤ 9223372036854775807) (w : World) (h : Rw w w.heap.size A r RA RC R) :
    Calls Try.prog 9 #[.agg #[.int .i64 bits_, .slice A r c]] w fun e w' => e = .returned (.bool true) ∧ Below w.heap.size w w' := by
  have hc0 : (w.alloc (.cells #[.int .i64 bits_, .slice A r c] 45)).cell? ⟨w.heap.size, 0, none⟩ = some (.int .i64 bits_) := (cell_of_row _ _ _ _ _ _ (heap_alloc_new w _)).trans rfl
  have hc1 : (w.alloc (.cells #[.int .i64 bits_, .slice A r c] 45)).cell? ⟨w.heap.size, 1, none⟩ = some (.slice A r c) := (cell_of_row _ _ _ _ _ _ (heap_alloc_new w _)).trans rfl
  have HC0 := Lib.hid hc0
  have HC1 := Lib.hid hc1
  have B1 := bal (brefl w) (.cells #[.int .i64 bits_, .slice A r c] 45)
  clear hc0 hc1
  go_enter Try.func9, Try.ntmps9
  go_wp2_with fail
  obtain ⟨w1, hw1⟩ : ∃ w1, w1 = w.alloc (.cells #[.int .i64 bits_, .slice A r c] 45) := ⟨_, rfl⟩
  rw [← hw1] at B1 HC0 HC1 ⊢
  clear hw1
  (with_reducible refine (known_any _).mono ?_); rintro e w2 ⟨rfl, b2⟩
  have c0 := later b2 HC0.out
  have c1 := later b2 HC1.out
  have B2 := bth B1 b2
  go_wp2_with fail
  (with_reducible refine (small9_any R r (by omega) RA RC _ _ _ _ _ ((h.below B2).more B2.size)).mono ?_); rintro e w3 ⟨rfl, b3⟩
  have B3 := bth B2 b3
  have b13 := bth b2 b3
  clear c0 c1 b2 b3 B2
  cases hsm : smallB R r 120 with
  | false =>
    go_wp2_with fail
    go_ret
    exact ⟨rfl, B3⟩
  | true =>
    obtain ⟨h12, hlen⟩ := smallB_true.1 hsm
    have HR : Hid (∀ i, i < r → (R i).length ≤ 100000) := fun i hi => by have := hlen i hi; omega
    clear hsm hlen
    have c0 := later b13 HC0.out
    have c1 := later b13 HC1.out
    have h3 := (h.below B3).more B3.size
    obtain ⟨ns, hns⟩ : ∃ ns, ns = bestL bits_ R r := ⟨_, rfl⟩
    have hnl : ns.length ≤ 100 := by
      rw [hns]; unfold bestL
      split
      · have := bestUp_len R (r / 2); omega
      · simp
    have Hns := Lib.hid hns
    clear hns
    go_wp2_with fail
    go_region_held3 (fun w' => w'.cell? ⟨w.heap.size, 0, none⟩ = some (.int .i64 bits_) ∧ w'.cell? ⟨w.heap.size, 1, none⟩ = some (.slice A r c)) (first | (go_keep; done) | exact ⟨later b4 c0, later b4 c1⟩ | exact ⟨later (bth b4 b5) c0, later (bth b4 b5) c1⟩ | exact ⟨later (bth (bth b4 b5) b6) c0, later (bth (bth b4 b5) b6) c1⟩)
      (first | (go_at_call 28; (with_reducible refine (bestL_any R r (by omega) HR.out RA RC _ _ hrc hc63 _ _ (by first | exact h3 | exact (h3.below (brefl w3).drew).more (brefl w3).drew.size)).mono ?_); rintro e w4 ⟨A4, k4, rfl, hl4, b4'⟩; rw [← Hns.out] at hl4 ⊢; have b4 : Below w3.heap.size w3 w4 := ⟨b4'.os, b4'.tape, b4'.output, b4'.size, b4'.block⟩; have h4 := (h3.below b4).more b4.size) | (go_at_call 29; (with_reducible refine (bestR_any R r (by omega) HR.out RA RC _ _ hrc hc63 _ _ (by first | exact h4 | exact (h4.below (brefl w4).drew).more (brefl w4).drew.size)).mono ?_); rintro e w5 ⟨A5, k5, rfl, hl5, b5'⟩; rw [← Hns.out] at hl5 ⊢; have b5 : Below w4.heap.size w4 w5 := ⟨b5'.os, b5'.tape, b5'.output, b5'.size, b5'.block⟩; have hl4' := hl4.below b5) | (go_at_call 23; (with_reducible refine (sameLifts_any ns _ rfl (by omega) _ _ _ _ _ _ _ (by first | exact hl4' | exact hl4'.below (Below.refl _ _).drew) (by first | exact hl5 | exact hl5.below (Below.refl _ _).drew)).mono ?_); rintro e w6 ⟨rfl, b6'⟩; have b6 : Below w5.heap.size w5 w6 := ⟨b6'.os, b6'.tape, b6'.output, b6'.size, b6'.block⟩))
    have BB := bth B3 (bth (bth b4 b5) b6)
    go_wp2_with fail
    go_ret
    exact ⟨rfl, BB⟩
end Go.Proofs.Ytjdoagkbcooonaa
