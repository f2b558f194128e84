/-
  BlockJoins: the walk of the law.
-/
import Derived.Test.YtfihbcpainlpcaaProg
import Derived.Test.YtfihbcpainlpcaaQO
import Derived.Test.YtfihbcpainlpcaaQD
import Derived.Test.YtfihbcpainlpcaaQJb
namespace Go.Proofs.Ytfihbcpainlpcaa
open Go.RowKit
set_option linter.unusedVariables false
set_option linter.unusedSimpArgs false

theorem joinB_ok {bits bits2 : Int} {R R2 : Nat → List Int} {r r2 : Nat} (hr : r ≤ 1000) (hR : ∀ i, i < r → (R i).length ≤ 5000) (hR2 : ∀ i, i < r2 → (R2 i).length ≤ 5000) : (joinB bits R r bits2 R2 r2).ok := by
  unfold joinB
  split
  · split
    · rename_i h1 h2
      split
      · refine ⟨hr, fun i hi => ?_⟩
        show (R i ++ R2 i).length ≤ 100000
        have a1 := hR i hi
        have a2 := hR2 i (by rw [← h2.2]; exact hi)
        rw [List.length_append]; omega
      · exact errB_ok _
    · exact errB_ok _
  · exact errB_ok _

set_option maxHeartbeats 2000000 in
theorem joins_any (bits : Int) (A : Option Addr) (c r : Nat) (RA : Nat → Option Addr) (RC : Nat → Nat) (R : Nat → List Int) (hrc : r ≤ c) (hc63 : c ≤ 9223372036854775807) (bits2 : Int) (A2 : Option Addr) (c2 r2 : Nat) (RA2 : Nat → Option Addr) (RC2 : Nat → Nat) (R2 : Nat → List Int) (hrc2 : r2 ≤ c2) (hc63b : c2 ≤ 9223372036854775807) (w : World) (h : Rw w w.heap.size A r RA RC R) (h2 : Rw w w.heap.size A2 r2 RA2 RC2 R2) :
    Calls Try.prog 8 #[.agg #[.int .i64 bits, .slice A r c], .agg #[.int .i64 bits2, .slice A2 r2 c2]] w fun e w' => e = .returned (.bool true) ∧ Below w.heap.size w w' := by
  go_enter Try.func8, Try.ntmps8
  go_wp2_with fail
  obtain ⟨w1, hw1⟩ : ∃ w1, w1 = (w.alloc (.cells #[.int .i64 bits, .slice A r c] 28)).alloc (.cells #[.int .i64 bits2, .slice A2 r2 c2] 28) := ⟨_, rfl⟩
  have B1 : Below w.heap.size w w1 := by rw [hw1]; exact bal (bal (brefl w) _) _
  have hz1 : w1.heap.size = w.heap.size + 2 := by rw [hw1]; simp
  have M0 : Hid (w1.heap[w.heap.size]? = some (.cells #[.int .i64 bits, .slice A r c] 28 (0, 0))) := by show _ = _; rw [hw1, Below.heap_alloc _ _ _ (by simp)]; exact heap_alloc_new w _
  have M1 : Hid (w1.heap[w.heap.size + 1]? = some (.cells #[.int .i64 bits2, .slice A2 r2 c2] 28 (0, 0))) := by
    show _ = _
    have := heap_alloc_new (w.alloc (.cells #[.int .i64 bits, .slice A r c] 28)) (.cells #[.int .i64 bits2, .slice A2 r2 c2] 28)
    rw [World.size_alloc] at this
    rw [hw1]; exact this
  rw [← hw1]
  clear hw1
  (with_reducible refine (known_any _).mono ?_); rintro e w2 ⟨rfl, b2⟩
  have B2 := bth B1 b2
  have Hb2 := Lib.hid b2
  obtain ⟨k0, k1, _, _⟩ := blk_cell ((b2.block _ (by omega)).trans M0.out)
  clear b2
  go_wp2_with fail
  (with_reducible refine (small9_any R r (by omega) RA RC _ _ _ _ _ ((h.below B2).more B2.size)).mono ?_); rintro e w3 ⟨rfl, b3⟩
  have B3 := bth B2 b3
  have Hb3 := Lib.hid (bth Hb2.out b3)
  clear b3 B2 Hb2 k0 k1
  cases hsm : smallB R r 4100 with
  | false =>
    go_wp2_with fail
    go_ret
    exact ⟨rfl, B3⟩
  | true =>
  obtain ⟨k2, k3, _, _⟩ := blk_cell ((Hb3.out.block (w.heap.size + 1) (by omega)).trans M1.out)
  go_wp2_with fail
  (with_reducible refine (small9_any R2 r2 (by omega) RA2 RC2 _ _ _ _ _ ((h2.below B3).more B3.size)).mono ?_); rintro e w3' ⟨rfl, b3⟩
  have B3' := bth B3 b3
  have Hb3' := Lib.hid (bth Hb3.out b3)
  clear b3 B3 Hb3 k2 k3
  obtain ⟨w3, rfl⟩ : ∃ w3, w3 = w3' := ⟨_, rfl⟩
  obtain ⟨B3, Hb3⟩ := (show Below w.heap.size w w3 ∧ Hid (Below w1.heap.size w1 w3) from ⟨B3', Hb3'⟩)
  clear B3' Hb3'
  cases hsm2 : smallB R2 r2 4100 with
  | false =>
    go_wp2_with fail
    go_ret
    exact ⟨rfl, B3⟩
  | true =>
    obtain ⟨h12, hlen⟩ := smallB_true.1 hsm
    obtain ⟨h12b, hlen2⟩ := smallB_true.1 hsm2
    have HR : Hid (∀ i, i < r → (R i).length ≤ 100000) := fun i hi => by have := hlen i hi; omega
    have HR2 : Hid (∀ i, i < r2 → (R2 i).length ≤ 100000) := fun i hi => by have := hlen2 i hi; omega
    obtain ⟨x, hx⟩ : ∃ x, x = joinB bits R r bits2 R2 r2 := ⟨_, rfl⟩
    have Hok : Hid x.ok := by show BR.ok _; rw [hx]; exact joinB_ok (by omega) (fun i hi => by have := hlen i hi; omega) (fun i hi => by have := hlen2 i hi; omega)
    have Hx := Lib.hid hx
    obtain ⟨k0, k1, _, _⟩ := blk_cell ((Hb3.out.block _ (by omega)).trans M0.out)
    obtain ⟨k2, k3, _, _⟩ := blk_cell ((Hb3.out.block (w.heap.size + 1) (by omega)).trans M1.out)
    clear hsm hlen hsm2 hlen2 hx
    go_wp2_with fail
    have t1 := joinL_any R R2 r r2 (by omega) (by omega) HR.out HR2.out RA RA2 RC RC2 A A2 c c2 bits bits2 w3 ((h.below B3).more B3.size) ((h2.below B3).more B3.size)
    rw [← Hx.out] at t1
    (with_reducible refine t1.mono ?_); rintro e w4 hq4
    obtain ⟨A4, c4, RA4, RC4, rfl, h4, b4⟩ := hq4.elim
    have B4 := bth B3 b4
    have Hb4 := Lib.hid (bth Hb3.out b4)
    obtain ⟨k0', k1', _, _⟩ := blk_cell ((Hb4.out.block _ (by omega)).trans M0.out)
    obtain ⟨k2', k3', _, _⟩ := blk_cell ((Hb4.out.block (w.heap.size + 1) (by omega)).trans M1.out)
    have ka0 : ∀ o, (w4.alloc o).cell? ⟨w.heap.size, 0, none⟩ = some (.int .i64 bits) := fun o => later (bal (brefl w4) o) k0'
    have ka1 : ∀ o, (w4.alloc o).cell? ⟨w.heap.size, 1, none⟩ = some (.slice A r c) := fun o => later (bal (brefl w4) o) k1'
    have ka2 : ∀ o, (w4.alloc o).cell? ⟨w.heap.size + 1, 0, none⟩ = some (.int .i64 bits2) := fun o => later (bal (brefl w4) o) k2'
    have ka3 : ∀ o, (w4.alloc o).cell? ⟨w.heap.size + 1, 1, none⟩ = some (.slice A2 r2 c2) := fun o => later (bal (brefl w4) o) k3'
    clear t1 hq4 b4 B3 Hb3 k0 k1 k2 k3 k0' k1' k2' k3'
    go_wp2_with fail
    obtain ⟨w5, hw5⟩ : ∃ w5, w5 = w4.alloc (.cells #[.int .i64 x.bits, .slice A4 x.r c4] 28) := ⟨_, rfl⟩
    have b5 : Below w4.heap.size w4 w5 := by rw [hw5]; exact bal (brefl w4) _
    have Mb : Hid (w5.heap[w4.heap.size]? = some (.cells #[.int .i64 x.bits, .slice A4 x.r c4] 28 (0, 0))) := by show _ = _; rw [hw5]; exact heap_alloc_new w4 _
    have hws5 : w4.heap.size < w5.heap.size := by rw [hw5]; simp
    rw [← hw5]
    have B5 := bth B4 b5
    have h5 := Lib.hid ((h4.below b5).more b5.size)
    clear hw5 b5 h4 B4 ka0 ka1 ka2 ka3
    have t1 := joinR_any R R2 r r2 (by omega) (by omega) HR.out HR2.out RA RA2 RC RC2 A A2 c c2 bits bits2 w5 ((h.below B5).more B5.size) ((h2.below B5).more B5.size)
    rw [← Hx.out] at t1
    (with_reducible refine t1.mono ?_); rintro e w6 hq6
    obtain ⟨A6, c6, RA6, RC6, rfl, h6, b6⟩ := hq6.elim
    have B6 := bth B5 b6
    have h56 := Lib.hid ((h5.out.below b6).more b6.size)
    have m6 := (b6.block _ hws5).trans Mb.out
    obtain ⟨c0, c1, _, _⟩ := blk_cell m6
    have ka0 : ∀ o, (w6.alloc o).cell? ⟨w4.heap.size, 0, none⟩ = some (.int .i64 x.bits) := fun o => later (bal (brefl w6) o) c0
    have ka1 : ∀ o, (w6.alloc o).cell? ⟨w4.heap.size, 1, none⟩ = some (.slice A4 x.r c4) := fun o => later (bal (brefl w6) o) c1
    clear t1 hq6 b6 B5 h5 c0 c1 m6
    go_wp2_with fail
    obtain ⟨w7, hw7⟩ : ∃ w7, w7 = w6.alloc (.cells #[.int .i64 x.bits, .slice A6 x.r c6] 28) := ⟨_, rfl⟩
    have b7 : Below w6.heap.size w6 w7 := by rw [hw7]; exact bal (brefl w6) _
    rw [← hw7]
    have B7 := bth B6 b7
    have h57 := (h56.out.below b7).more b7.size
    have h67 := (h6.below b7).more b7.size
    clear hw7 b7 B6 h6 h56 ka0 ka1
    obtain ⟨ok1, ok2⟩ := Hok.out
    (with_reducible refine (sameBlock_any x.bits x.R x.r ok1 ok2 RA4 RA6 RC4 RC6 A4 A6 _ _ c4 c6 _ (Nat.le_refl _) (Nat.le_refl _) h57 h67).mono ?_); rintro e w8 ⟨rfl, b8⟩
    have ec : (x.code == x.code) = true := by simp
    have B8 := bth B7 b8
    go_wp2_with fail
    go_ret
    exact ⟨rfl, B8⟩
end Go.Proofs.Ytfihbcpainlpcaa
