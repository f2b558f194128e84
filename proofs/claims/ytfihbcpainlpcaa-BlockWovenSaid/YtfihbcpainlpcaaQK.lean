/-
  Pack of the program.
-/
import Derived.Test.YtfihbcpainlpcaaProg
import Derived.Test.YtfihbcpainlpcaaQW
namespace Go.Proofs.Ytfihbcpainlpcaa
open Go.RowKit
set_option linter.unusedVariables false
set_option linter.unusedSimpArgs false

theorem pack_no {bits : Int} {R : Nat → List Int} {r : Nat} (h : bmayB bits R r = false) : packB bits R r = ([], 1) := by simp [packB, h]
theorem bytesQ_of {x y : List Int × Int} {w w' : World} {e : Ending} (h : x = y) (k : BytesQ y w e w') : BytesQ x w e w' := by rw [h]; exact k

set_option maxHeartbeats 2000000 in
theorem packBL_any (R : Nat → List Int) (r : Nat) (hr1 : r ≤ 1000) (hR : ∀ i, i < r → (R i).length ≤ 100000) (hsz : (R 0).length * r ≤ 20000) (RA : Nat → Option Addr) (RC : Nat → Nat) (A : Option Addr) (c : Nat) (bits : Int) (w : World) (h : Rw w w.heap.size A r RA RC R) :
    Calls Try.prog 25 #[.agg #[.int .i64 bits, .slice A r c]] w (BytesQ (packB bits R r) w) := by
  have hc1 : (w.alloc (.cells #[.int .i64 bits, .slice A r c] 28)).cell? ⟨w.heap.size, 1, none⟩ = some (.slice A r c) := (cell_of_row _ _ _ _ _ _ (heap_alloc_new w _)).trans rfl
  have hc0 : (w.alloc (.cells #[.int .i64 bits, .slice A r c] 28)).cell? ⟨w.heap.size, 0, none⟩ = some (.int .i64 bits) := (cell_of_row _ _ _ _ _ _ (heap_alloc_new w _)).trans rfl
  have HC1 := Lib.hid hc1
  have HC0 := Lib.hid hc0
  have HR := Lib.hid hR
  clear hc1 hc0 hR
  go_enter Try.func25, Try.ntmps25
  go_wp2_with fail
  have B1 := bal (brefl w) (.cells #[.int .i64 bits, .slice A r c] 28)
  obtain ⟨w1, hw1⟩ : ∃ w1, w1 = w.alloc (.cells #[.int .i64 bits, .slice A r c] 28) := ⟨_, rfl⟩
  rw [← hw1] at B1 HC0 HC1 ⊢
  clear hw1
  (with_reducible refine (bmayL_any R r hr1 HR.out RA RC _ _ _ _ ((h.below B1).more B1.size)).mono ?_); rintro e w2 ⟨rfl, b2⟩
  have B2 := bth B1 b2
  cases hmay : bmayB bits R r with
  | false =>
    have hr := Lib.hid (pack_no hmay)
    clear hmay
    go_wp2_with fail
    go_ret2
    exact bytesQ_of hr.out (bytes_none B2)
  | true =>
    obtain ⟨l, hl⟩ : ∃ l, l = weaveB bits R r := ⟨_, rfl⟩
    have hwe : Hid (packB bits R r = packR l bits) := by show _ = _; rw [packB, if_pos hmay, hl, weaveB, if_pos hmay]
    have hll : l.length ≤ 20000 := by rw [hl]; exact Nat.le_trans weaveB_len hsz
    have Hl := Lib.hid hl
    clear hmay hl
    have c0 := later b2 HC0.out
    have c1 := later b2 HC1.out
    have h2 := (h.below B2).more B2.size
    go_wp2_with fail
    go_region_held3 (fun w' => w'.cell? ⟨w.heap.size, 0, none⟩ = some (.int .i64 bits) ∧ w'.cell? ⟨w.heap.size, 1, none⟩ = some (.slice A r c)) (first | (go_keep; done) | exact ⟨later b3 c0, later b3 c1⟩ | exact ⟨later (bth b3 b4) c0, later (bth b3 b4) c1⟩)
      (first | (go_at_call 24; (with_reducible refine (weaveL_any R r hr1 HR.out RA RC _ _ _ _ (by first | exact h2 | exact (h2.below (brefl w2).drew).more (brefl w2).drew.size)).mono ?_); rintro e w3 ⟨A3, c3, rfl, ho3, b3'⟩; rw [← Hl.out] at ho3 ⊢; have b3 : Below w2.heap.size w2 w3 := ⟨b3'.os, b3'.tape, b3'.output, b3'.size, b3'.block⟩; have z3 := ho3.ints) | (go_at_call 46; (with_reducible refine (packL_any l _ rfl hll bits _ _ _ (by exact z3)).mono ?_); rintro e w4 ⟨A4, c4, rfl, ho4, b4'⟩; have b4 : Below w3.heap.size w3 w4 := ⟨b4'.os, b4'.tape, b4'.output, b4'.size, b4'.block⟩))
    have BB := bth B2 (bth b3 b4)
    have hs : w.heap.size ≤ w3.heap.size := Nat.le_trans B2.size b3.size
    go_wp2_with fail
    go_ret2
    refine bytesQ_of hwe.out ⟨A4, c4, rfl, ?_, BB⟩
    exact OwnB.base ho4 hs
end Go.Proofs.Ytfihbcpainlpcaa
