/-
  BlockTells: the walk of the law. (Printed by gen_tells.py.)
-/
import Derived.Test.YtfihbcpainlpcaaProg
import Derived.Test.YtfihbcpainlpcaaQO
import Derived.Test.YtfihbcpainlpcaaQD
import Derived.Test.YtfihbcpainlpcaaQKr
import Derived.Test.YtfihbcpainlpcaaQR
import Derived.Test.YtfihbcpainlpcaaQW
namespace Go.Proofs.Ytfihbcpainlpcaa
open Go.RowKit
set_option linter.unusedVariables false
set_option linter.unusedSimpArgs false

theorem same_bq (l : List Int) (n : Nat) (hn : n = l.length) (A B : Option Addr) (b1 b2 c d : Nat) (w : World) (ha : Ints .u8 w b1 A l) (hb : Ints .u8 w b2 B l) :
    Calls Try.prog 30 #[.slice A n c, .slice B n d] w fun e w' => e = .returned (.bool true) ∧ Below w.heap.size w w' := by
  have h1 := conv_any (c := c) hn ha
  have h2 := conv_any (c := d) hn hb
  clear hn
  go_enter Try.func30, Try.ntmps30
  go_wp2
  go_ret
  exact ⟨rfl, brefl w⟩

set_option maxRecDepth 100000 in
set_option maxHeartbeats 16000000 in
theorem tells_any (rate ch bits : Int) (bi : Int) (A : Option Addr) (c r : Nat) (RA : Nat → Option Addr) (RC : Nat → Nat) (R : Nat → List Int) (hrc : r ≤ c) (hc63 : c ≤ 9223372036854775807) (w : World) (h : Rw w w.heap.size A r RA RC R) :
    Calls Try.prog 10 #[.agg #[.int .i64 rate, .int .i64 ch, .int .i64 bits], .agg #[.int .i64 bi, .slice A r c]] w fun e w' => e = .returned (.bool true) ∧ Below w.heap.size w w' := by
  go_enter Try.func10, Try.ntmps10
  go_wp2_with fail
  obtain ⟨w1, hw1⟩ : ∃ w1, w1 = (w.alloc (.cells #[.int .i64 rate, .int .i64 ch, .int .i64 bits] 24)).alloc (.cells #[.int .i64 bi, .slice A r c] 28) := ⟨_, rfl⟩
  have B1 : Below w.heap.size w w1 := by rw [hw1]; exact bal (bal (brefl w) _) _
  have hz1 : w1.heap.size = w.heap.size + 2 := by rw [hw1]; simp
  have M0 : Hid (w1.heap[w.heap.size]? = some (.cells #[.int .i64 rate, .int .i64 ch, .int .i64 bits] 24 (0, 0))) := by show _ = _; rw [hw1, Below.heap_alloc _ _ _ (by simp)]; exact heap_alloc_new w _
  have M1 : Hid (w1.heap[w.heap.size + 1]? = some (.cells #[.int .i64 bi, .slice A r c] 28 (0, 0))) := by
    show _ = _
    have := heap_alloc_new (w.alloc (.cells #[.int .i64 rate, .int .i64 ch, .int .i64 bits] 24)) (.cells #[.int .i64 bi, .slice A r c] 28)
    rw [World.size_alloc] at this
    rw [hw1]; exact this
  rw [← hw1]
  clear hw1
  (with_reducible refine (known_any _).mono ?_); rintro e w2 ⟨rfl, b2⟩
  have B2 := bth B1 b2
  have Hb2 := Lib.hid b2
  obtain ⟨k0, k1, _, _⟩ := blk_cell ((b2.block _ (by omega)).trans M1.out)
  clear b2
  go_wp2_with fail
  (with_reducible refine (small9_any R r (by omega) RA RC _ _ _ _ _ ((h.below B2).more B2.size)).mono ?_); rintro e w3 ⟨rfl, b3⟩
  have B3 := bth B2 b3
  have Hb3 := Lib.hid (bth Hb2.out b3)
  clear b3 B2 Hb2 k0 k1
  cases hsm : smallB R r 200 with
  | false =>
    go_wp2_with fail
    go_ret
    exact ⟨rfl, B3⟩
  | true =>
    obtain ⟨h12, hlen⟩ := smallB_true.1 hsm
    have HR : Hid (∀ i, i < r → (R i).length ≤ 100000) := fun i hi => by have := hlen i hi; omega
    have hr1 : r ≤ 1000 := by omega
    have Hsz : Hid ((R 0).length * r ≤ 20000) := by
      show _ ≤ _
      by_cases h0 : r = 0
      · rw [h0]; omega
      · have := hlen 0 (by omega)
        exact Nat.le_trans (Nat.mul_le_mul (show (R 0).length ≤ 200 by omega) h12) (by omega)
    obtain ⟨k0, k1, _, _⟩ := blk_cell ((Hb3.out.block _ (by omega)).trans M1.out)
    obtain ⟨l, hl⟩ : ∃ l, weaveB bi R r = l := ⟨_, rfl⟩
    have hll : l.length ≤ 20000 := by rw [← hl]; exact Nat.le_trans weaveB_len Hsz.out
    obtain ⟨y0, hy0⟩ : ∃ y, packB bi R r = y := ⟨_, rfl⟩
    have hyl : y0.1.length ≤ 60000 := by rw [← hy0]; exact packB_len Hsz.out
    obtain ⟨y, cd⟩ := y0
    have hyl' : y.length ≤ 60000 := hyl
    obtain ⟨p, hp⟩ : ∃ p, rightB rate ch bits = p := ⟨_, rfl⟩
    obtain ⟨m, hm⟩ : ∃ m, bmayB bi R r = m := ⟨_, rfl⟩
    obtain ⟨le, hle⟩ : ∃ le, lenI R r = le := ⟨_, rfl⟩
    obtain ⟨pr, hpr⟩ : ∃ pr, printB bi R r = pr := ⟨_, rfl⟩
    have Hl := Lib.hid hl
    have Hy := Lib.hid hy0
    have Hp := Lib.hid hp
    have Hm := Lib.hid hm
    have Hle := Lib.hid hle
    have Hpr := Lib.hid hpr
    have HB3 := Lib.hid B3
    clear hsm hlen hl hy0 hyl hp hm hle hpr B3
    go_wp2_with fail
    have tK := packBL_any R r hr1 HR.out Hsz.out RA RC A c bi w3 ((h.below HB3.out).more HB3.out.size)
    rw [Hy.out] at tK
    (with_reducible refine tK.mono ?_); rintro e w4 ⟨A4, cy4, rfl, ho4, b4⟩
    have B4 := Lib.hid (bth HB3.out b4)
    have Hb4 := Lib.hid (bth Hb3.out b4)
    have z4 := Lib.hid (OwnB.ints ho4)
    have k0' := later b4 k0
    have k1' := later b4 k1
    clear tK b4 k0 k1 HB3 Hb3 ho4
    go_wp2_with fail
    have tK := packBR_any R r hr1 HR.out Hsz.out RA RC A c bi w4 ((h.below B4.out).more B4.out.size)
    rw [Hy.out] at tK
    (with_reducible refine tK.mono ?_); rintro e w6 ⟨A6, cy6, rfl, ho6, b6⟩
    have B6 := Lib.hid (bth B4.out b6)
    have Hb6 := Lib.hid (bth Hb4.out b6)
    have z6 := Lib.hid (OwnB.ints ho6)
    have z46 := Lib.hid (z4.out.below b6)
    have hw46 := b6.size
    have k0 := later b6 k0'
    have k1 := later b6 k1'
    obtain ⟨f0, f1, f2⟩ := fmt_cell ((Hb6.out.block _ (by omega)).trans M0.out)
    have HW : ∀ V, Below w6.heap.size w6 V → Rw V V.heap.size A r RA RC R := fun V b => (h.below (bth B6.out b)).more (bth B6.out b).size
    have HY : ∀ V, Below w6.heap.size w6 V → Ints .u8 V w4.heap.size A4 y := fun V b => z46.out.below (b.mono hw46)
    have HZ : ∀ V, Below w6.heap.size w6 V → Ints .u8 V w6.heap.size A6 y := fun V b => z6.out.below b
    have c0 := brefl w6
    have e1 : (p == p) = true := by simp
    have e2 : (m == m) = true := by simp
    have e3 : (le == le) = true := by simp
    have e4 : (cd == cd) = true := by simp
    have e5 : (((pr : Nat) : Int) == ((pr : Nat) : Int)) = true := by simp
    clear tK b6 k0' k1' B4 Hb4 ho6 z4 hw46
    go_wp2_with fail
    go_region_held3 (fun w' => w'.cell? ⟨w.heap.size, 0, none⟩ = some (.int .i64 rate) ∧ w'.cell? ⟨w.heap.size, 1, none⟩ = some (.int .i64 ch) ∧ w'.cell? ⟨w.heap.size, 2, none⟩ = some (.int .i64 bits) ∧ w'.cell? ⟨w.heap.size + 1, 0, none⟩ = some (.int .i64 bi) ∧ w'.cell? ⟨w.heap.size + 1, 1, none⟩ = some (.slice A r c)) (first | (go_keep; done) | exact ⟨later c12 f0, later c12 f1, later c12 f2, later c12 k0, later c12 k1⟩ | exact ⟨later c11 f0, later c11 f1, later c11 f2, later c11 k0, later c11 k1⟩ | exact ⟨later c10 f0, later c10 f1, later c10 f2, later c10 k0, later c10 k1⟩ | exact ⟨later c9 f0, later c9 f1, later c9 f2, later c9 k0, later c9 k1⟩ | exact ⟨later c8 f0, later c8 f1, later c8 f2, later c8 k0, later c8 k1⟩ | exact ⟨later c7 f0, later c7 f1, later c7 f2, later c7 k0, later c7 k1⟩ | exact ⟨later c6 f0, later c6 f1, later c6 f2, later c6 k0, later c6 k1⟩ | exact ⟨later c5 f0, later c5 f1, later c5 f2, later c5 k0, later c5 k1⟩ | exact ⟨later c4 f0, later c4 f1, later c4 f2, later c4 k0, later c4 k1⟩ | exact ⟨later c3 f0, later c3 f1, later c3 f2, later c3 k0, later c3 k1⟩ | exact ⟨later c2 f0, later c2 f1, later c2 f2, later c2 k0, later c2 k1⟩ | exact ⟨later c1 f0, later c1 f1, later c1 f2, later c1 k0, later c1 k1⟩ | exact ⟨later c0 f0, later c0 f1, later c0 f2, later c0 k0, later c0 k1⟩)
      (first | (go_at_call 26; (with_reducible refine (rightL_any rate ch bits _).mono ?_); rintro e v1 ⟨rfl, b'⟩; have c1 : Below w6.heap.size w6 v1 := bth c0 ⟨b'.os, b'.tape, b'.output, b'.size, b'.block⟩; clear b'; rw [Hp.out])
             | (go_at_call 32; (with_reducible refine (rightR_any rate ch bits _).mono ?_); rintro e v2 ⟨rfl, b'⟩; have c2 : Below w6.heap.size w6 v2 := bth c1 ⟨b'.os, b'.tape, b'.output, b'.size, b'.block⟩; clear b'; rw [Hp.out])
             | (go_at_call 21; (with_reducible refine (bmayL_any R r hr1 HR.out RA RC A c bi _ (HW _ (by first | exact c2 | exact c2.drew))).mono ?_); rintro e v3 ⟨rfl, b'⟩; have c3 : Below w6.heap.size w6 v3 := bth c2 ⟨b'.os, b'.tape, b'.output, b'.size, b'.block⟩; clear b'; rw [Hm.out])
             | (go_at_call 19; (with_reducible refine (bmayR_any R r hr1 HR.out RA RC A c bi _ (HW _ (by first | exact c3 | exact c3.drew))).mono ?_); rintro e v4 ⟨rfl, b'⟩; have c4 : Below w6.heap.size w6 v4 := bth c3 ⟨b'.os, b'.tape, b'.output, b'.size, b'.block⟩; clear b'; rw [Hm.out])
             | (go_at_call 20; (with_reducible refine (len_any R r hr1 RA RC A c bi _ (HW _ (by first | exact c4 | exact c4.drew))).mono ?_); rintro e v5 ⟨rfl, b'⟩; have c5 : Below w6.heap.size w6 v5 := bth c4 ⟨b'.os, b'.tape, b'.output, b'.size, b'.block⟩; clear b'; rw [Hle.out])
             | (go_at_call 33; (with_reducible refine (lenR_any R r hr1 RA RC A c bi _ (HW _ (by first | exact c5 | exact c5.drew))).mono ?_); rintro e v6 ⟨rfl, b'⟩; have c6 : Below w6.heap.size w6 v6 := bth c5 ⟨b'.os, b'.tape, b'.output, b'.size, b'.block⟩; clear b'; rw [Hle.out])
             | (go_at_call 24; (with_reducible refine (weaveL_any R r hr1 HR.out RA RC A c bi _ (HW _ (by first | exact c6 | exact c6.drew))).mono ?_); rintro e v7 ⟨A7, c7', rfl, ho7, b'⟩; have c7 : Below w6.heap.size w6 v7 := bth c6 ⟨b'.os, b'.tape, b'.output, b'.size, b'.block⟩; clear b'; rw [Hl.out] at ho7 ⊢; have z7 := Lib.hid (OwnZ.ints ho7))
             | (go_at_call 34; (with_reducible refine (weaveR_any R r hr1 HR.out RA RC A c bi _ (HW _ (by first | exact c7 | exact c7.drew))).mono ?_); rintro e v8 ⟨A8, c8', rfl, ho8, b''⟩; have c8 : Below w6.heap.size w6 v8 := bth c7 ⟨b''.os, b''.tape, b''.output, b''.size, b''.block⟩; skip; rw [Hl.out] at ho8 ⊢; have z8 := Lib.hid (OwnZ.ints ho8); have z78 : Hid (Ints .i64 v8 v7.heap.size A7 l) := z7.out.below ⟨b''.os, b''.tape, b''.output, b''.size, b''.block⟩)
             | (go_at_call 29; (with_reducible refine (same_q l l _ _ rfl rfl (by omega) (by omega) A7 A8 v7.heap.size v8.heap.size c7' c8' _ (by first | exact z78.out | exact z78.out.drew) (by first | exact z8.out | exact z8.out.drew)).mono ?_); rintro e v9 ⟨rfl, b'⟩; have c9 : Below w6.heap.size w6 v9 := bth c8 ⟨b'.os, b'.tape, b'.output, b'.size, b'.block⟩; clear b'; rw [eqI_refl])
             | (go_at_call 30; (with_reducible refine (same_bq y _ rfl A4 A6 w4.heap.size w6.heap.size cy4 cy6 _ (HY _ (by first | exact c9 | exact c9.drew)) (HZ _ (by first | exact c9 | exact c9.drew))).mono ?_); rintro e v10 ⟨rfl, b'⟩; have c10 : Below w6.heap.size w6 v10 := bth c9 ⟨b'.os, b'.tape, b'.output, b'.size, b'.block⟩; clear b')
             | (go_at_call 35; (with_reducible refine (printBL_any R r hr1 HR.out Hsz.out RA RC A c bi _ (HW _ (by first | exact c10 | exact c10.drew))).mono ?_); rintro e v11 ⟨rfl, b'⟩; have c11 : Below w6.heap.size w6 v11 := bth c10 ⟨b'.os, b'.tape, b'.output, b'.size, b'.block⟩; clear b'; rw [Hpr.out])
             | (go_at_call 36; (with_reducible refine (printBR_any R r hr1 HR.out Hsz.out RA RC A c bi _ (HW _ (by first | exact c11 | exact c11.drew))).mono ?_); rintro e v12 ⟨rfl, b'⟩; have c12 : Below w6.heap.size w6 v12 := bth c11 ⟨b'.os, b'.tape, b'.output, b'.size, b'.block⟩; clear b'; rw [Hpr.out]))
    have BF := bth B6.out c12
    go_wp2_with fail
    go_ret
    exact ⟨rfl, BF⟩
end Go.Proofs.Ytfihbcpainlpcaa
