/-
  BlockWoven: the walk of the law. (Printed by gen_woven.py.)
-/
import Derived.Test.YtfihbcpainlpcaaProg
import Derived.Test.YtfihbcpainlpcaaQO
import Derived.Test.YtfihbcpainlpcaaQD
import Derived.Test.YtfihbcpainlpcaaQJa
import Derived.Test.YtfihbcpainlpcaaQRp
import Derived.Test.YtfihbcpainlpcaaQW
import Derived.Test.YtfihbcpainlpcaaQY
namespace Go.Proofs.Ytfihbcpainlpcaa
open Go.RowKit
set_option linter.unusedVariables false
set_option linter.unusedSimpArgs false

theorem same_bq (l : List Int) (n : Nat) (hn : n = l.length) (A B : Option Addr) (b1 b2 c d : Nat) (w : World) (ha : Ints .u8 w b1 A l) (hb : Ints .u8 w b2 B l) :
    Calls Try.prog 30 #[.slice A n c, .slice B n d] w fun e w' => e = .returned (.bool true) ∧ Below w.heap.size w w' := by
  have h1 := conv_any (c := c) hn ha
  have h2 := conv_any (c := d) hn hb
  clear hn
  go_enter Try.func30, Try.ntmps30
  go_wp2
  go_ret
  exact ⟨rfl, brefl w⟩
theorem hx3 {v2 va w3 : World} {B n c : Nat} {l : List Int} {X1 A3 A1 : Option Addr} (h : OwnZ v2 B X1 n c l) (hsz : v2.heap.size ≤ va.heap.size) (hsame : ∀ k : Nat, k < v2.heap.size → va.heap[k]? = v2.heap[k]?) (hg : va.grownBy w3 (blkOf A1)) (hat : blkOf A3 = blkOf A1 ∨ blkOf A3 = some va.heap.size) (hne : ∀ q : Nat, blkOf X1 = some q → blkOf A1 ≠ some q) : OwnZ w3 B X1 n c l ∧ ∀ q : Nat, blkOf X1 = some q → blkOf A3 ≠ some q := by
  have hlt : ∀ q : Nat, blkOf X1 = some q → q < v2.heap.size := fun q hq => (OwnZ.lt h q (by rw [ownBlock_blk]; exact hq)).2
  refine ⟨h.other fun q hq => ?_, fun q hq e => ?_⟩
  · rw [ownBlock_blk] at hq
    exact (hg.block q (Nat.lt_of_lt_of_le (hlt q hq) hsz) (fun e => hne q hq e.symm)).trans (hsame q (hlt q hq))
  · rcases hat with h5 | h5 <;> rw [h5] at e
    · exact hne q hq e
    · have := hlt q hq
      simp only [Option.some.injEq] at e
      omega
/-- a row that an append leaves, and that does not share the appended row's block. -/
theorem rowX {w w' : World} {B : Nat} {X A3 : Option Addr} {n c : Nat} {l : List Int} (h : OwnZ w B X n c l) (hk : ∀ q, blkOf X = some q → w'.heap[q]? = w.heap[q]? ∧ blkOf A3 ≠ some q) : OwnZ w' B X n c l ∧ ∀ q, blkOf X = some q → blkOf A3 ≠ some q :=
  ⟨h.other fun q hq => (hk q (by rw [← ownBlock_blk X n c]; exact hq)).1, fun q hq => (hk q hq).2⟩

set_option maxRecDepth 100000 in
set_option maxHeartbeats 16000000 in
theorem woven_any (bits : Int) (A : Option Addr) (c r : Nat) (RA : Nat → Option Addr) (RC : Nat → Nat) (R : Nat → List Int) (hrc : r ≤ c) (hc63 : c ≤ 9223372036854775807) (bits2 : Int) (A2 : Option Addr) (c2 r2 : Nat) (RA2 : Nat → Option Addr) (RC2 : Nat → Nat) (R2 : Nat → List Int) (hrc2 : r2 ≤ c2) (hc63b : c2 ≤ 9223372036854775807) (w : World) (h : Rw w w.heap.size A r RA RC R) (h2 : Rw w w.heap.size A2 r2 RA2 RC2 R2) :
    Calls Try.prog 9 #[.agg #[.int .i64 bits, .slice A r c], .agg #[.int .i64 bits2, .slice A2 r2 c2]] w fun e w' => e = .returned (.bool true) ∧ Below w.heap.size w w' := by
  go_enter Try.func9, Try.ntmps9
  go_wp2_with fail
  obtain ⟨w1, hw1⟩ : ∃ w1, w1 = (w.alloc (.cells #[.int .i64 bits, .slice A r c] 28)).alloc (.cells #[.int .i64 bits2, .slice A2 r2 c2] 28) := ⟨_, rfl⟩
  have B1 : Below w.heap.size w w1 := by rw [hw1]; exact bal (bal (brefl w) _) _
  have hz1 : w1.heap.size = w.heap.size + 2 := by rw [hw1]; simp
  have M0 : Hid (w1.heap[w.heap.size]? = some (.cells #[.int .i64 bits, .slice A r c] 28 (0, 0))) := by show _ = _; rw [hw1, Below.heap_alloc _ _ _ (by simp)]; exact heap_alloc_new w _
  have M1 : Hid (w1.heap[w.heap.size + 1]? = some (.cells #[.int .i64 bits2, .slice A2 r2 c2] 28 (0, 0))) := by
    show _ = _
    have := heap_alloc_new (w.alloc (.cells #[.int .i64 bits, .slice A r c] 28)) (.cells #[.int .i64 bits2, .slice A2 r2 c2] 28)
    rw [World.size_alloc] at this
    rw [hw1]; exact this
  rw [← hw1]
  clear hw1
  (with_reducible refine (known_any _).mono ?_); rintro e w2 ⟨rfl, b2⟩
  have B2 := bth B1 b2
  have Hb2 := Lib.hid b2
  obtain ⟨k0, k1, _, _⟩ := blk_cell ((b2.block _ (by omega)).trans M0.out)
  clear b2
  go_wp2_with fail
  (with_reducible refine (small9_any R r (by omega) RA RC _ _ _ _ _ ((h.below B2).more B2.size)).mono ?_); rintro e w3 ⟨rfl, b3⟩
  have B3 := bth B2 b3
  have Hb3 := Lib.hid (bth Hb2.out b3)
  clear b3 B2 Hb2 k0 k1
  cases hsm : smallB R r 200 with
  | false =>
    go_wp2_with fail
    go_ret
    exact ⟨rfl, B3⟩
  | true =>
  obtain ⟨k2, k3, _, _⟩ := blk_cell ((Hb3.out.block (w.heap.size + 1) (by omega)).trans M1.out)
  go_wp2_with fail
  (with_reducible refine (small9_any R2 r2 (by omega) RA2 RC2 _ _ _ _ _ ((h2.below B3).more B3.size)).mono ?_); rintro e w3' ⟨rfl, b3⟩
  have B3' := bth B3 b3
  have Hb3' := Lib.hid (bth Hb3.out b3)
  clear b3 B3 Hb3 k2 k3
  obtain ⟨w3, rfl⟩ : ∃ w3, w3 = w3' := ⟨_, rfl⟩
  obtain ⟨B3, Hb3⟩ := (show Below w.heap.size w w3 ∧ Hid (Below w1.heap.size w1 w3) from ⟨B3', Hb3'⟩)
  clear B3' Hb3'
  cases hsm2 : smallB R2 r2 200 with
  | false =>
    go_wp2_with fail
    go_ret
    exact ⟨rfl, B3⟩
  | true =>
  obtain ⟨h12, hlen⟩ := smallB_true.1 hsm
  obtain ⟨h12', hlen'⟩ := smallB_true.1 hsm2
  have HR : Hid (∀ i, i < r → (R i).length ≤ 100000) := fun i hi => by have := hlen i hi; omega
  have HR2 : Hid (∀ i, i < r2 → (R2 i).length ≤ 100000) := fun i hi => by have := hlen' i hi; omega
  obtain ⟨k0, k1, _, _⟩ := blk_cell ((Hb3.out.block w.heap.size (by omega)).trans M0.out)
  have Hlen := Lib.hid hlen
  have Hlen' := Lib.hid hlen'
  clear hsm hsm2 hlen hlen'
  go_wp2_with fail
  (with_reducible refine (bmayR_any R r (by omega) HR.out RA RC _ _ _ _ ((h.below B3).more B3.size)).mono ?_); rintro e w4 ⟨rfl, b4⟩
  have B4 := bth B3 b4
  have Hb4 := Lib.hid (bth Hb3.out b4)
  clear b4 B3 Hb3 k0 k1
  cases hmay : bmayB bits R r with
  | false =>
    go_wp2_with fail
    go_ret
    exact ⟨rfl, B4⟩
  | true =>
  have Hmay := Lib.hid hmay
  obtain ⟨k2, k3, _, _⟩ := blk_cell ((Hb4.out.block (w.heap.size + 1) (by omega)).trans M1.out)
  clear hmay
  go_wp2_with fail
  (with_reducible refine (bmayR_any R2 r2 (by omega) HR2.out RA2 RC2 _ _ _ _ ((h2.below B4).more B4.size)).mono ?_); rintro e w5 ⟨rfl, b5⟩
  have B5 := bth B4 b5
  have Hb5 := Lib.hid (bth Hb4.out b5)
  clear b5 B4 Hb4 k2 k3
  cases hmay2 : bmayB bits2 R2 r2 with
  | false =>
    go_wp2_with fail
    go_ret
    exact ⟨rfl, B5⟩
  | true =>
  have Hmay2 := Lib.hid hmay2
  clear hmay2
  obtain ⟨k0, k1, _, _⟩ := blk_cell ((Hb5.out.block w.heap.size (by omega)).trans M0.out)
  obtain ⟨k2, k3, _, _⟩ := blk_cell ((Hb5.out.block (w.heap.size + 1) (by omega)).trans M1.out)
  by_cases hbb : bits = bits2
  · subst hbb
    have hb0 : (bits != bits) = false := by simp
    by_cases hrr : r = r2
    · subst hrr
      have hr0 : (((r : Nat) : Int) != ((r : Nat) : Int)) = false := by simp
      have HB5 := Lib.hid B5
      clear B5
      go_wp2_with fail
      have H5 := Lib.hid ((h.below HB5.out).more HB5.out.size)
      have H52 := Lib.hid ((h2.below HB5.out).more HB5.out.size)
      obtain ⟨a1, a2, a3, a4, a5, a6, a7⟩ := bmayB_true.1 Hmay.out
      obtain ⟨_, _, _, _, d5, d6, d7⟩ := bmayB_true.1 Hmay2.out
      have hl0 := Hlen.out 0 (by omega)
      have hl02 := Hlen'.out 0 (by omega)
      have hsz : (R 0).length * r ≤ 20000 := Nat.le_trans (Nat.mul_le_mul (show (R 0).length ≤ 200 by omega) a4) (by omega)
      have hsz2 : (R2 0).length * r ≤ 20000 := Nat.le_trans (Nat.mul_le_mul (show (R2 0).length ≤ 200 by omega) a4) (by omega)
      obtain ⟨R3, hR3⟩ : ∃ R3, R3 = appR R R2 := ⟨_, rfl⟩
      have hl3 : (R3 0).length = (R 0).length + (R2 0).length := by rw [hR3]; unfold appR; rw [List.length_append]
      have hmay3 : bmayB bits R3 r = true := by rw [hR3]; exact may_app Hmay.out Hmay2.out (by omega)
      have HR3 : Hid (∀ i, i < r → (R3 i).length ≤ 100000) := fun i hi => by
        rw [hR3]; unfold appR; rw [List.length_append]; have := Hlen.out i hi; have := Hlen'.out i hi; omega
      have hsz3 : (R3 0).length * r ≤ 20000 := Nat.le_trans (Nat.mul_le_mul (show (R3 0).length ≤ 400 by omega) a4) (by omega)
      obtain ⟨x, hx⟩ : ∃ x, x = joinB bits R r bits R2 r := ⟨_, rfl⟩
      have hx' : x = ⟨bits, r, fun i => R i ++ R2 i, 0⟩ := by rw [hx, joinB, if_pos ⟨Hmay.out, Hmay2.out⟩, if_pos ⟨rfl, rfl⟩, if_pos (by omega)]
      have hxR : ∀ i, i < r → R3 i = x.R i := fun i hi => by rw [hx', hR3]; rfl
      obtain ⟨y1, hy1⟩ : ∃ y, y = (packB bits R r).1 := ⟨_, rfl⟩
      obtain ⟨y2, hy2⟩ : ∃ y, y = (packB bits R2 r).1 := ⟨_, rfl⟩
      have hp1 : packB bits R r = (y1, 0) := by rw [hy1, pack_may Hmay.out]
      have hp2 : packB bits R2 r = (y2, 0) := by rw [hy2, pack_may Hmay2.out]
      have hp3 : packB bits R3 r = (y1 ++ y2, 0) := by rw [hR3, pack_app Hmay.out Hmay2.out (by rw [← hR3]; exact hmay3), hy1, hy2]
      have hyl1 : y1.length ≤ 60000 := by rw [hy1]; exact packB_len hsz
      have hyl2 : y2.length ≤ 60000 := by rw [hy2]; exact packB_len hsz2
      obtain ⟨l1, hl1⟩ : ∃ l, l = weaveB bits R r := ⟨_, rfl⟩
      obtain ⟨l2, hl2⟩ : ∃ l, l = weaveB bits R2 r := ⟨_, rfl⟩
      have hw3 : weaveB bits R3 r = l1 ++ l2 := by
        rw [weaveB, if_pos hmay3, hl1, hl2, weaveB, if_pos Hmay.out, weaveB, if_pos Hmay2.out, hR3, weave_apps Hmay.out]
      have hll1 : l1.length ≤ 20000 := by rw [hl1]; exact Nat.le_trans weaveB_len hsz
      have hll2 : l2.length ≤ 20000 := by rw [hl2]; exact Nat.le_trans weaveB_len hsz2
      have hle1 : lenI R r = ((R 0).length : Int) := by unfold lenI; rw [if_neg (by omega)]
      have hle2 : lenI R2 r = ((R2 0).length : Int) := by unfold lenI; rw [if_neg (by omega)]
      have hle3 : lenI R3 r = (((R 0).length : Int) + ((R2 0).length : Int)) := by unfold lenI; rw [if_neg (by omega), hl3]; omega
      have Hx := Lib.hid hx
      have HxR := Lib.hid hxR
      have E1 : Hid (x.r = r) := by show _ = _; rw [hx']
      have E2 : Hid (x.bits = bits) := by show _ = _; rw [hx']
      have E3 : Hid (x.code = 0) := by show _ = _; rw [hx']
      have Hp1 := Lib.hid hp1
      have Hp2 := Lib.hid hp2
      have Hp3 := Lib.hid hp3
      have Hl1 : Hid (weaveB bits R r = l1) := hl1.symm
      have Hl2 : Hid (weaveB bits R2 r = l2) := hl2.symm
      have Hw3 := Lib.hid hw3
      have Hle1 := Lib.hid hle1
      have Hle2 := Lib.hid hle2
      have Hle3 := Lib.hid hle3
      have Hyl1 := Lib.hid hyl1
      have Hyl2 := Lib.hid hyl2
      have Hll1 := Lib.hid hll1
      have Hll2 := Lib.hid hll2
      have Hsz := Lib.hid hsz
      have Hsz2 := Lib.hid hsz2
      have Hsz3 := Lib.hid hsz3
      clear hR3 hl3 hmay3 hsz hsz2 hsz3 hx hx' hxR hy1 hy2 hp1 hp2 hp3 hyl1 hyl2 hl1 hl2 hw3 hll1 hll2 hle1 hle2 hle3 a7 d7
      have t1 := joinL_any R R2 r r (by omega) (by omega) HR.out HR2.out RA RA2 RC RC2 A A2 c c2 bits bits w5 H5.out H52.out
      rw [← Hx.out] at t1
      (with_reducible refine t1.mono ?_); rintro e w6 hq6
      obtain ⟨A6, c6, RA6, RC6, rfl, h6', b6⟩ := hq6.elim
      rw [E1.out] at h6' ⊢
      rw [E2.out, E3.out]
      have h6 := Lib.hid (h6'.cong HxR.out)
      have B6 := Lib.hid (bth HB5.out b6)
      have ka0 : ∀ o, (w6.alloc o).cell? ⟨w.heap.size, 0, none⟩ = some (.int .i64 bits) := fun o => later (bal b6 o) k0
      have ka1 : ∀ o, (w6.alloc o).cell? ⟨w.heap.size, 1, none⟩ = some (.slice A r c) := fun o => later (bal b6 o) k1
      have ka2 : ∀ o, (w6.alloc o).cell? ⟨w.heap.size + 1, 0, none⟩ = some (.int .i64 bits) := fun o => later (bal b6 o) k2
      have ka3 : ∀ o, (w6.alloc o).cell? ⟨w.heap.size + 1, 1, none⟩ = some (.slice A2 r c2) := fun o => later (bal b6 o) k3
      clear t1 hq6 h6' b6 k0 k1 k2 k3 Hb5 HB5 H5 H52
      go_wp2_with fail
      obtain ⟨w7, hw7⟩ : ∃ w7, w7 = w6.alloc (.cells #[.int .i64 bits, .slice A6 r c6] 28) := ⟨_, rfl⟩
      have b7 : Below w6.heap.size w6 w7 := by rw [hw7]; exact bal (brefl w6) _
      have j0 : w7.cell? ⟨w6.heap.size, 0, none⟩ = some (.int .i64 bits) := by rw [hw7]; exact (cell_of_row _ _ _ _ _ _ (heap_alloc_new w6 _)).trans rfl
      have j1 : w7.cell? ⟨w6.heap.size, 1, none⟩ = some (.slice A6 r c6) := by rw [hw7]; exact (cell_of_row _ _ _ _ _ _ (heap_alloc_new w6 _)).trans rfl
      have k0 := ka0 (.cells #[.int .i64 bits, .slice A6 r c6] 28)
      have k1 := ka1 (.cells #[.int .i64 bits, .slice A6 r c6] 28)
      have k2 := ka2 (.cells #[.int .i64 bits, .slice A6 r c6] 28)
      have k3 := ka3 (.cells #[.int .i64 bits, .slice A6 r c6] 28)
      rw [← hw7] at k0 k1 k2 k3 ⊢
      have B7 := Lib.hid (bth B6.out b7)
      have h67 := Lib.hid ((h6.out.below b7).more b7.size)
      clear hw7 b7 ka0 ka1 ka2 ka3 h6 B6
      have tK := packBL_any R r (by omega) HR.out Hsz.out RA RC A c bits w7 ((h.below B7.out).more B7.out.size)
      rw [Hp1.out] at tK
      (with_reducible refine tK.mono ?_); rintro e w8 ⟨A8, cy8, rfl, ho8, b8⟩
      have B8 := Lib.hid (bth B7.out b8)
      have h68 := Lib.hid ((h67.out.below b8).more b8.size)
      have z8 := Lib.hid (OwnB.ints ho8)
      have k0' := later b8 k0
      have k1' := later b8 k1
      have k2' := later b8 k2
      have k3' := later b8 k3
      have j0' := later b8 j0
      have j1' := later b8 j1
      clear tK b8 k0 k1 k2 k3 j0 j1 h67 B7 ho8
      go_wp2_with fail
      have tK := packBL_any R2 r (by omega) HR2.out Hsz2.out RA2 RC2 A2 c2 bits w8 ((h2.below B8.out).more B8.out.size)
      rw [Hp2.out] at tK
      (with_reducible refine tK.mono ?_); rintro e w9 ⟨A9, cy9, rfl, ho9, b9⟩
      have B9 := Lib.hid (bth B8.out b9)
      have h69 := Lib.hid ((h68.out.below b9).more b9.size)
      have z89 := Lib.hid ((z8.out.below b9).more b9.size)
      have z9 := Lib.hid (OwnB.ints ho9)
      have k0 := later b9 k0'
      have k1 := later b9 k1'
      have k2 := later b9 k2'
      have k3 := later b9 k3'
      have j0 := later b9 j0'
      have j1 := later b9 j1'
      clear tK b9 k0' k1' k2' k3' j0' j1' h68 B8 z8 ho9
      go_wp2_with fail
      have tK := packBL_any R3 r (by omega) HR3.out Hsz3.out RA6 RC6 A6 c6 bits w9 h69.out
      rw [Hp3.out] at tK
      (with_reducible refine tK.mono ?_); rintro e wo ⟨Ao, cyo, rfl, hoo, bo⟩
      have Bo := Lib.hid (bth B9.out bo)
      have h6o := Lib.hid ((h69.out.below bo).more bo.size)
      have z8o := Lib.hid ((z89.out.below bo).more bo.size)
      have z9o := Lib.hid ((z9.out.below bo).more bo.size)
      have zoo := Lib.hid (OwnB.ints hoo)
      have k0' := later bo k0
      have k1' := later bo k1
      have k2' := later bo k2
      have k3' := later bo k3
      have j0' := later bo j0
      have j1' := later bo j1
      clear tK bo k0 k1 k2 k3 j0 j1 h69 B9 z89 z9 hoo
      go_wp2_with fail
      have hr1 : r ≤ 1000 := by omega
      have HW3 : ∀ V, Below wo.heap.size wo V → Rw V V.heap.size A6 r RA6 RC6 R3 := fun V b => (h6o.out.below b).more b.size
      have HW : ∀ V, Below wo.heap.size wo V → Rw V V.heap.size A r RA RC R := fun V b => (h.below (bth Bo.out b)).more (bth Bo.out b).size
      have HW2 : ∀ V, Below wo.heap.size wo V → Rw V V.heap.size A2 r RA2 RC2 R2 := fun V b => (h2.below (bth Bo.out b)).more (bth Bo.out b).size
      have HY1 : ∀ V, Below wo.heap.size wo V → Ints .u8 V wo.heap.size A8 y1 := fun V b => z8o.out.below b
      have HY2 : ∀ V, Below wo.heap.size wo V → Ints .u8 V wo.heap.size A9 y2 := fun V b => z9o.out.below b
      have HY3 : ∀ V, Below wo.heap.size wo V → Ints .u8 V wo.heap.size Ao (y1 ++ y2) := fun V b => zoo.out.below b
      have bb0 := brefl wo
      have hwr : IntKind.i64.wrap (((R 0).length : Int) + ((R2 0).length : Int)) = ((R 0).length : Int) + ((R2 0).length : Int) := IntWalk.i64_in _ (by omega)
      have heq : ((((R 0).length : Int) + ((R2 0).length : Int)) == (((R 0).length : Int) + ((R2 0).length : Int))) = true := by simp
      go_region_held3 (fun w' => w'.cell? ⟨w.heap.size, 0, none⟩ = some (.int .i64 bits) ∧ w'.cell? ⟨w.heap.size, 1, none⟩ = some (.slice A r c) ∧ w'.cell? ⟨w.heap.size + 1, 0, none⟩ = some (.int .i64 bits) ∧ w'.cell? ⟨w.heap.size + 1, 1, none⟩ = some (.slice A2 r c2) ∧ w'.cell? ⟨w6.heap.size, 0, none⟩ = some (.int .i64 bits) ∧ w'.cell? ⟨w6.heap.size, 1, none⟩ = some (.slice A6 r c6)) (first | (go_keep; done) | exact ⟨later (bb12) k0', later (bb12) k1', later (bb12) k2', later (bb12) k3', later (bb12) j0', later (bb12) j1'⟩ | exact ⟨later (bb11) k0', later (bb11) k1', later (bb11) k2', later (bb11) k3', later (bb11) j0', later (bb11) j1'⟩ | exact ⟨later (bb10) k0', later (bb10) k1', later (bb10) k2', later (bb10) k3', later (bb10) j0', later (bb10) j1'⟩ | exact ⟨later (bb9) k0', later (bb9) k1', later (bb9) k2', later (bb9) k3', later (bb9) j0', later (bb9) j1'⟩ | exact ⟨later (bb8) k0', later (bb8) k1', later (bb8) k2', later (bb8) k3', later (bb8) j0', later (bb8) j1'⟩ | exact ⟨later (bb7) k0', later (bb7) k1', later (bb7) k2', later (bb7) k3', later (bb7) j0', later (bb7) j1'⟩ | exact ⟨later (bb6) k0', later (bb6) k1', later (bb6) k2', later (bb6) k3', later (bb6) j0', later (bb6) j1'⟩ | exact ⟨later (bal bb6 _) k0', later (bal bb6 _) k1', later (bal bb6 _) k2', later (bal bb6 _) k3', later (bal bb6 _) j0', later (bal bb6 _) j1'⟩ | exact ⟨later ((bal bb6 _).drew) k0', later ((bal bb6 _).drew) k1', later ((bal bb6 _).drew) k2', later ((bal bb6 _).drew) k3', later ((bal bb6 _).drew) j0', later ((bal bb6 _).drew) j1'⟩ | exact ⟨later (bb5) k0', later (bb5) k1', later (bb5) k2', later (bb5) k3', later (bb5) j0', later (bb5) j1'⟩ | exact ⟨later (bb4) k0', later (bb4) k1', later (bb4) k2', later (bb4) k3', later (bb4) j0', later (bb4) j1'⟩ | exact ⟨later (bb3) k0', later (bb3) k1', later (bb3) k2', later (bb3) k3', later (bb3) j0', later (bb3) j1'⟩ | exact ⟨later (bb2) k0', later (bb2) k1', later (bb2) k2', later (bb2) k3', later (bb2) j0', later (bb2) j1'⟩ | exact ⟨later (bal bb2 _) k0', later (bal bb2 _) k1', later (bal bb2 _) k2', later (bal bb2 _) k3', later (bal bb2 _) j0', later (bal bb2 _) j1'⟩ | exact ⟨later ((bal bb2 _).drew) k0', later ((bal bb2 _).drew) k1', later ((bal bb2 _).drew) k2', later ((bal bb2 _).drew) k3', later ((bal bb2 _).drew) j0', later ((bal bb2 _).drew) j1'⟩ | exact ⟨later (bb1) k0', later (bb1) k1', later (bb1) k2', later (bb1) k3', later (bb1) j0', later (bb1) j1'⟩ | exact ⟨later (bal bb1 _) k0', later (bal bb1 _) k1', later (bal bb1 _) k2', later (bal bb1 _) k3', later (bal bb1 _) j0', later (bal bb1 _) j1'⟩ | exact ⟨later ((bal bb1 _).drew) k0', later ((bal bb1 _).drew) k1', later ((bal bb1 _).drew) k2', later ((bal bb1 _).drew) k3', later ((bal bb1 _).drew) j0', later ((bal bb1 _).drew) j1'⟩ | exact ⟨later (bb0) k0', later (bb0) k1', later (bb0) k2', later (bb0) k3', later (bb0) j0', later (bb0) j1'⟩ | exact ⟨later (bal bb0 _) k0', later (bal bb0 _) k1', later (bal bb0 _) k2', later (bal bb0 _) k3', later (bal bb0 _) j0', later (bal bb0 _) j1'⟩ | exact ⟨later ((bal bb0 _).drew) k0', later ((bal bb0 _).drew) k1', later ((bal bb0 _).drew) k2', later ((bal bb0 _).drew) k3', later ((bal bb0 _).drew) j0', later ((bal bb0 _).drew) j1'⟩)
        (first | (go_at_call 24; (with_reducible refine (weaveL_any R3 r hr1 HR3.out RA6 RC6 A6 c6 bits _ (HW3 _ (by first | exact bb0 | exact bb0.drew | exact bal bb0 _ | exact (bal bb0 _).drew))).mono ?_); rintro e v1 ⟨X1, q1, rfl, ho1, b1'⟩; rw [Hw3.out] at ho1 ⊢; have bb1 : Below wo.heap.size wo v1 := (by first | exact bth bb0 ⟨b1'.os, b1'.tape, b1'.output, b1'.size, b1'.block⟩ | exact bth (bal bb0 _) b1' | exact bth (bal bb0 _).drew b1'); (first | (have hE1 : OwnZ v1 wo.heap.size (some ⟨wo.heap.size, 0, none⟩) 0 0 [] := OwnZ.below (own_emptyZ wo) b1' (Nat.le_refl _)) | (have hE1 : OwnZ v1 wo.heap.size (some ⟨wo.heap.size, 0, none⟩) 0 0 [] := OwnZ.below (OwnZ.drewN (own_emptyZ wo) 1) b1' (Nat.le_refl _)) | skip))
               | (go_at_call 24; (with_reducible refine (weaveL_any R r hr1 HR.out RA RC A c bits _ (HW _ (by first | exact bb1 | exact bb1.drew | exact bal bb1 _ | exact (bal bb1 _).drew))).mono ?_); rintro e v2 ⟨X2, q2, rfl, ho2, b2'⟩; rw [Hl1.out] at ho2 ⊢; have bb2 : Below wo.heap.size wo v2 := (by first | exact bth bb1 ⟨b2'.os, b2'.tape, b2'.output, b2'.size, b2'.block⟩ | exact bth (bal bb1 _) b2' | exact bth (bal bb1 _).drew b2'); have z2 := Lib.hid (OwnZ.ints ho2); (have b12 : Below v1.heap.size v1 v2 := (by first | exact ⟨b2'.os, b2'.tape, b2'.output, b2'.size, b2'.block⟩ | exact bth (bal (brefl v1) _) b2' | exact bth (bal (brefl v1) _).drew b2')); have hX2 := OwnZ.below ho1 b12 (Nat.le_refl _); (first | (have hE2 : OwnZ v2 wo.heap.size (some ⟨wo.heap.size, 0, none⟩) 0 0 [] := OwnZ.below hE1 b12 (Nat.le_refl _)) | (have hE2 : OwnZ v2 wo.heap.size (some ⟨v1.heap.size, 0, none⟩) 0 0 [] := OwnZ.base (OwnZ.below (own_emptyZ v1) b2' (Nat.le_refl _)) bb1.size) | (have hE2 : OwnZ v2 wo.heap.size (some ⟨v1.heap.size, 0, none⟩) 0 0 [] := OwnZ.base (OwnZ.below (OwnZ.drewN (own_emptyZ v1) 1) b2' (Nat.le_refl _)) bb1.size) | skip))
               | ((with_reducible show (if Region.wanted (⟨some 90, _, _, _, _, _⟩ : Oper) _ = true then _ else _)); refine step_appI _ ?_ (.tmp 87) (.tmp 89) rfl wo _ 0 _ [] rfl ?_ v2.heap.size _ _ _ l1 rfl rfl ?_ ?_ ?_ ?_; (· rfl); (· (first | exact hE2 | exact OwnZ.base (own_emptyZ v2) bb2.size | exact OwnZ.base (OwnZ.drewN (own_emptyZ v2) 1) bb2.size)); (· (have q := z2.out; first | exact q | exact q.below (bal (brefl v2) _) | exact q.below (bal (brefl v2) _).drew)); (· (have := Hll1.out; omega)); (· exact (by first | exact bb2 | exact bb2.drew | exact bal bb2 _ | exact (bal bb2 _).drew)); intro A3 q3 v3 ho3 bb3 hg3 hat3; rw [Nat.zero_add] at ho3 ⊢; rw [List.nil_append] at ho3; (have hX3 := hx3 hX2 (by first | exact Nat.le_refl _ | simp) (by first | exact fun _ _ => rfl | exact fun k hk => Below.heap_alloc _ _ _ hk) hg3 hat3 (by intro q hq e; have h1 := OwnZ.lt ho1 q (by rw [ownBlock_blk]; exact hq); have h3 := b12.size; simp [blkOf] at e; first | omega | (have h4 : wo.heap.size + 1 ≤ q := (by simpa using h1.1); omega))); skip)
               | (go_at_call 24; (with_reducible refine (weaveL_any R2 r hr1 HR2.out RA2 RC2 A2 c2 bits _ (HW2 _ (by first | exact bb3 | exact bb3.drew | exact bal bb3 _ | exact (bal bb3 _).drew))).mono ?_); rintro e v4 ⟨X4, q4, rfl, ho4, b4'⟩; rw [Hl2.out] at ho4 ⊢; have bb4 : Below wo.heap.size wo v4 := (by first | exact bth bb3 ⟨b4'.os, b4'.tape, b4'.output, b4'.size, b4'.block⟩ | exact bth (bal bb3 _) b4' | exact bth (bal bb3 _).drew b4'); have z4 := Lib.hid (OwnZ.ints ho4); (have b34 : Below v3.heap.size v3 v4 := ⟨b4'.os, b4'.tape, b4'.output, b4'.size, b4'.block⟩); have hX4 := OwnZ.below hX3.1 b34 (Nat.le_refl _); have ho34 := OwnZ.below ho3 b34 (Nat.le_refl _); skip)
               | ((with_reducible show (if Region.wanted (⟨some 93, _, _, _, _, _⟩ : Oper) _ = true then _ else _)); refine step_appI _ ?_ (.tmp 90) (.tmp 92) rfl wo _ _ _ l1 rfl ?_ v4.heap.size _ _ _ l2 rfl rfl ?_ ?_ ?_ ?_; (· rfl); (· exact ho34); (· (have q := z4.out; exact q)); (· (have := Hll1.out; have := Hll2.out; omega)); (· exact bb4); intro A5 q5 v5 ho5 bb5 hg5 hat5; rw [← List.length_append] at ho5 ⊢; have hX5 := hX4.other (fun q hq => hg5.block q (OwnZ.lt hX4 q hq).2 (fun e => hX3.2 q (by rw [ownBlock_blk] at hq; exact hq) e.symm)); skip)
               | (go_at_call 29; (have hX6 := OwnZ.ints hX5; have hA6 := OwnZ.ints ho5); (with_reducible refine (same_q (l1 ++ l2) (l1 ++ l2) _ _ (by simp) (by simp) (by have := Hll1.out; have := Hll2.out; (try rw [List.length_append]); omega) (by have := Hll1.out; have := Hll2.out; (try rw [List.length_append]); omega) X1 A5 v5.heap.size v5.heap.size q1 q5 _ hX6 hA6).mono ?_); rintro e v6 ⟨rfl, b6'⟩; have bb6 : Below wo.heap.size wo v6 := (by first | exact bth bb5 ⟨b6'.os, b6'.tape, b6'.output, b6'.size, b6'.block⟩ | exact bth (bal bb5 _) b6' | exact bth (bal bb5 _).drew b6'); rw [eqI_refl]; skip)
               | ((with_reducible show (if Region.wanted (⟨some 100, _, _, _, _, _⟩ : Oper) _ = true then _ else _)); refine step_appB _ ?_ (.tmp 98) (.tmp 99) rfl wo _ 0 _ [] rfl ?_ wo.heap.size _ _ _ y1 rfl rfl ?_ ?_ ?_ ?_; (· rfl); (· (first | exact OwnB.base (own_emptyB' v6) bb6.size | exact OwnB.base (World.ownsRow.drew (own_emptyB' v6)) bb6.size)); (· (exact HY1 _ (by first | exact bb6 | exact bb6.drew | exact bal bb6 _ | exact (bal bb6 _).drew))); (· (have := Hyl1.out; omega)); (· exact (by first | exact bb6 | exact bb6.drew | exact bal bb6 _ | exact (bal bb6 _).drew)); intro A7 q7 v7 ho7 bb7; rw [Nat.zero_add] at ho7 ⊢; rw [List.nil_append] at ho7; skip)
               | ((with_reducible show (if Region.wanted (⟨some 102, _, _, _, _, _⟩ : Oper) _ = true then _ else _)); refine step_appB _ ?_ (.tmp 100) (.tmp 101) rfl wo _ _ _ y1 rfl ?_ wo.heap.size _ _ _ y2 rfl rfl ?_ ?_ ?_ ?_; (· rfl); (· exact ho7); (· (exact HY2 _ bb7)); (· (have := Hyl1.out; have := Hyl2.out; omega)); (· exact bb7); intro A8' q8 v8 ho8 bb8; rw [← List.length_append] at ho8 ⊢; skip)
               | (go_at_call 30; (with_reducible refine (same_bq (y1 ++ y2) _ (by simp) Ao A8' wo.heap.size v8.heap.size cyo q8 _ (HY3 _ (by first | exact bb8 | exact bb8.drew | exact bal bb8 _ | exact (bal bb8 _).drew)) (by exact OwnB.ints ho8)).mono ?_); rintro e v9 ⟨rfl, b9'⟩; have bb9 : Below wo.heap.size wo v9 := (by first | exact bth bb8 ⟨b9'.os, b9'.tape, b9'.output, b9'.size, b9'.block⟩ | exact bth (bal bb8 _) b9' | exact bth (bal bb8 _).drew b9'); skip)
               | (go_at_call 20; (with_reducible refine (len_any R3 r hr1 RA6 RC6 A6 c6 bits _ (HW3 _ (by first | exact bb9 | exact bb9.drew | exact bal bb9 _ | exact (bal bb9 _).drew))).mono ?_); rintro e v10 ⟨rfl, b10'⟩; have bb10 : Below wo.heap.size wo v10 := (by first | exact bth bb9 ⟨b10'.os, b10'.tape, b10'.output, b10'.size, b10'.block⟩ | exact bth (bal bb9 _) b10' | exact bth (bal bb9 _).drew b10'); rw [Hle3.out])
               | (go_at_call 20; (with_reducible refine (len_any R r hr1 RA RC A c bits _ (HW _ (by first | exact bb10 | exact bb10.drew | exact bal bb10 _ | exact (bal bb10 _).drew))).mono ?_); rintro e v11 ⟨rfl, b11'⟩; have bb11 : Below wo.heap.size wo v11 := (by first | exact bth bb10 ⟨b11'.os, b11'.tape, b11'.output, b11'.size, b11'.block⟩ | exact bth (bal bb10 _) b11' | exact bth (bal bb10 _).drew b11'); rw [Hle1.out])
               | (go_at_call 20; (with_reducible refine (len_any R2 r hr1 RA2 RC2 A2 c2 bits _ (HW2 _ (by first | exact bb11 | exact bb11.drew | exact bal bb11 _ | exact (bal bb11 _).drew))).mono ?_); rintro e v12 ⟨rfl, b12'⟩; have bb12 : Below wo.heap.size wo v12 := (by first | exact bth bb11 ⟨b12'.os, b12'.tape, b12'.output, b12'.size, b12'.block⟩ | exact bth (bal bb11 _) b12' | exact bth (bal bb11 _).drew b12'); rw [Hle2.out]))
      all_goals have BF := bth Bo.out bb12
      all_goals go_wp2_with fail
      all_goals go_ret
      all_goals exact ⟨rfl, BF⟩
    · have hr0 : (((r : Nat) : Int) != ((r2 : Nat) : Int)) = true := by simp; omega
      have HB5 := Lib.hid B5
      clear B5
      go_wp2_with fail
      go_ret
      exact ⟨rfl, HB5.out⟩
  · have hb0 : (bits != bits2) = true := by simpa using hbb
    have HB5 := Lib.hid B5
    clear B5
    go_wp2_with fail
    go_ret
    exact ⟨rfl, HB5.out⟩
end Go.Proofs.Ytfihbcpainlpcaa
