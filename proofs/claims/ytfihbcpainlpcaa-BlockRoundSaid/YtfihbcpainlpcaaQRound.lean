/-
  BlockRound: the walk of the law.
-/
import Derived.Test.YtfihbcpainlpcaaProg
import Derived.Test.YtfihbcpainlpcaaQO
import Derived.Test.YtfihbcpainlpcaaQD
import Derived.Test.YtfihbcpainlpcaaQCa
import Derived.Test.YtfihbcpainlpcaaQJa
import Derived.Test.YtfihbcpainlpcaaQRp
namespace Go.Proofs.Ytfihbcpainlpcaa
open Go.RowKit
set_option linter.unusedVariables false
set_option linter.unusedSimpArgs false

set_option maxRecDepth 100000 in
set_option maxHeartbeats 4000000 in
theorem round_any (bi : Int) (A : Option Addr) (c r : Nat) (RA : Nat → Option Addr) (RC : Nat → Nat) (R : Nat → List Int) (hrc : r ≤ c) (hc63 : c ≤ 9223372036854775807) (rt : Int) (w : World) (h : Rw w w.heap.size A r RA RC R) (_f : (Lit.int .i64 rt).wf = true) :
    Calls Try.prog 11 #[.agg #[.int .i64 bi, .slice A r c], .int .i64 rt] w fun e w' => e = .returned (.bool true) ∧ Below w.heap.size w w' := by
  go_enter Try.func11, Try.ntmps11
  go_wp2_with fail
  obtain ⟨w1, hw1⟩ : ∃ w1, w1 = w.alloc (.cells #[.int .i64 bi, .slice A r c] 28) := ⟨_, rfl⟩
  have B1 : Below w.heap.size w w1 := by rw [hw1]; exact bal (brefl w) _
  have hz1 : w1.heap.size = w.heap.size + 1 := by rw [hw1]; simp
  have M0 : Hid (w1.heap[w.heap.size]? = some (.cells #[.int .i64 bi, .slice A r c] 28 (0, 0))) := by show _ = _; rw [hw1]; exact heap_alloc_new w _
  rw [← hw1]
  clear hw1
  (with_reducible refine (known_any _).mono ?_); rintro e w2 ⟨rfl, b2⟩
  have B2 := bth B1 b2
  have Hb2 := Lib.hid b2
  obtain ⟨k0, k1, _, _⟩ := blk_cell ((b2.block _ (by omega)).trans M0.out)
  clear b2
  go_wp2_with fail
  (with_reducible refine (small9_any R r (by omega) RA RC _ _ _ _ _ ((h.below B2).more B2.size)).mono ?_); rintro e w3 ⟨rfl, b3⟩
  have B3 := bth B2 b3
  have Hb3 := Lib.hid (bth Hb2.out b3)
  clear b3 B2 Hb2 k0 k1
  cases hsm : smallB R r 300 with
  | false =>
    go_wp2_with fail
    go_ret
    exact ⟨rfl, B3⟩
  | true =>
    obtain ⟨h12, hlen⟩ := smallB_true.1 hsm
    have HR : Hid (∀ i, i < r → (R i).length ≤ 100000) := fun i hi => by have := hlen i hi; omega
    obtain ⟨k0, k1, _, _⟩ := blk_cell ((Hb3.out.block _ (by omega)).trans M0.out)
    clear hsm
    go_wp2_with fail
    (with_reducible refine (bmayR_any R r (by omega) HR.out RA RC _ _ _ _ ((h.below B3).more B3.size)).mono ?_); rintro e w4 ⟨rfl, b4⟩
    have B4 := bth B3 b4
    have Hb4 := Lib.hid (bth Hb3.out b4)
    clear b4 B3 Hb3 k0 k1
    cases hmay : bmayB bi R r with
    | false =>
      go_wp2_with fail
      go_ret
      exact ⟨rfl, B4⟩
    | true =>
      have Hmay := Lib.hid hmay
      obtain ⟨a1, a2, a3, a4, a5, a6, a7⟩ := bmayB_true.1 hmay
      have hnl : ∀ i, i < r → (R i).length = (R 0).length := fun i hi => (a7 i hi).1
      obtain ⟨n, hn⟩ : ∃ n, n = (R 0).length := ⟨_, rfl⟩
      rw [← hn] at hnl a5 a6
      have hl0 : n ≤ 300 := by have := hlen 0 (by omega); omega
      have hle : lenI R r = (n : Int) := by unfold lenI; rw [if_neg (by omega), hn]
      have Hnl := Lib.hid hnl
      have Hn := Lib.hid hn
      have Hle := Lib.hid hle
      have HB4 := Lib.hid B4
      obtain ⟨k0, k1, _, _⟩ := blk_cell ((Hb4.out.block _ (by omega)).trans M0.out)
      clear hmay hlen hnl hn hle B4 a7
      go_wp2_with fail
      (with_reducible refine (len_any R r (by omega) RA RC _ _ _ _ ((h.below HB4.out).more HB4.out.size)).mono ?_); rintro e w5 ⟨rfl, b5⟩
      rw [Hle.out]
      have B5 := Lib.hid (bth HB4.out b5)
      have Hb5 := Lib.hid (bth Hb4.out b5)
      clear b5 Hb4 HB4 k0 k1
      by_cases hn2 : n < 2
      · have hn2I : (n : Int) < 2 := by omega
        clear hn2
        go_wp2_with fail
        go_ret
        exact ⟨rfl, B5.out⟩
      · have hn2I : (2 : Int) ≤ (n : Int) := by omega
        have hmask : bits .and .i64 rt 65535 = rt % 65536 := i64_mask rt 16 (by omega) 65535 (by decide)
        obtain ⟨q, hq⟩ : ∃ q : Int, q = rt % 65536 := ⟨_, rfl⟩
        rw [← hq] at hmask
        have q0 : 0 ≤ q := by omega
        have q1 : q < 65536 := by omega
        clear hq hn2
        obtain ⟨z, hz⟩ : ∃ z : Nat, q % ((n : Int) - 1) = (z : Int) := ⟨(q % ((n : Int) - 1)).toNat, (Int.toNat_of_nonneg (Int.emod_nonneg _ (by omega))).symm⟩
        have hz2 : z + 1 < n := by
          have := Int.emod_lt_of_pos q (show 0 < (n : Int) - 1 by omega)
          omega
        go_upto_region 9 with fail
        obtain ⟨a, ha⟩ : ∃ a : Nat, a = 1 + z := ⟨_, rfl⟩
        rw [show (1 + (z : Int)) = (a : Int) by omega]
        have ha1 : 1 ≤ a := by omega
        have ha2 : a < n := by omega
        clear hmask q0 q1 hz hz2 ha
        obtain ⟨k0, k1, _, _⟩ := blk_cell ((Hb5.out.block _ (by omega)).trans M0.out)
        have hmt := may_take Hmay.out ha1 (by have := Hn.out; omega)
        have hmd : bmayB bi (dropR R a) r = true := may_drop Hmay.out (by have := Hn.out; omega)
        obtain ⟨R1, hR1⟩ : ∃ R1, R1 = takeR R a := ⟨_, rfl⟩
        obtain ⟨R2, hR2⟩ : ∃ R2, R2 = dropR R a := ⟨_, rfl⟩
        rw [← hR1] at hmt
        rw [← hR2] at hmd
        have hRR : appR R1 R2 = R := by rw [hR1, hR2]; exact take_dropR R a
        have hl1 : (R1 0).length = a := by rw [hR1]; unfold takeR; rw [List.length_take]; have := Hn.out; omega
        have hl2 : (R2 0).length = n - a := by rw [hR2]; unfold dropR; rw [List.length_drop]; have := Hn.out; omega
        have HR1 : Hid (∀ i, i < r → (R1 i).length ≤ 100000) := fun i hi => by rw [hR1]; unfold takeR; rw [List.length_take]; have := HR.out i hi; omega
        have HR2 : Hid (∀ i, i < r → (R2 i).length ≤ 100000) := fun i hi => by rw [hR2]; unfold dropR; rw [List.length_drop]; have := HR.out i hi; omega
        obtain ⟨x1, hx1⟩ : ∃ x, x = cutB bi R r 0 (a : Int) := ⟨_, rfl⟩
        obtain ⟨x2, hx2⟩ : ∃ x, x = cutB bi R r (a : Int) (n : Int) := ⟨_, rfl⟩
        have hx1' : x1 = ⟨bi, r, fun i => ((R i).drop (0 : Int).toNat).take ((a : Int).toNat - (0 : Int).toNat), 0⟩ := by rw [hx1, cutB, if_pos Hmay.out, if_pos ⟨by omega, by omega, by have := Hn.out; omega⟩]
        have hx2' : x2 = ⟨bi, r, fun i => ((R i).drop (a : Int).toNat).take ((n : Int).toNat - (a : Int).toNat), 0⟩ := by rw [hx2, cutB, if_pos Hmay.out, if_pos ⟨by omega, by omega, by have := Hn.out; omega⟩]
        have hxR1 : ∀ i, i < r → R1 i = x1.R i := fun i hi => by
          rw [hx1', hR1]; show takeR R a i = ((R i).drop 0).take (a - 0)
          rw [List.drop_zero, Nat.sub_zero]; rfl
        have hxR2 : ∀ i, i < r → R2 i = x2.R i := fun i hi => by
          rw [hx2', hR2]; show dropR R a i = ((R i).drop (a : Int).toNat).take ((n : Int).toNat - (a : Int).toNat)
          rw [Int.toNat_natCast, Int.toNat_natCast, List.take_of_length_le (by rw [List.length_drop, Hnl.out i hi]; omega)]; rfl
        obtain ⟨x3, hx3⟩ : ∃ x, x = joinB bi R1 r bi R2 r := ⟨_, rfl⟩
        have hx3' : x3 = ⟨bi, r, fun i => R1 i ++ R2 i, 0⟩ := by rw [hx3, joinB, if_pos ⟨hmt, hmd⟩, if_pos ⟨rfl, rfl⟩, if_pos (by rw [hl1, hl2]; omega)]
        have hxR3 : ∀ i, i < r → R i = x3.R i := fun i hi => by
          rw [hx3']; show R i = appR R1 R2 i; rw [hRR]
        obtain ⟨y, hy⟩ : ∃ y, y = (packB bi R2 r).1 := ⟨_, rfl⟩
        have hpk : packB bi R2 r = (y, 0) := by rw [hy, pack_may hmd]
        have hpj : joinP (printB bi R1 r) (printB bi R2 r) ((y.length : Int)).toNat = printB bi R r := by
          have := print_app hmt hmd (by rw [hRR]; exact Hmay.out)
          rw [hRR] at this; rw [Int.toNat_natCast, this, hy]
        have hn1r : (R1 0).length * r ≤ 20000 := by rw [hl1]; exact Nat.le_trans (Nat.mul_le_mul (show a ≤ 300 by omega) a4) (by omega)
        have hn2r : (R2 0).length * r ≤ 20000 := by rw [hl2]; exact Nat.le_trans (Nat.mul_le_mul (show n - a ≤ 300 by omega) a4) (by omega)
        have hnr : (R 0).length * r ≤ 20000 := by rw [← Hn.out]; exact Nat.le_trans (Nat.mul_le_mul hl0 a4) (by omega)
        have hle1 : lenI R1 r = (a : Int) := by unfold lenI; rw [if_neg (by omega), hl1]
        have hyl : y.length ≤ 60000 := by rw [hy]; exact packB_len hn2r
        have Hx1 := Lib.hid hx1
        have Hx2 := Lib.hid hx2
        have Hx3 := Lib.hid hx3
        have HxR1 := Lib.hid hxR1
        have HxR2 := Lib.hid hxR2
        have HxR3 := Lib.hid hxR3
        have Hpk := Lib.hid hpk
        have Hpj := Lib.hid hpj
        have Hyl := Lib.hid hyl
        have Hn1r := Lib.hid hn1r
        have Hn2r := Lib.hid hn2r
        have Hnr := Lib.hid hnr
        have Hle1 := Lib.hid hle1
        have E11 : Hid (x1.r = r) := by show _ = _; rw [hx1']
        have E12 : Hid (x1.bits = bi) := by show _ = _; rw [hx1']
        have E13 : Hid (x1.code = 0) := by show _ = _; rw [hx1']
        have E21 : Hid (x2.r = r) := by show _ = _; rw [hx2']
        have E22 : Hid (x2.bits = bi) := by show _ = _; rw [hx2']
        have E23 : Hid (x2.code = 0) := by show _ = _; rw [hx2']
        have E31 : Hid (x3.r = r) := by show _ = _; rw [hx3']
        have E32 : Hid (x3.bits = bi) := by show _ = _; rw [hx3']
        have E33 : Hid (x3.code = 0) := by show _ = _; rw [hx3']
        clear hx1 hx2 hx3 hx1' hx2' hx3' hxR1 hxR2 hxR3 hpk hpj hyl hn1r hn2r hnr hle1 hmt hmd hR1 hR2 hRR hl1 hl2 hy
        go_wp2_with fail
        have t1 := cutL_any R r (by omega) HR.out RA RC A c bi 0 (a : Int) w5 ((h.below B5.out).more B5.out.size)
        rw [← Hx1.out] at t1
        (with_reducible refine t1.mono ?_); rintro e w7 hq7
        obtain ⟨A7, c7, RA7, RC7, rfl, h7', b7⟩ := hq7.elim
        rw [E11.out] at h7' ⊢
        rw [E12.out, E13.out]
        have h7 := Lib.hid (h7'.cong HxR1.out)
        have B7 := Lib.hid (bth B5.out b7)
        have ka0 : ∀ o, (w7.alloc o).cell? ⟨w.heap.size, 0, none⟩ = some (.int .i64 bi) := fun o => later (bal b7 o) k0
        have ka1 : ∀ o, (w7.alloc o).cell? ⟨w.heap.size, 1, none⟩ = some (.slice A r c) := fun o => later (bal b7 o) k1
        clear t1 hq7 h7' b7 k0 k1 Hb5 B5
        go_wp2_with fail
        obtain ⟨w8, hw8⟩ : ∃ w8, w8 = w7.alloc (.cells #[.int .i64 bi, .slice A7 r c7] 28) := ⟨_, rfl⟩
        have b8 : Below w7.heap.size w7 w8 := by rw [hw8]; exact bal (brefl w7) _
        have p0 : w8.cell? ⟨w7.heap.size, 0, none⟩ = some (.int .i64 bi) := by rw [hw8]; exact (cell_of_row _ _ _ _ _ _ (heap_alloc_new w7 _)).trans rfl
        have p1 : w8.cell? ⟨w7.heap.size, 1, none⟩ = some (.slice A7 r c7) := by rw [hw8]; exact (cell_of_row _ _ _ _ _ _ (heap_alloc_new w7 _)).trans rfl
        have k0 := ka0 (.cells #[.int .i64 bi, .slice A7 r c7] 28)
        have k1 := ka1 (.cells #[.int .i64 bi, .slice A7 r c7] 28)
        rw [← hw8] at k0 k1 ⊢
        have B8 := Lib.hid (bth B7.out b8)
        have h78 := Lib.hid ((h7.out.below b8).more b8.size)
        clear hw8 b8 ka0 ka1 h7 B7
        have t1 := cutL_any R r (by omega) HR.out RA RC A c bi (a : Int) (n : Int) w8 ((h.below B8.out).more B8.out.size)
        rw [← Hx2.out] at t1
        (with_reducible refine t1.mono ?_); rintro e w9 hq9
        obtain ⟨A9, c9, RA9, RC9, rfl, h9', b9⟩ := hq9.elim
        rw [E21.out] at h9' ⊢
        rw [E22.out, E23.out]
        have h9 := Lib.hid (h9'.cong HxR2.out)
        have B9 := Lib.hid (bth B8.out b9)
        have h79 := Lib.hid ((h78.out.below b9).more b9.size)
        have ka0 : ∀ o, (w9.alloc o).cell? ⟨w.heap.size, 0, none⟩ = some (.int .i64 bi) := fun o => later (bal b9 o) k0
        have ka1 : ∀ o, (w9.alloc o).cell? ⟨w.heap.size, 1, none⟩ = some (.slice A r c) := fun o => later (bal b9 o) k1
        have ka2 : ∀ o, (w9.alloc o).cell? ⟨w7.heap.size, 0, none⟩ = some (.int .i64 bi) := fun o => later (bal b9 o) p0
        have ka3 : ∀ o, (w9.alloc o).cell? ⟨w7.heap.size, 1, none⟩ = some (.slice A7 r c7) := fun o => later (bal b9 o) p1
        clear t1 hq9 h9' b9 k0 k1 p0 p1 h78 B8
        go_wp2_with fail
        obtain ⟨wa, hwa⟩ : ∃ wa, wa = w9.alloc (.cells #[.int .i64 bi, .slice A9 r c9] 28) := ⟨_, rfl⟩
        have ba : Below w9.heap.size w9 wa := by rw [hwa]; exact bal (brefl w9) _
        have s0 : wa.cell? ⟨w9.heap.size, 0, none⟩ = some (.int .i64 bi) := by rw [hwa]; exact (cell_of_row _ _ _ _ _ _ (heap_alloc_new w9 _)).trans rfl
        have s1 : wa.cell? ⟨w9.heap.size, 1, none⟩ = some (.slice A9 r c9) := by rw [hwa]; exact (cell_of_row _ _ _ _ _ _ (heap_alloc_new w9 _)).trans rfl
        have k0 := ka0 (.cells #[.int .i64 bi, .slice A9 r c9] 28)
        have k1 := ka1 (.cells #[.int .i64 bi, .slice A9 r c9] 28)
        have p0 := ka2 (.cells #[.int .i64 bi, .slice A9 r c9] 28)
        have p1 := ka3 (.cells #[.int .i64 bi, .slice A9 r c9] 28)
        rw [← hwa] at k0 k1 p0 p1 ⊢
        have Ba := Lib.hid (bth B9.out ba)
        have h7a := Lib.hid ((h79.out.below ba).more ba.size)
        have h9a := Lib.hid ((h9.out.below ba).more ba.size)
        clear hwa ba ka0 ka1 ka2 ka3 h79 h9 B9
        have t1 := joinL_any R1 R2 r r (by omega) (by omega) HR1.out HR2.out RA7 RA9 RC7 RC9 A7 A9 c7 c9 bi bi wa h7a.out h9a.out
        rw [← Hx3.out] at t1
        (with_reducible refine t1.mono ?_); rintro e wb hqb
        obtain ⟨Ab, cb, RAb, RCb, rfl, hb', bb⟩ := hqb.elim
        rw [E31.out] at hb' ⊢
        rw [E32.out, E33.out]
        have hb := Lib.hid (hb'.cong HxR3.out)
        have Bb := Lib.hid (bth Ba.out bb)
        have h7b := Lib.hid ((h7a.out.below bb).more bb.size)
        have h9b := Lib.hid ((h9a.out.below bb).more bb.size)
        have ka0 : ∀ o, (wb.alloc o).cell? ⟨w.heap.size, 0, none⟩ = some (.int .i64 bi) := fun o => later (bal bb o) k0
        have ka1 : ∀ o, (wb.alloc o).cell? ⟨w.heap.size, 1, none⟩ = some (.slice A r c) := fun o => later (bal bb o) k1
        have ka2 : ∀ o, (wb.alloc o).cell? ⟨w7.heap.size, 0, none⟩ = some (.int .i64 bi) := fun o => later (bal bb o) p0
        have ka3 : ∀ o, (wb.alloc o).cell? ⟨w7.heap.size, 1, none⟩ = some (.slice A7 r c7) := fun o => later (bal bb o) p1
        have ka4 : ∀ o, (wb.alloc o).cell? ⟨w9.heap.size, 0, none⟩ = some (.int .i64 bi) := fun o => later (bal bb o) s0
        have ka5 : ∀ o, (wb.alloc o).cell? ⟨w9.heap.size, 1, none⟩ = some (.slice A9 r c9) := fun o => later (bal bb o) s1
        clear t1 hqb hb' bb k0 k1 p0 p1 s0 s1 h7a h9a Ba
        go_wp2_with fail
        obtain ⟨wd, hwd⟩ : ∃ wd, wd = wb.alloc (.cells #[.int .i64 bi, .slice Ab r cb] 28) := ⟨_, rfl⟩
        have bd : Below wb.heap.size wb wd := by rw [hwd]; exact bal (brefl wb) _
        have u0 : wd.cell? ⟨wb.heap.size, 0, none⟩ = some (.int .i64 bi) := by rw [hwd]; exact (cell_of_row _ _ _ _ _ _ (heap_alloc_new wb _)).trans rfl
        have u1 : wd.cell? ⟨wb.heap.size, 1, none⟩ = some (.slice Ab r cb) := by rw [hwd]; exact (cell_of_row _ _ _ _ _ _ (heap_alloc_new wb _)).trans rfl
        have k0 := ka0 (.cells #[.int .i64 bi, .slice Ab r cb] 28)
        have k1 := ka1 (.cells #[.int .i64 bi, .slice Ab r cb] 28)
        have p0 := ka2 (.cells #[.int .i64 bi, .slice Ab r cb] 28)
        have p1 := ka3 (.cells #[.int .i64 bi, .slice Ab r cb] 28)
        have s0 := ka4 (.cells #[.int .i64 bi, .slice Ab r cb] 28)
        have s1 := ka5 (.cells #[.int .i64 bi, .slice Ab r cb] 28)
        rw [← hwd] at k0 k1 p0 p1 s0 s1 ⊢
        have Bd := Lib.hid (bth Bb.out bd)
        have h7d := Lib.hid ((h7b.out.below bd).more bd.size)
        have h9d := Lib.hid ((h9b.out.below bd).more bd.size)
        have hbd := Lib.hid ((hb.out.below bd).more bd.size)
        clear hwd bd ka0 ka1 ka2 ka3 ka4 ka5 h7b h9b hb Bb
        have tK := packBL_any R2 r (by omega) HR2.out Hn2r.out RA9 RC9 A9 c9 bi wd h9d.out
        rw [Hpk.out] at tK
        (with_reducible refine tK.mono ?_); rintro e we ⟨Ae, ce, rfl, hoe, be⟩
        have Be := Lib.hid (bth Bd.out be)
        have h7e := Lib.hid ((h7d.out.below be).more be.size)
        have h9e := Lib.hid ((h9d.out.below be).more be.size)
        have hbe := Lib.hid ((hbd.out.below be).more be.size)
        have k0' := later be k0
        have k1' := later be k1
        have p0' := later be p0
        have p1' := later be p1
        have s0' := later be s0
        have s1' := later be s1
        have u0' := later be u0
        have u1' := later be u1
        clear tK be k0 k1 p0 p1 s0 s1 u0 u1 h7d h9d hbd Bd
        go_wp2_with fail
        go_region_held3 (fun w' => w'.cell? ⟨w7.heap.size, 0, none⟩ = some (.int .i64 bi) ∧ w'.cell? ⟨w7.heap.size, 1, none⟩ = some (.slice A7 r c7) ∧ w'.cell? ⟨w9.heap.size, 0, none⟩ = some (.int .i64 bi) ∧ w'.cell? ⟨w9.heap.size, 1, none⟩ = some (.slice A9 r c9)) (first | (go_keep; done) | exact ⟨later (bf) p0', later (bf) p1', later (bf) s0', later (bf) s1'⟩ | exact ⟨later (bth bf bg) p0', later (bth bf bg) p1', later (bth bf bg) s0', later (bth bf bg) s1'⟩ | exact ⟨later (bth (bth bf bg) bh) p0', later (bth (bth bf bg) bh) p1', later (bth (bth bf bg) bh) s0', later (bth (bth bf bg) bh) s1'⟩)
          (first | (go_at_call 35; (with_reducible refine (printBL_any R1 r (by omega) HR1.out Hn1r.out RA7 RC7 A7 c7 bi _ (by first | exact h7e.out | exact (h7e.out.below (brefl we).drew).more (brefl we).drew.size)).mono ?_); rintro e wf ⟨rfl, bf'⟩; have bf : Below we.heap.size we wf := ⟨bf'.os, bf'.tape, bf'.output, bf'.size, bf'.block⟩; have h9f := Lib.hid ((h9e.out.below bf).more bf.size))
                 | (go_at_call 35; (with_reducible refine (printBL_any R2 r (by omega) HR2.out Hn2r.out RA9 RC9 A9 c9 bi _ (by first | exact h9f.out | exact (h9f.out.below (brefl wf).drew).more (brefl wf).drew.size)).mono ?_); rintro e wg ⟨rfl, bg'⟩; have bg : Below wf.heap.size wf wg := ⟨bg'.os, bg'.tape, bg'.output, bg'.size, bg'.block⟩)
                 | (go_at_call 37; (with_reducible refine (joinL_q _ _ (y.length : Int) (printB_lt bi R1 r) (printB_lt bi R2 r) (by omega) (by have := Hyl.out; omega) _).mono ?_); rintro e wh ⟨rfl, bh'⟩; have bh : Below wg.heap.size wg wh := ⟨bh'.os, bh'.tape, bh'.output, bh'.size, bh'.block⟩; rw [Hpj.out]))
        have bb := bth (bth bf bg) bh
        have k0 := later bb k0'
        have k1 := later bb k1'
        have p0 := later bb p0'
        have p1 := later bb p1'
        have u0 := later bb u0'
        have u1 := later bb u1'
        have Bh := Lib.hid (bth Be.out bb)
        have h7h := Lib.hid ((h7e.out.below bb).more bb.size)
        have hbh := Lib.hid ((hbe.out.below bb).more bb.size)
        have ea : ((a : Int) == (a : Int)) = true := by simp
        clear bb bf bg bh bf' bg' bh' k0' k1' p0' p1' s0' s1' u0' u1' h7e h9e hbe h9f Be
        go_wp2_with fail
        (with_reducible refine (len_any R1 r (by omega) RA7 RC7 A7 c7 bi wh h7h.out).mono ?_); rintro e wi ⟨rfl, bi'⟩
        rw [Hle1.out]
        have k0' := later bi' k0
        have k1' := later bi' k1
        have u0' := later bi' u0
        have u1' := later bi' u1
        have Bi := Lib.hid (bth Bh.out bi')
        have hbi := Lib.hid ((hbh.out.below bi').more bi'.size)
        have hi := Lib.hid ((h.below Bi.out).more Bi.out.size)
        clear bi' k0 k1 p0 p1 u0 u1 h7h hbh Bh
        go_wp2_with fail
        (with_reducible refine (sameBlock_any bi R r (by omega) HR.out RAb RA RCb RC Ab A _ _ cb c _ (Nat.le_refl _) (Nat.le_refl _) hbi.out hi.out).mono ?_); rintro e wj ⟨rfl, bj⟩
        have k0 := later bj k0'
        have k1 := later bj k1'
        have Bj := Lib.hid (bth Bi.out bj)
        have hj := Lib.hid ((hi.out.below bj).more bj.size)
        have ep : (((printB bi R r : Nat) : Int) == ((printB bi R r : Nat) : Int)) = true := by simp
        clear bj k0' k1' u0' u1' hbi hi Bi
        go_wp2_with fail
        (with_reducible refine (printBL_any R r (by omega) HR.out Hnr.out RA RC A c bi wj hj.out).mono ?_); rintro e wk ⟨rfl, bk⟩
        have Bk := bth Bj.out bk
        go_wp2_with fail
        go_ret
        exact ⟨rfl, Bk⟩
end Go.Proofs.Ytfihbcpainlpcaa
