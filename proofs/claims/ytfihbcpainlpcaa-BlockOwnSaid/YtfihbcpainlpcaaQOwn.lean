/-
  BlockOwn: the walk of the law.
-/
import Derived.Test.YtfihbcpainlpcaaProg
import Derived.Test.YtfihbcpainlpcaaQO
import Derived.Test.YtfihbcpainlpcaaQD
import Derived.Test.YtfihbcpainlpcaaQCa
import Derived.Test.YtfihbcpainlpcaaQOw
namespace Go.Proofs.Ytfihbcpainlpcaa
open Go.RowKit
set_option linter.unusedVariables false
set_option linter.unusedSimpArgs false

set_option maxRecDepth 100000 in
set_option maxHeartbeats 4000000 in
theorem own_any (bi : Int) (A : Option Addr) (c r : Nat) (RA : Nat → Option Addr) (RC : Nat → Nat) (R : Nat → List Int) (hrc : r ≤ c) (hc63 : c ≤ 9223372036854775807) (w : World) (h : Rw w w.heap.size A r RA RC R) :
    Calls Try.prog 5 #[.agg #[.int .i64 bi, .slice A r c]] w fun e w' => e = .returned (.bool true) ∧ Below w.heap.size w w' := by
  go_enter Try.func5, Try.ntmps5
  go_wp2_with fail
  obtain ⟨w1, hw1⟩ : ∃ w1, w1 = w.alloc (.cells #[.int .i64 bi, .slice A r c] 28) := ⟨_, rfl⟩
  have B1 : Below w.heap.size w w1 := by rw [hw1]; exact bal (brefl w) _
  have hz1 : w1.heap.size = w.heap.size + 1 := by rw [hw1]; simp
  have M0 : Hid (w1.heap[w.heap.size]? = some (.cells #[.int .i64 bi, .slice A r c] 28 (0, 0))) := by show _ = _; rw [hw1]; exact heap_alloc_new w _
  rw [← hw1]
  clear hw1
  (with_reducible refine (known_any _).mono ?_); rintro e w2 ⟨rfl, b2⟩
  have B2 := bth B1 b2
  have Hb2 := Lib.hid b2
  obtain ⟨k0, k1, _, _⟩ := blk_cell ((b2.block _ (by omega)).trans M0.out)
  clear b2
  go_wp2_with fail
  (with_reducible refine (small9_any R r (by omega) RA RC _ _ _ _ _ ((h.below B2).more B2.size)).mono ?_); rintro e w3 ⟨rfl, b3⟩
  have B3 := bth B2 b3
  have Hb3 := Lib.hid (bth Hb2.out b3)
  clear b3 B2 Hb2 k0 k1
  cases hsm : smallB R r 200 with
  | false =>
    go_wp2_with fail
    go_ret
    exact ⟨rfl, B3⟩
  | true =>
    obtain ⟨h12, hlen⟩ := smallB_true.1 hsm
    have HR : Hid (∀ i, i < r → (R i).length ≤ 100000) := fun i hi => by have := hlen i hi; omega
    obtain ⟨k0, k1, _, _⟩ := blk_cell ((Hb3.out.block _ (by omega)).trans M0.out)
    clear hsm
    go_wp2_with fail
    (with_reducible refine (bmayR_any R r (by omega) HR.out RA RC _ _ _ _ ((h.below B3).more B3.size)).mono ?_); rintro e w4 ⟨rfl, b4⟩
    have B4 := bth B3 b4
    have Hb4 := Lib.hid (bth Hb3.out b4)
    clear b4 B3 Hb3 k0 k1
    cases hmay : bmayB bi R r with
    | false =>
      go_wp2_with fail
      go_ret
      exact ⟨rfl, B4⟩
    | true =>
      have Hmay := Lib.hid hmay
      obtain ⟨a1, a2, a3, a4, a5, a6, a7⟩ := bmayB_true.1 hmay
      have hnl : ∀ i, i < r → (R i).length = (R 0).length := fun i hi => (a7 i hi).1
      obtain ⟨n, hn⟩ : ∃ n, n = (R 0).length := ⟨_, rfl⟩
      rw [← hn] at hnl a5 a6
      have hl0 : n ≤ 200 := by have := hlen 0 (by omega); omega
      have hle : lenI R r = (n : Int) := by unfold lenI; rw [if_neg (by omega), hn]
      obtain ⟨x, hx⟩ : ∃ x, x = cutB bi R r 0 (n : Int) := ⟨_, rfl⟩
      have hx2 : x = ⟨bi, r, fun i => ((R i).drop (0 : Int).toNat).take ((n : Int).toNat - (0 : Int).toNat), 0⟩ := by rw [hx, cutB, if_pos Hmay.out, if_pos ⟨by omega, by omega, by rw [hn]; omega⟩]
      have hxR : ∀ i, i < r → R i = x.R i := fun i hi => by
        rw [hx2]; show _ = ((R i).drop 0).take (n - 0)
        rw [List.drop_zero, Nat.sub_zero, List.take_of_length_le (by rw [hnl i hi]; omega)]
      have Hnl := Lib.hid hnl
      have Hn := Lib.hid hn
      have Hle := Lib.hid hle
      have He1 : Hid (x.r = r) := by show _ = _; rw [hx2]
      have He2 : Hid (x.bits = bi) := by show _ = _; rw [hx2]
      have He3 : Hid (x.code = 0) := by show _ = _; rw [hx2]
      have HxR := Lib.hid hxR
      have Hx := Lib.hid hx
      have HB4 := Lib.hid B4
      obtain ⟨k0, k1, _, _⟩ := blk_cell ((Hb4.out.block _ (by omega)).trans M0.out)
      clear hmay hlen hnl hn hle hx hx2 hxR B4 a7
      go_wp2_with fail
      (with_reducible refine (len_any R r (by omega) RA RC _ _ _ _ ((h.below HB4.out).more HB4.out.size)).mono ?_); rintro e w5 ⟨rfl, b5⟩
      rw [Hle.out]
      have B5 := Lib.hid (bth HB4.out b5)
      have Hb5 := Lib.hid (bth Hb4.out b5)
      obtain ⟨k0', k1', _, _⟩ := blk_cell ((Hb5.out.block _ (by omega)).trans M0.out)
      have ka0 : ∀ o, (w5.alloc o).cell? ⟨w.heap.size, 0, none⟩ = some (.int .i64 bi) := fun o => later (bal (brefl w5) o) k0'
      have ka1 : ∀ o, (w5.alloc o).cell? ⟨w.heap.size, 1, none⟩ = some (.slice A r c) := fun o => later (bal (brefl w5) o) k1'
      clear b5 Hb4 HB4 k0 k1 k0' k1'
      go_wp2_with fail
      obtain ⟨w6, hw6⟩ : ∃ w6, w6 = w5.alloc (.cells #[.int .i64 0, .int .i64 (n : Int)] 35) := ⟨_, rfl⟩
      have b6 : Below w5.heap.size w5 w6 := by rw [hw6]; exact bal (brefl w5) _
      have Ms : Hid (w6.heap[w5.heap.size]? = some (.cells #[.int .i64 0, .int .i64 (n : Int)] 35 (0, 0))) := by show _ = _; rw [hw6]; exact heap_alloc_new w5 _
      have hws5 : w5.heap.size < w6.heap.size := by rw [hw6]; simp
      rw [← hw6]
      have B6 := Lib.hid (bth B5.out b6)
      have Hb6 := Lib.hid (bth Hb5.out b6)
      have hw05 : w.heap.size < w6.heap.size := by have := Hb6.out.size; omega
      clear hw6 b6 ka0 ka1 Hb5 B5
      have t1 := cutL_any R r (by omega) HR.out RA RC A c bi 0 (n : Int) w6 ((h.below B6.out).more B6.out.size)
      rw [← Hx.out] at t1
      (with_reducible refine t1.mono ?_); rintro e w7 ⟨A7, c7, RA7, RC7, rfl, ho7', b7⟩
      have ho7 : Hid (OwnV w7 w6.heap.size A7 r c7 RA7 RC7 R) := by show OwnV _ _ _ _ _ _ _ _; rw [He1.out] at ho7'; exact ho7'.cong HxR.out
      rw [He1.out, He2.out, He3.out]
      have B7 := Lib.hid (bth B6.out b7)
      have Hb7 := Lib.hid (bth Hb6.out b7)
      have Ms7 : Hid (w7.heap[w5.heap.size]? = _) := (b7.block _ hws5).trans Ms.out
      have hws7 : w5.heap.size < w7.heap.size := Nat.lt_of_lt_of_le hws5 b7.size
      have hs67 := b7.size
      obtain ⟨k0, k1, _, _⟩ := blk_cell ((Hb7.out.block _ (by omega)).trans M0.out)
      obtain ⟨s0, s1⟩ := span_cell Ms7.out
      have ka0 : ∀ o, (w7.alloc o).cell? ⟨w.heap.size, 0, none⟩ = some (.int .i64 bi) := fun o => later (bal (brefl w7) o) k0
      have ka1 : ∀ o, (w7.alloc o).cell? ⟨w.heap.size, 1, none⟩ = some (.slice A r c) := fun o => later (bal (brefl w7) o) k1
      have ka2 : ∀ o, (w7.alloc o).cell? ⟨w5.heap.size, 0, none⟩ = some (.int .i64 0) := fun o => later (bal (brefl w7) o) s0
      have ka3 : ∀ o, (w7.alloc o).cell? ⟨w5.heap.size, 1, none⟩ = some (.int .i64 (n : Int)) := fun o => later (bal (brefl w7) o) s1
      clear t1 ho7' b7 Hb6 B6 Ms k0 k1 s0 s1
      go_wp2_with fail
      obtain ⟨w8, hw8⟩ : ∃ w8, w8 = w7.alloc (.cells #[.int .i64 bi, .slice A7 r c7] 28) := ⟨_, rfl⟩
      have b8 : Below w7.heap.size w7 w8 := by rw [hw8]; exact bal (brefl w7) _
      have Mc : Hid (w8.heap[w7.heap.size]? = some (.cells #[.int .i64 bi, .slice A7 r c7] 28 (0, 0))) := by show _ = _; rw [hw8]; exact heap_alloc_new w7 _
      have hws8 : w7.heap.size < w8.heap.size := by rw [hw8]; simp
      rw [← hw8]
      have B8 := Lib.hid (bth B7.out b8)
      have Hb8 := Lib.hid (bth Hb7.out b8)
      have H78 := Lib.hid b8
      clear hw8 b8 ka0 ka1 ka2 ka3 Hb7 B7
      have t1 := cutL_any R r (by omega) HR.out RA RC A c bi 0 (n : Int) w8 ((h.below B8.out).more B8.out.size)
      rw [← Hx.out] at t1
      (with_reducible refine t1.mono ?_); rintro e w9 ⟨A9, c9, RA9, RC9, rfl, ho9', b9⟩
      have ho9 : Hid (OwnV w9 w8.heap.size A9 r c9 RA9 RC9 R) := by show OwnV _ _ _ _ _ _ _ _; rw [He1.out] at ho9'; exact ho9'.cong HxR.out
      rw [He1.out, He2.out, He3.out]
      have B9 := Lib.hid (bth B8.out b9)
      have Hb9 := Lib.hid (bth Hb8.out b9)
      have H79 := Lib.hid (bth H78.out b9)
      have Mc9 : Hid (w9.heap[w7.heap.size]? = _) := (b9.block _ hws8).trans Mc.out
      have hs89 := b9.size
      clear t1 ho9' b9 Hb8 B8 Mc H78
      go_upto_region 8 with fail
      obtain ⟨wx, hwx⟩ : ∃ wx, wx = w9.alloc (.cells #[.int .i64 bi, .slice A9 r c9] 28) := ⟨_, rfl⟩
      have bx : Below w9.heap.size w9 wx := by rw [hwx]; exact bal (brefl w9) _
      have Md : Hid (wx.heap[w9.heap.size]? = some (.cells #[.int .i64 bi, .slice A9 r c9] 28 (0, 0))) := by show _ = _; rw [hwx]; exact heap_alloc_new w9 _
      have hwsx : w9.heap.size < wx.heap.size := by rw [hwx]; simp
      rw [← hwx]
      have Bx := Lib.hid (bth B9.out bx)
      have H7x := Lib.hid (bth H79.out bx)
      have Hbx := Lib.hid (bth Hb9.out bx)
      have Mcx : Hid (wx.heap[w7.heap.size]? = _) := (bx.block _ (by omega)).trans Mc9.out
      have Msx : Hid (wx.heap[w5.heap.size]? = _) := (H7x.out.block _ hws7).trans Ms7.out
      have Mbx : Hid (wx.heap[w.heap.size]? = _) := (Hbx.out.block _ (by omega)).trans M0.out
      have ho7x := ho7.out.below H7x.out (Nat.le_refl _)
      have ho9x : Hid (OwnV wx w8.heap.size A9 r c9 RA9 RC9 R) := ho9.out.below bx (Nat.le_refl _)
      obtain ⟨gm, rfl, hgm1, hgm2, _⟩ := ho7.out.addr (by omega)
      have Hst : Hid (OwnR w6.heap.size w7.heap.size gm r c7 n wx 0 wx) := ⟨⟨RA7, RC7, R, ho7x, fun j _ hj => Hnl.out j hj, fun j hj q hq => .inl (ho7.out.lt q (.inr ⟨j, hj, hq⟩)).2⟩, Kp.refl _ _⟩
      clear hwx bx B9 H79 Mc9 Ms7 ho7x ho7 ho9 H7x M0 Hb9
      go_wp2_with fail
      go_loopw [8] (fun iv wr => ∃ i : Nat, i ≤ r ∧ iv = .int .i64 i ∧ OwnR w6.heap.size w7.heap.size gm r c7 n wx i wr) (fun iv _ => r - (intOf iv).toNat)
      case atStart => exact ⟨0, Nat.zero_le _, rfl, Hst.out⟩
      case round =>
        obtain ⟨i, hi, rfl, hP⟩ := hrel
        obtain ⟨wo, rfl⟩ : ∃ wo : World, wo = wr := ⟨_, rfl⟩
        have HP := Lib.hid hP
        clear hP
        obtain ⟨_, j1, _, _⟩ := blk_cell ((HP.out.2.block w7.heap.size (by omega) (by omega)).trans Mcx.out)
        by_cases hlt : i < r
        · have hI : (i : Int) < (r : Int) := by omega
          have hI0 : (0 : Int) ≤ (i : Int) := by omega
          have Hlt := Lib.hid hlt
          clear hlt
          go_wp2_with fail
          clear j1
          go_loopw [9] (fun kv wq => ∃ k : Nat, k ≤ n ∧ kv = .int .i64 k ∧ OwnR w6.heap.size w7.heap.size gm r c7 n wx i wq) (fun kv _ => n - (intOf kv).toNat)
          case atStart => exact ⟨0, Nat.zero_le _, rfl, HP.out⟩
          case round =>
            clear HP
            obtain ⟨k, hk, rfl, hP⟩ := hrel
            obtain ⟨wo, rfl⟩ : ∃ wo : World, wo = wr := ⟨_, rfl⟩
            obtain ⟨⟨RA2, RC2, R2, ho, hn2, hq⟩, hkp⟩ := hP
            have hlt := Hlt.out
            obtain ⟨_, j1, _, _⟩ := blk_cell ((hkp.block w7.heap.size (by omega) (by omega)).trans Mcx.out)
            obtain ⟨_, eg, hg1, hg2, hcells⟩ := ho.addr (by omega)
            simp only [Option.some.injEq, Addr.mk.injEq, and_true] at eg
            subst eg
            have hcu := hcells i hlt
            rw [hn2 i (Nat.le_refl _) hlt] at hcu
            have hl2 := hn2 i (Nat.le_refl _) hlt
            have hIn := ho.inner i hlt
            rw [hl2] at hIn
            obtain ⟨g, eg2, hg3, hg4⟩ := own_addr hIn (by omega)
            have Hlt2 := Lib.hid hlt
            have hfz := World.ownsRow.frozenAt ho.outer i
            have hsz := hkp.size
            by_cases hkn : k < n
            · have hK : (k : Int) < (n : Int) := by omega
              have hK0 : (0 : Int) ≤ (k : Int) := by omega
              rw [eg2] at hIn hcu
              have hck := own_cell hIn hkn
              have hfk := World.ownsRow.frozenAt hIn k
              have hPs : Hid (OwnR w6.heap.size w7.heap.size gm r c7 n wx i (wo.setCell ⟨g, k, none⟩ (.int .i64 1099511627776))) := OwnR.set_ ho hn2 hq hkp hlt eg2 _
              clear hlt ho hn2 hq hkp hIn hcells hl2 hsz
              go_wp2_with fail
              go_roundw
              case rel => exact ⟨k + 1, by omega, by go_num, hPs.out⟩
              case measure => simp [intOf]; omega
            · obtain rfl : n = k := by omega
              clear hkn
              go_upto_region 17 with fail
              have hI' := Lib.hid hIn
              have Ho := Lib.hid ho
              have Hn2 := Lib.hid hn2
              have Hq := Lib.hid hq
              have Hkp := Lib.hid hkp
              have hne1 : some w7.heap.size ≠ blkOf (RA2 i) := fun e => by have := hq i hlt w7.heap.size e.symm; omega
              have hne2 : some gm ≠ blkOf (RA2 i) := fun e => ho.osep i hlt gm rfl e.symm
              have gbo : w7.heap.size < wo.heap.size := by omega
              obtain ⟨i0, hi0, hz0, hz1', hz2⟩ := info_parts intInfo
              clear hcells hIn ho hn2 hq hkp hlt hl2 hsz hg3 hg4 eg2
              refine wp_region_last 11 (fun w' => w'.cell? ⟨w7.heap.size, 1, none⟩ = some (.slice (some ⟨gm, 0, none⟩) r c7) ∧ w'.cell? ⟨gm, i, none⟩ = some (.slice (RA2 i) n (RC2 i))) (by kernel_rfl) (by kernel_rfl) (⟨j1, hcu⟩) (fun hHeld => ?_)
              simp only [List.pop_toArray, List.dropLast_cons_cons, List.dropLast_singleton]
              refine wpAnyH_take (i := 0) (oi := ?o0) (v := ?v0) ?hi0 (by kernel_rfl) (by kernel_rfl) (by kernel_rfl) ?hq0 (Or.inl ⟨?hw0, ?hy0⟩) (by assumption) ?rest0
              case hi0 => (simp only [List.getElem?_toArray, List.getElem?_cons_zero, List.getElem?_cons_succ]; exact rfl)
              case hw0 => rfl
              case hq0 => exact fun _ _ _ h => h
              case hy0 => (intro wv hSw; (try dsimp only at hSw); go_simp; try with_reducible rfl)
              try simp only [Act.put, List.setIfInBounds_toArray, List.set_cons_zero, List.set_cons_succ]
              refine wpAnyH_take (i := 1) (oi := ?o1) (v := ?v1) ?hi1 (by kernel_rfl) (by kernel_rfl) (by kernel_rfl) ?hq1 (Or.inl ⟨?hw1, ?hy1⟩) (by assumption) ?rest1
              case hi1 => (simp only [List.getElem?_toArray, List.getElem?_cons_zero, List.getElem?_cons_succ]; exact rfl)
              case hw1 => rfl
              case hq1 => exact fun _ _ _ h => h
              case hy1 => (intro wv hSw; (try dsimp only at hSw); go_simp; try with_reducible rfl)
              try simp only [Act.put, List.setIfInBounds_toArray, List.set_cons_zero, List.set_cons_succ]
              refine wpAnyH_take (i := 2) (oi := ?o2) (v := ?v2) ?hi2 (by kernel_rfl) (by kernel_rfl) (by kernel_rfl) ?hq2 (Or.inl ⟨?hw2, ?hy2⟩) (by assumption) ?rest2
              case hi2 => (simp only [List.getElem?_toArray, List.getElem?_cons_zero, List.getElem?_cons_succ]; exact rfl)
              case hw2 => rfl
              case hq2 => exact fun _ _ _ h => h
              case hy2 => (intro wv hSw; (try dsimp only at hSw); go_simp; try with_reducible rfl)
              try simp only [Act.put, List.setIfInBounds_toArray, List.set_cons_zero, List.set_cons_succ]
              refine wpAnyH_take (i := 3) (oi := ?o3) (v := ?v3) ?hi3 (by kernel_rfl) (by kernel_rfl) (by kernel_rfl) ?hq3 (Or.inl ⟨?hw3, ?hy3⟩) (by assumption) ?rest3
              case hi3 => (simp only [List.getElem?_toArray, List.getElem?_cons_zero, List.getElem?_cons_succ]; exact rfl)
              case hw3 => rfl
              case hq3 => exact fun _ _ _ h => h
              case hy3 => (intro wv hSw; (try dsimp only at hSw); go_simp; try with_reducible rfl)
              try simp only [Act.put, List.setIfInBounds_toArray, List.set_cons_zero, List.set_cons_succ]
              refine wpAnyH_take (i := 4) (oi := ?o4) (v := ?v4) ?hi4 (by kernel_rfl) (by kernel_rfl) (by kernel_rfl) ?hq4 (Or.inl ⟨?hw4, ?hy4⟩) (by assumption) ?rest4
              case hi4 => (simp only [List.getElem?_toArray, List.getElem?_cons_zero, List.getElem?_cons_succ]; exact rfl)
              case hw4 => rfl
              case hq4 => exact fun _ _ _ h => h
              case hy4 => (intro wv hSw; (try dsimp only at hSw); go_simp; try with_reducible rfl)
              try simp only [Act.put, List.setIfInBounds_toArray, List.set_cons_zero, List.set_cons_succ]
              refine wpAnyH_take (i := 5) (oi := ?o5) (v := ?v5) ?hi5 (by kernel_rfl) (by kernel_rfl) (by kernel_rfl) ?hq5 (Or.inl ⟨?hw5, ?hy5⟩) (by assumption) ?rest5
              case hi5 => (simp only [List.getElem?_toArray, List.getElem?_cons_zero, List.getElem?_cons_succ]; exact rfl)
              case hw5 => rfl
              case hq5 => exact fun _ _ _ h => h
              case hy5 => (intro wv hSw; (try dsimp only at hSw); go_simp; try with_reducible rfl)
              try simp only [Act.put, List.setIfInBounds_toArray, List.set_cons_zero, List.set_cons_succ]
              refine wpAnyH_take (i := 6) (oi := ?o6) (v := ?v6) ?hi6 (by kernel_rfl) (by kernel_rfl) (by kernel_rfl) ?hq6 (Or.inl ⟨?hw6, ?hy6⟩) (by assumption) ?rest6
              case hi6 => (simp only [List.getElem?_toArray, List.getElem?_cons_zero, List.getElem?_cons_succ]; exact rfl)
              case hw6 => rfl
              case hq6 => exact fun _ _ _ h => h
              case hy6 => (intro wv hSw; (try dsimp only at hSw); go_simp; try with_reducible rfl)
              try simp only [Act.put, List.setIfInBounds_toArray, List.set_cons_zero, List.set_cons_succ]
              refine wpAnyH_take (i := 7) (oi := ?o7) (v := ?v7) ?hi7 (by kernel_rfl) (by kernel_rfl) (by kernel_rfl) ?hq7 (Or.inl ⟨?hw7, ?hy7⟩) (by assumption) ?rest7
              case hi7 => (simp only [List.getElem?_toArray, List.getElem?_cons_zero, List.getElem?_cons_succ]; exact rfl)
              case hw7 => rfl
              case hq7 => exact fun _ _ _ h => h
              case hy7 => (intro wv hSw; (try dsimp only at hSw); go_simp; try with_reducible rfl)
              try simp only [Act.put, List.setIfInBounds_toArray, List.set_cons_zero, List.set_cons_succ]
              refine wpAnyH_ready (rs := [8]) (by kernel_rfl) (by simp) ?_
              refine AllReadyH.cons (o := ?o8) ?hi8 (fun K hK => ?rest8) AllReadyH.nil
              case hi8 => (simp only [List.getElem?_toArray, List.getElem?_cons_zero, List.getElem?_cons_succ]; exact rfl)
              go_simp
              refine hK.out _ _ (⟨later (bal (brefl wo) _) j1, later (bal (brefl wo) _) hcu⟩) (fun hHeld => ?_)
              clear hK K
              try simp only [Act.put, List.setIfInBounds_toArray, List.set_cons_zero, List.set_cons_succ]
              refine wpAnyH_ready (rs := [9]) (by kernel_rfl) (by simp) ?_
              refine AllReadyH.cons (o := ?o9) ?hi9 (fun K hK => ?rest9) AllReadyH.nil
              case hi9 => (simp only [List.getElem?_toArray, List.getElem?_cons_zero, List.getElem?_cons_succ]; exact rfl)
              refine step_app _ rfl (.tmp 74) (.tmp 75) 22 rfl w6.heap.size 3 i0 _ 1 8 Try.underlying22 hi0 hz0 hz1' hz2 rfl (by omega) (.slice (RA2 i) n (RC2 i)) n _ rfl (hI'.out.alloc _) _ _ 1 1 _ rfl rfl (by first | exact rd_new1d _ _ _ | exact rd_new1 _ _ _) (by simp [Value.oneCell']) (by simp only [maxLen]; omega) (by omega) (by simp; omega) ?_
              intro A4 k4 w4 ho4 hg4 hat4
              rw [ownBlock_blk] at hg4
              rw [ownBlock_blk, ownBlock_blk] at hat4
              have kb4 : ∀ g, some g ≠ blkOf (RA2 i) → g < wo.heap.size → w4.heap[g]? = wo.heap[g]? := (fun g h1 h2 => (hg4.block g (by simp; omega) h1).trans (Below.heap_alloc _ _ _ h2))
              have q4 : w4.cell? ⟨w7.heap.size, 1, none⟩ = some (.slice (some ⟨gm, 0, none⟩) r c7) := (World.cell?_of_block (kb4 w7.heap.size hne1 gbo)).trans j1
              have q5 : w4.cell? ⟨gm, i, none⟩ = some (.slice (RA2 i) n (RC2 i)) := (World.cell?_of_block (kb4 gm hne2 hg2)).trans hcu
              have q6 : w4.frozen? ⟨gm, i, none⟩ = false := (World.frozen?_of_block (kb4 gm hne2 hg2)).trans hfz
              refine hK.out _ _ (⟨q4, q5⟩) (fun hHeld => ?_)
              clear hK K
              try simp only [Act.put, List.setIfInBounds_toArray, List.set_cons_zero, List.set_cons_succ]
              refine wpAnyH_take (i := 10) (oi := ?o10) (v := ?v10) ?hi10 (by kernel_rfl) (by kernel_rfl) (by kernel_rfl) ?hq10 (Or.inl ⟨?hw10, ?hy10⟩) (by assumption) ?rest10
              case hi10 => (simp only [List.getElem?_toArray, List.getElem?_cons_zero, List.getElem?_cons_succ]; exact rfl)
              case hw10 => rfl
              case hq10 => exact fun _ _ _ h => h
              case hy10 => (intro wv hSw; (try dsimp only at hSw); go_simp; try with_reducible rfl)
              try simp only [Act.put, List.setIfInBounds_toArray, List.set_cons_zero, List.set_cons_succ]
              refine wpAnyH_done (by kernel_rfl) ?_ _
              refine popQ_step (o := ?o11) ?hi11 (fun K hK => ?rest11)
              case hi11 => (simp only [List.getElem?_toArray, List.getElem?_cons_zero, List.getElem?_cons_succ]; exact rfl)
              go_simp
              refine hK _ _ ?_
              clear hK K
              have hz4 : OwnZ w4 w6.heap.size A4 (n + 1) k4 (R2 i ++ [7]) := by unfold OwnZ; rw [List.map_append]; exact ho4
              have hPs := Lib.hid (OwnR.app Ho.out Hn2.out Hq.out Hkp.out Hlt2.out hz4 hg4 hat4 ⟨hgm1, hgm2⟩)
              clear hz4 ho4 hg4 hat4 kb4 q4 q5 q6 hHeld
              go_wp2_with fail
              go_roundw
              case rel => exact ⟨i + 1, by have := Hlt2.out; omega, by go_num, hPs.out⟩
              case measure => have := Hlt2.out; simp [intOf]; omega
        · obtain rfl : r = i := by omega
          clear hlt
          obtain ⟨_, hkp⟩ := HP.out
          have Bo := Lib.hid (Bx.out.trans (hkp.below (B := w.heap.size) (fun q hq => by omega) (by omega)))
          obtain ⟨k0, k1, _, _⟩ := blk_cell ((hkp.block w.heap.size (by omega) (by omega)).trans Mbx.out)
          obtain ⟨s0, s1⟩ := span_cell ((hkp.block w5.heap.size (by omega) (by omega)).trans Msx.out)
          obtain ⟨e0, e1, _, _⟩ := blk_cell ((hkp.block w9.heap.size (by omega) (by omega)).trans Md.out)
          have hd : Hid (OwnV wo w8.heap.size A9 r c9 RA9 RC9 R) := ho9x.out.other fun q hq => by
            have := ho9x.out.lt q hq
            exact hkp.block q this.2 (by omega)
          clear hkp HP
          go_wp2_with fail
          have t1 := cutL_any R r (by omega) HR.out RA RC A c bi 0 (n : Int) wo ((h.below Bo.out).more Bo.out.size)
          rw [← Hx.out] at t1
          (with_reducible refine t1.mono ?_); rintro e wp hqp
          obtain ⟨Ap, cp, RAp, RCp, rfl, hp', bp⟩ := hqp.elim
          rw [He1.out] at hp' ⊢
          rw [He2.out, He3.out]
          have hp := Lib.hid (hp'.cong HxR.out)
          have Bp := Lib.hid (bth Bo.out bp)
          have hdp := Lib.hid ((hd.out.rw.below bp).more bp.size)
          have ka0 : ∀ o, (wp.alloc o).cell? ⟨w.heap.size, 0, none⟩ = some (.int .i64 bi) := fun o => later (bal bp o) k0
          have ka1 : ∀ o, (wp.alloc o).cell? ⟨w.heap.size, 1, none⟩ = some (.slice A r c) := fun o => later (bal bp o) k1
          have ka2 : ∀ o, (wp.alloc o).cell? ⟨w9.heap.size, 0, none⟩ = some (.int .i64 bi) := fun o => later (bal bp o) e0
          have ka3 : ∀ o, (wp.alloc o).cell? ⟨w9.heap.size, 1, none⟩ = some (.slice A9 r c9) := fun o => later (bal bp o) e1
          clear t1 hqp bp hp' k0 k1 s0 s1 e0 e1 Bo hd j1
          go_wp2_with fail
          obtain ⟨wa, hwa⟩ : ∃ wa, wa = wp.alloc (.cells #[.int .i64 bi, .slice Ap r cp] 28) := ⟨_, rfl⟩
          have ba : Below wp.heap.size wp wa := by rw [hwa]; exact bal (brefl wp) _
          have n0 : wa.cell? ⟨wp.heap.size, 0, none⟩ = some (.int .i64 bi) := by rw [hwa]; exact (cell_of_row _ _ _ _ _ _ (heap_alloc_new wp _)).trans rfl
          have n1 : wa.cell? ⟨wp.heap.size, 1, none⟩ = some (.slice Ap r cp) := by rw [hwa]; exact (cell_of_row _ _ _ _ _ _ (heap_alloc_new wp _)).trans rfl
          have m0 := ka0 (.cells #[.int .i64 bi, .slice Ap r cp] 28)
          have m1 := ka1 (.cells #[.int .i64 bi, .slice Ap r cp] 28)
          rw [← hwa] at m0 m1 ⊢
          have Ba := Lib.hid (bth Bp.out ba)
          have hpa := Lib.hid ((hp.out.below ba).more ba.size)
          have hda := Lib.hid ((hdp.out.below ba).more ba.size)
          have ha := Lib.hid ((h.below Ba.out).more Ba.out.size)
          clear hwa ba ka0 ka1 ka2 ka3 hp hdp Bp
          (with_reducible refine (sameBlock_any bi R r (by omega) HR.out RA9 RA RC9 RC A9 A _ _ c9 c _ (Nat.le_refl _) (Nat.le_refl _) hda.out ha.out).mono ?_); rintro e wb ⟨rfl, bb⟩
          have m0' := later bb m0
          have m1' := later bb m1
          have n0' := later bb n0
          have n1' := later bb n1
          have Bb := Lib.hid (bth Ba.out bb)
          have hpb := Lib.hid ((hpa.out.below bb).more bb.size)
          have hb := Lib.hid ((ha.out.below bb).more bb.size)
          clear bb m0 m1 n0 n1 hda ha hpa Ba
          go_wp2_with fail
          (with_reducible refine (sameBlock_any bi R r (by omega) HR.out RAp RA RCp RC Ap A _ _ cp c _ (Nat.le_refl _) (Nat.le_refl _) hpb.out hb.out).mono ?_); rintro e we ⟨rfl, be⟩
          have m0 := later be m0'
          have m1 := later be m1'
          have Be := Lib.hid (bth Bb.out be)
          have he := Lib.hid ((hb.out.below be).more be.size)
          clear be m0' m1' n0' n1' hpb hb Bb
          go_wp2_with fail
          have tM := bmayL_any R r (by omega) HR.out RA RC A c bi we he.out
          rw [Hmay.out] at tM
          (with_reducible refine tM.mono ?_); rintro e wf ⟨rfl, bf⟩
          have Bf := bth Be.out bf
          go_wp2_with fail
          go_ret
          exact ⟨rfl, Bf⟩
end Go.Proofs.Ytfihbcpainlpcaa
