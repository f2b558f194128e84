/-
  BlockPart of the reference.
-/
import Derived.Test.YtfihbcpainlpcaaProg
import Derived.Test.YtfihbcpainlpcaaQPa
namespace Go.Proofs.Ytfihbcpainlpcaa
open Go.RowKit
set_option linter.unusedVariables false
set_option linter.unusedSimpArgs false

theorem PartR.drewN {w2 wx wr : World} {gm ch : Nat} {l : List Int} {j : Nat} (h : PartR w2 wx gm ch l j wr) (k : Nat) : PartR w2 wx gm ch l j (wr.drewN k) := by
  obtain ⟨⟨RA, RC, ho, hq⟩, hk⟩ := h
  exact ⟨⟨RA, RC, ho.drewN k, hq⟩, hk.drewN k⟩

set_option maxRecDepth 100000 in
set_option maxHeartbeats 4000000 in
theorem partR_any (l : List Int) (n : Nat) (hn : n = l.length) (hm : n ≤ 60000) (rate ch bits : Int) (A : Option Addr) (c : Nat) (w : World) (ha : Ints .i64 w w.heap.size A l) :
    Calls Try.prog 14 #[.slice A n c, .agg #[.int .i64 rate, .int .i64 ch, .int .i64 bits]] w (BlkQ (partB l rate ch bits) w) := by
  have Hn := Lib.hid hn
  clear hn
  cases hrt : rightB rate ch bits with
  | false =>
    have hr := Lib.hid (part_no (l := l) hrt)
    have Hrt := Lib.hid hrt
    clear hrt
    go_enter Try.func14, Try.ntmps14
    go_wp2_with fail
    obtain ⟨w1, hw1, hz1, B1, m1, m2⟩ := part_boxes w rate ch bits
    rw [← hw1]
    clear hw1
    (with_reducible refine (rightR_any _ _ _ _).mono ?_); rintro e w2 ⟨rfl, b2⟩
    rw [Hrt.out]
    obtain ⟨d0, d1, f0, f1⟩ := blk_cell ((b2.block _ (by omega)).trans m2)
    have B2 := bth B1 b2
    go_wp2_with fail
    refine bodyPost_ret (results_blk rfl _ _ rfl (blk_set d0 d1 _ _).1 (blk_set d0 d1 _ _).2) rfl ?_
    exact blk_of hr.out (blk_err (below_set2 B2 (by omega) _ _))
  | true =>
    obtain ⟨h1, h2, h3, h4, h5, h6⟩ := rightB_true.1 hrt
    obtain ⟨ch', rfl⟩ : ∃ k : Nat, ch = (k : Int) := ⟨ch.toNat, by omega⟩
    have Hrt := Lib.hid hrt
    have hp : Hid (partB l rate (ch' : Int) bits = (if l.length = 0 then errB 7 else if l.length % ch' ≠ 0 then errB 3 else if 4096 < l.length / ch' then errB 4 else
      if allFit l bits = true then ⟨bits, ch', partTo l ch' l.length, 0⟩ else errB 6)) := by show _ = _; rw [partB, if_pos hrt, Int.toNat_natCast]
    clear hrt
    by_cases h0 : n = 0
    · subst h0
      have hr : Hid (partB l rate (ch' : Int) bits = errB 7) := by show _ = _; rw [hp.out, if_pos Hn.out.symm]
      have e0 : (((0 : Nat) : Int) == 0) = true := by decide
      go_enter Try.func14, Try.ntmps14
      go_wp2_with fail
      obtain ⟨w1, hw1, hz1, B1, m1, m2⟩ := part_boxes w rate ch' bits
      rw [← hw1]
      clear hw1
      (with_reducible refine (rightR_any _ _ _ _).mono ?_); rintro e w2 ⟨rfl, b2⟩
      rw [Hrt.out]
      obtain ⟨d0, d1, f0, f1⟩ := blk_cell ((b2.block _ (by omega)).trans m2)
      have B2 := bth B1 b2
      go_wp2_with fail
      refine bodyPost_ret (results_blk rfl _ _ rfl (blk_set d0 d1 _ _).1 (blk_set d0 d1 _ _).2) rfl ?_
      exact blk_of hr.out (blk_err (below_set2 B2 (by omega) _ _))
    have e0 : ((n : Int) == 0) = false := by simp; omega
    obtain ⟨z, hz0⟩ : ∃ z, z = n % ch' := ⟨_, rfl⟩
    obtain ⟨y, hy0⟩ : ∃ y, y = n / ch' := ⟨_, rfl⟩
    have hrem : (n : Int) % (ch' : Int) = (z : Int) := by rw [hz0, Int.natCast_emod]
    have hquo : (n : Int) / (ch' : Int) = (y : Int) := by rw [hy0, Int.natCast_ediv]
    rw [← Hn.out, ← hz0, ← hy0] at hp
    have hyw : wrap64 (y : Int) = (y : Int) := by
      have : y ≤ n := by rw [hy0]; exact Nat.div_le_self _ _
      unfold wrap64; omega
    clear hz0 hy0
    have hz : ((ch' : Int) == 0) = false := by simp; omega
    by_cases h7 : z = 0
    · have e1 : ((z : Int) != 0) = false := by rw [h7]; rfl
      by_cases h8 : 4096 < y
      · have hr : Hid (partB l rate (ch' : Int) bits = errB 4) := by show _ = _; rw [hp.out, if_neg h0, if_neg (by omega), if_pos h8]
        have e2 : (4096 : Int) < (y : Int) := by omega
        go_enter Try.func14, Try.ntmps14
        go_wp2_with fail
        obtain ⟨w1, hw1, hz1, B1, m1, m2⟩ := part_boxes w rate ch' bits
        rw [← hw1]
        clear hw1
        (with_reducible refine (rightR_any _ _ _ _).mono ?_); rintro e w2 ⟨rfl, b2⟩
        rw [Hrt.out]
        obtain ⟨d0, d1, f0, f1⟩ := blk_cell ((b2.block _ (by omega)).trans m2)
        obtain ⟨k0, k1, k2⟩ := fmt_cell ((b2.block _ (by omega)).trans m1)
        have B2 := bth B1 b2
        go_wp2_with fail
        refine bodyPost_ret (results_blk rfl _ _ rfl (blk_set d0 d1 _ _).1 (blk_set d0 d1 _ _).2) rfl ?_
        exact blk_of hr.out (blk_err (below_set2 B2 (by omega) _ _))
      · have e2 : (y : Int) ≤ 4096 := by omega
        have hp2 : Hid (partB l rate (ch' : Int) bits = if allFit l bits = true then ⟨bits, ch', partTo l ch' n, 0⟩ else errB 6) := by
          show _ = _; rw [hp.out, if_neg h0, if_neg (by omega), if_neg h8]
        have hmk := run_mkn ch' (by omega)
        clear hp
        go_enter Try.func14, Try.ntmps14
        go_wp2_with fail
        obtain ⟨w1, hw1, hz1, B1, m1, m2⟩ := part_boxes w rate ch' bits
        rw [← hw1]
        clear hw1
        (with_reducible refine (rightR_any _ _ _ _).mono ?_); rintro e w2 ⟨rfl, b2⟩
        rw [Hrt.out]
        have M2 := Lib.hid ((b2.block _ (by omega)).trans m2)
        have M1 := Lib.hid ((b2.block _ (by omega)).trans m1)
        obtain ⟨k0, k1, k2⟩ := fmt_cell M1.out
        have B2 := bth B1 b2
        have hsz := b2.size
        have Hmk := Lib.hid hmk
        clear m1 m2 B1 b2 hmk
        go_upto_region 9 with fail
        have hmk := Hmk.out
        have ka1 : ∀ o, (w2.alloc o).cell? ⟨w.heap.size, 1, none⟩ = some (.int .i64 (ch' : Int)) := fun o => later (bal (brefl w2) o) k1
        have ka2 : ∀ o, (w2.alloc o).cell? ⟨w.heap.size, 2, none⟩ = some (.int .i64 bits) := fun o => later (bal (brefl w2) o) k2
        have kb2 : ∀ o o', ((w2.alloc o).alloc o').cell? ⟨w.heap.size, 2, none⟩ = some (.int .i64 bits) := fun o o' => later (bal (bal (brefl w2) o) o') k2
        go_cut [6] (fun s6 wx => Made w2 bits ch' s6 wx)
        case first =>
          go_region
          all_goals (go_wp2_with fail; go_meet)
          all_goals first | exact made_a w2 bits ch' (by omega) | exact made_b w2 bits ch' (by omega)
        case rest =>
          obtain ⟨⟨gb, gm, rfl, hne, hgb, hgm, hbk, hO⟩, hbx⟩ := hcut
          have Bx := bth B2 hbx
          have hbxs := hbx.size
          have Mx1 : Hid (wc.heap[w.heap.size]? = some (.cells #[.int .i64 rate, .int .i64 (ch' : Int), .int .i64 bits] 24 (0, 0))) := (hbx.block _ (by omega)).trans M1.out
          have Mx2 : Hid (wc.heap[w.heap.size + 1]? = some (.cells #[.int .i64 0, .slice none 0 0] 28 (0, 0))) := (hbx.block _ (by omega)).trans M2.out
          have Mb := Lib.hid hbk
          have hbl : gb < wc.heap.size := by
            rcases Nat.lt_or_ge gb wc.heap.size with h | h
            · exact h
            · rw [Array.getElem?_eq_none h] at hbk; cases hbk
          have hml := (hO.lt gm (.inl rfl)).2
          have hst : PartR w2 wc gm ch' l 0 wc := ⟨⟨_, _, hO.cong (fun i _ => partTo_zero l ch' i), fun i _ q h => by cases h⟩, Kp.refl _ _⟩
          have Hst := Lib.hid hst
          have HBx := Lib.hid Bx
          clear hst hO hbk Bx hbx ka1 ka2 kb2 k0 k1 k2 hmk Hmk hrem hquo hyw e2 e1 e0
          go_wp2_with fail
          go_loopw [7] (fun iv wr => ∃ j : Nat, j ≤ n ∧ iv = .int .i64 j ∧ PartR w2 wc gm ch' l j wr ∧ ∀ t, t < j → fitsB (ix l t) bits = true) (fun iv _ => n - (intOf iv).toNat)
          case atStart => exact ⟨0, Nat.zero_le _, rfl, Hst.out, fun t h => absurd h (by omega)⟩
          case round =>
            obtain ⟨j, hj, rfl, hP, hft⟩ := hrel
            obtain ⟨wo, rfl⟩ : ∃ wo : World, wo = wr := ⟨_, rfl⟩
            have Hft := Lib.hid hft
            have HP := Lib.hid hP
            have hk := hP.2
            have Bo := HBx.out.trans (hk.below (B := w.heap.size) (fun k hk => by subst hk; omega) (by omega))
            have hso := hk.size
            have mo1 := (hk.block w.heap.size (by omega) (by omega)).trans Mx1.out
            obtain ⟨k0, k1, k2⟩ := fmt_cell mo1
            clear hft hP hk mo1
            by_cases hlt : j < n
            · have hkl : j < l.length := by have := Hn.out; omega
              obtain ⟨b1, o1, rfl, hbw, hc⟩ := ha.lt (by omega)
              have hc1 : wo.cell? ⟨b1, o1 + j, none⟩ = some (.int .i64 (ix l j)) := (Bo.cell (p := ⟨b1, o1 + j, none⟩) hbw).trans (hc j hkl)
              have hcl := hc j hkl
              have t1 : (j : Int) < (n : Int) := by omega
              have t2 : (0 : Int) ≤ (j : Int) := by omega
              obtain ⟨x, hx⟩ : ∃ x, x = ix l j := ⟨_, rfl⟩
              rw [← hx] at hc1 hcl
              have Hx := Lib.hid hx
              have Hcl := Lib.hid hcl
              clear hx hc hcl Bo k0 k1
              cases hf : fitsB x bits with
              | false =>
                have hr : Hid (partB l rate (ch' : Int) bits = errB 6) := by show _ = _; rw [hp2.out, fit_upto hkl (by rw [← Hx.out]; exact hf)]; rfl
                have Hq : Hid (∀ w', Calls Try.prog 40 #[.int .i64 x, .int .i64 bits] w' fun e w'' => e = .returned (.bool false) ∧ ∃ m, w'' = w'.drewN m) := fun w' => (fitsR_any _ _ w').mono fun e w'' ⟨h1, h2⟩ => ⟨by rw [h1, hf], 0, h2⟩
                clear hf
                go_wp2_with fail
                go_quiet ((go_at_call 40; exact Calls.quiet_of (Hq.out _)))
                obtain ⟨wp, hwp⟩ : ∃ wp : World, wp = wo.drewN nq := ⟨_, rfl⟩
                rw [← hwp]
                have HPp : Hid (PartR w2 wc gm ch' l j wp) := by show PartR _ _ _ _ _ _ _; rw [hwp]; exact HP.out.drewN nq
                clear hwp hc1 k2 HP
                have hk := HPp.out.2
                have mo2 := (hk.block (w.heap.size + 1) (by omega) (by omega)).trans Mx2.out
                obtain ⟨d0, d1, f0, f1⟩ := blk_cell mo2
                have HBo := Lib.hid (HBx.out.trans (hk.below (B := w.heap.size) (fun k hk => by subst hk; omega) (by omega)))
                clear hk mo2
                go_wp2_with fail
                refine bodyPost_ret (results_blk rfl _ _ rfl (blk_set d0 d1 _ _).1 (blk_set d0 d1 _ _).2) rfl ?_
                exact blk_of hr.out (blk_err (below_set2 HBo.out (by omega) _ _))
              | true =>
                have Hf := Lib.hid hf
                have Hq : Hid (∀ w', Calls Try.prog 40 #[.int .i64 x, .int .i64 bits] w' fun e w'' => e = .returned (.bool true) ∧ ∃ m, w'' = w'.drewN m) := fun w' => (fitsR_any _ _ w').mono fun e w'' ⟨h1, h2⟩ => ⟨by rw [h1, hf], 0, h2⟩
                clear hf
                go_wp2_with fail
                go_quiet ((go_at_call 40; exact Calls.quiet_of (Hq.out _)))
                obtain ⟨wp, hwp⟩ : ∃ wp : World, wp = wo.drewN nq := ⟨_, rfl⟩
                rw [← hwp]
                have HPp : Hid (PartR w2 wc gm ch' l j wp) := by show PartR _ _ _ _ _ _ _; rw [hwp]; exact HP.out.drewN nq
                clear hwp hc1 k2 HP
                obtain ⟨u, hu⟩ : ∃ u, u = j % ch' := ⟨_, rfl⟩
                have hul : u < ch' := by rw [hu]; exact Nat.mod_lt _ (by omega)
                have hrm : (j : Int) % (ch' : Int) = (u : Int) := by rw [hu, Int.natCast_emod]
                have htm : (j : Int).tmod (ch' : Int) = (u : Int) := by rw [hu]; rfl
                have hch0 : ¬ ch' = 0 := by omega
                have Hu := Lib.hid hu
                have hsl : Hid ((∀ t, t < j + 1 → fitsB (ix l t) bits = true)) := fun t ht => by
                  by_cases e : t = j
                  · subst e; rw [← Hx.out]; exact Hf.out
                  · exact Hft.out t (by omega)
                clear hu
                go_upto_region 15 with fail
                obtain ⟨⟨RA, RC, ho, hq⟩, hk⟩ := HPp.out
                have hso' := hk.size
                have mo1 := (hk.block w.heap.size (by omega) (by omega)).trans Mx1.out
                have mob := (hk.block gb hbl hne).trans Mb.out
                obtain ⟨k0, k1, k2⟩ := fmt_cell mo1
                obtain ⟨q0, q1, _, _⟩ := blk_cell mob
                have Bp := HBx.out.trans (hk.below (B := w.heap.size) (fun k hk => by subst hk; omega) (by omega))
                have hc1 : wp.cell? ⟨b1, o1 + j, none⟩ = some (.int .i64 x) := (Bp.cell (p := ⟨b1, o1 + j, none⟩) hbw).trans Hcl.out
                obtain ⟨_, eg, hg1, hg2, hcells⟩ := ho.addr (by omega)
                simp only [Option.some.injEq, Addr.mk.injEq, and_true] at eg
                subst eg
                have hcu := hcells u hul
                have hI := ho.inner u hul
                obtain ⟨m, hm'⟩ : ∃ m, m = (partTo l ch' j u).length := ⟨_, rfl⟩
                have hmb : m ≤ 60001 := by rw [hm', partTo_len]; have := cnt_le (ch := ch') (j := j) (i := u); omega
                rw [← hm'] at hcu hI
                have hI' := Lib.hid hI
                have Ho := Lib.hid ho
                have Hqq := Lib.hid hq
                have Hk := Lib.hid hk
                have hneq : ∀ g, g < wc.heap.size → some g ≠ blkOf (RA u) := fun g hg e => by have := hq u hul g e.symm; omega
                have hne2 : some gm ≠ blkOf (RA u) := fun e => ho.osep u hul gm rfl e.symm
                have gbo : gb < wp.heap.size := by omega
                obtain ⟨i0, hi0, hz0, hz1, hz2⟩ := info_parts intInfo
                have s1 : (u : Int) < (ch' : Int) := by omega
                have s2 : (0 : Int) ≤ (u : Int) := by omega
                have hfz := World.ownsRow.frozenAt Ho.out.outer u
                clear hcells hI ho hq hk hm' HPp mo1 mob Bp k0 k2 q0
                refine wp_region_last 21 (fun w' => w'.cell? ⟨gb, 1, none⟩ = some (.slice (some ⟨gm, 0, none⟩) ch' ch') ∧ w'.cell? ⟨gm, u, none⟩ = some (.slice (RA u) m (RC u)) ∧ w'.cell? ⟨b1, o1 + j, none⟩ = some (.int .i64 x) ∧ w'.cell? ⟨w.heap.size, 1, none⟩ = some (.int .i64 (ch' : Int))) (by kernel_rfl) (by kernel_rfl) (⟨q1, hcu, hc1, k1⟩) (fun hHeld => ?_)
                simp only [List.pop_toArray, List.dropLast_cons_cons, List.dropLast_singleton]
                refine wpAnyH_take (i := 0) (oi := ?o0) (v := ?v0) ?hi0 (by kernel_rfl) (by kernel_rfl) (by kernel_rfl) ?hq0 (Or.inl ⟨?hw0, ?hy0⟩) (by assumption) ?rest0
                case hi0 => (simp only [List.getElem?_toArray, List.getElem?_cons_zero, List.getElem?_cons_succ]; exact rfl)
                case hw0 => rfl
                case hq0 => exact fun _ _ _ h => h
                case hy0 => (intro wv hSw; (try dsimp only at hSw); go_simp; try with_reducible rfl)
                try simp only [Act.put, List.setIfInBounds_toArray, List.set_cons_zero, List.set_cons_succ]
                refine wpAnyH_take (i := 1) (oi := ?o1) (v := ?v1) ?hi1 (by kernel_rfl) (by kernel_rfl) (by kernel_rfl) ?hq1 (Or.inl ⟨?hw1, ?hy1⟩) (by assumption) ?rest1
                case hi1 => (simp only [List.getElem?_toArray, List.getElem?_cons_zero, List.getElem?_cons_succ]; exact rfl)
                case hw1 => rfl
                case hq1 => exact fun _ _ _ h => h
                case hy1 => (intro wv hSw; (try dsimp only at hSw); go_simp; try with_reducible rfl)
                try simp only [Act.put, List.setIfInBounds_toArray, List.set_cons_zero, List.set_cons_succ]
                refine wpAnyH_take (i := 2) (oi := ?o2) (v := ?v2) ?hi2 (by kernel_rfl) (by kernel_rfl) (by kernel_rfl) ?hq2 (Or.inl ⟨?hw2, ?hy2⟩) (by assumption) ?rest2
                case hi2 => (simp only [List.getElem?_toArray, List.getElem?_cons_zero, List.getElem?_cons_succ]; exact rfl)
                case hw2 => rfl
                case hq2 => exact fun _ _ _ h => h
                case hy2 => (intro wv hSw; (try dsimp only at hSw); go_simp; try with_reducible rfl)
                try simp only [Act.put, List.setIfInBounds_toArray, List.set_cons_zero, List.set_cons_succ]
                refine wpAnyH_take (i := 3) (oi := ?o3) (v := ?v3) ?hi3 (by kernel_rfl) (by kernel_rfl) (by kernel_rfl) ?hq3 (Or.inl ⟨?hw3, ?hy3⟩) (by assumption) ?rest3
                case hi3 => (simp only [List.getElem?_toArray, List.getElem?_cons_zero, List.getElem?_cons_succ]; exact rfl)
                case hw3 => rfl
                case hq3 => exact fun _ _ _ h => h
                case hy3 => (intro wv hSw; (try dsimp only at hSw); go_simp; try with_reducible rfl)
                try simp only [Act.put, List.setIfInBounds_toArray, List.set_cons_zero, List.set_cons_succ]
                refine wpAnyH_take (i := 4) (oi := ?o4) (v := ?v4) ?hi4 (by kernel_rfl) (by kernel_rfl) (by kernel_rfl) ?hq4 (Or.inl ⟨?hw4, ?hy4⟩) (by assumption) ?rest4
                case hi4 => (simp only [List.getElem?_toArray, List.getElem?_cons_zero, List.getElem?_cons_succ]; exact rfl)
                case hw4 => rfl
                case hq4 => exact fun _ _ _ h => h
                case hy4 => (intro wv hSw; (try dsimp only at hSw); go_simp; try with_reducible rfl)
                try simp only [Act.put, List.setIfInBounds_toArray, List.set_cons_zero, List.set_cons_succ]
                refine wpAnyH_take (i := 5) (oi := ?o5) (v := ?v5) ?hi5 (by kernel_rfl) (by kernel_rfl) (by kernel_rfl) ?hq5 (Or.inl ⟨?hw5, ?hy5⟩) (by assumption) ?rest5
                case hi5 => (simp only [List.getElem?_toArray, List.getElem?_cons_zero, List.getElem?_cons_succ]; exact rfl)
                case hw5 => rfl
                case hq5 => exact fun _ _ _ h => h
                case hy5 => (intro wv hSw; (try dsimp only at hSw); go_simp; try with_reducible rfl)
                try simp only [Act.put, List.setIfInBounds_toArray, List.set_cons_zero, List.set_cons_succ]
                refine wpAnyH_take (i := 6) (oi := ?o6) (v := ?v6) ?hi6 (by kernel_rfl) (by kernel_rfl) (by kernel_rfl) ?hq6 (Or.inl ⟨?hw6, ?hy6⟩) (by assumption) ?rest6
                case hi6 => (simp only [List.getElem?_toArray, List.getElem?_cons_zero, List.getElem?_cons_succ]; exact rfl)
                case hw6 => rfl
                case hq6 => exact fun _ _ _ h => h
                case hy6 => (intro wv hSw; (try dsimp only at hSw); go_simp; try with_reducible rfl)
                try simp only [Act.put, List.setIfInBounds_toArray, List.set_cons_zero, List.set_cons_succ]
                refine wpAnyH_take (i := 7) (oi := ?o7) (v := ?v7) ?hi7 (by kernel_rfl) (by kernel_rfl) (by kernel_rfl) ?hq7 (Or.inl ⟨?hw7, ?hy7⟩) (by assumption) ?rest7
                case hi7 => (simp only [List.getElem?_toArray, List.getElem?_cons_zero, List.getElem?_cons_succ]; exact rfl)
                case hw7 => rfl
                case hq7 => exact fun _ _ _ h => h
                case hy7 => (intro wv hSw; (try dsimp only at hSw); go_simp; try with_reducible rfl)
                try simp only [Act.put, List.setIfInBounds_toArray, List.set_cons_zero, List.set_cons_succ]
                refine wpAnyH_take (i := 8) (oi := ?o8) (v := ?v8) ?hi8 (by kernel_rfl) (by kernel_rfl) (by kernel_rfl) ?hq8 (Or.inl ⟨?hw8, ?hy8⟩) (by assumption) ?rest8
                case hi8 => (simp only [List.getElem?_toArray, List.getElem?_cons_zero, List.getElem?_cons_succ]; exact rfl)
                case hw8 => rfl
                case hq8 => exact fun _ _ _ h => h
                case hy8 => (intro wv hSw; (try dsimp only at hSw); go_simp; try with_reducible rfl)
                try simp only [Act.put, List.setIfInBounds_toArray, List.set_cons_zero, List.set_cons_succ]
                refine wpAnyH_take (i := 9) (oi := ?o9) (v := ?v9) ?hi9 (by kernel_rfl) (by kernel_rfl) (by kernel_rfl) ?hq9 (Or.inl ⟨?hw9, ?hy9⟩) (by assumption) ?rest9
                case hi9 => (simp only [List.getElem?_toArray, List.getElem?_cons_zero, List.getElem?_cons_succ]; exact rfl)
                case hw9 => rfl
                case hq9 => exact fun _ _ _ h => h
                case hy9 => (intro wv hSw; (try dsimp only at hSw); go_simp; try with_reducible rfl)
                try simp only [Act.put, List.setIfInBounds_toArray, List.set_cons_zero, List.set_cons_succ]
                refine wpAnyH_take (i := 10) (oi := ?o10) (v := ?v10) ?hi10 (by kernel_rfl) (by kernel_rfl) (by kernel_rfl) ?hq10 (Or.inl ⟨?hw10, ?hy10⟩) (by assumption) ?rest10
                case hi10 => (simp only [List.getElem?_toArray, List.getElem?_cons_zero, List.getElem?_cons_succ]; exact rfl)
                case hw10 => rfl
                case hq10 => exact fun _ _ _ h => h
                case hy10 => (intro wv hSw; (try dsimp only at hSw); go_simp; try with_reducible rfl)
                try simp only [Act.put, List.setIfInBounds_toArray, List.set_cons_zero, List.set_cons_succ]
                refine wpAnyH_take (i := 11) (oi := ?o11) (v := ?v11) ?hi11 (by kernel_rfl) (by kernel_rfl) (by kernel_rfl) ?hq11 (Or.inl ⟨?hw11, ?hy11⟩) (by assumption) ?rest11
                case hi11 => (simp only [List.getElem?_toArray, List.getElem?_cons_zero, List.getElem?_cons_succ]; exact rfl)
                case hw11 => rfl
                case hq11 => exact fun _ _ _ h => h
                case hy11 => (intro wv hSw; (try dsimp only at hSw); go_simp; try with_reducible rfl)
                try simp only [Act.put, List.setIfInBounds_toArray, List.set_cons_zero, List.set_cons_succ]
                refine wpAnyH_take (i := 12) (oi := ?o12) (v := ?v12) ?hi12 (by kernel_rfl) (by kernel_rfl) (by kernel_rfl) ?hq12 (Or.inl ⟨?hw12, ?hy12⟩) (by assumption) ?rest12
                case hi12 => (simp only [List.getElem?_toArray, List.getElem?_cons_zero, List.getElem?_cons_succ]; exact rfl)
                case hw12 => rfl
                case hq12 => exact fun _ _ _ h => h
                case hy12 => (intro wv hSw; (try dsimp only at hSw); go_simp; try with_reducible rfl)
                try simp only [Act.put, List.setIfInBounds_toArray, List.set_cons_zero, List.set_cons_succ]
                refine wpAnyH_take (i := 13) (oi := ?o13) (v := ?v13) ?hi13 (by kernel_rfl) (by kernel_rfl) (by kernel_rfl) ?hq13 (Or.inl ⟨?hw13, ?hy13⟩) (by assumption) ?rest13
                case hi13 => (simp only [List.getElem?_toArray, List.getElem?_cons_zero, List.getElem?_cons_succ]; exact rfl)
                case hw13 => rfl
                case hq13 => exact fun _ _ _ h => h
                case hy13 => (intro wv hSw; (try dsimp only at hSw); go_simp; try with_reducible rfl)
                try simp only [Act.put, List.setIfInBounds_toArray, List.set_cons_zero, List.set_cons_succ]
                refine wpAnyH_take (i := 14) (oi := ?o14) (v := ?v14) ?hi14 (by kernel_rfl) (by kernel_rfl) (by kernel_rfl) ?hq14 (Or.inl ⟨?hw14, ?hy14⟩) (by assumption) ?rest14
                case hi14 => (simp only [List.getElem?_toArray, List.getElem?_cons_zero, List.getElem?_cons_succ]; exact rfl)
                case hw14 => rfl
                case hq14 => exact fun _ _ _ h => h
                case hy14 => (intro wv hSw; (try dsimp only at hSw); go_simp; try with_reducible rfl)
                try simp only [Act.put, List.setIfInBounds_toArray, List.set_cons_zero, List.set_cons_succ]
                refine wpAnyH_take (i := 15) (oi := ?o15) (v := ?v15) ?hi15 (by kernel_rfl) (by kernel_rfl) (by kernel_rfl) ?hq15 (Or.inl ⟨?hw15, ?hy15⟩) (by assumption) ?rest15
                case hi15 => (simp only [List.getElem?_toArray, List.getElem?_cons_zero, List.getElem?_cons_succ]; exact rfl)
                case hw15 => rfl
                case hq15 => exact fun _ _ _ h => h
                case hy15 => (intro wv hSw; (try dsimp only at hSw); go_simp; try with_reducible rfl)
                try simp only [Act.put, List.setIfInBounds_toArray, List.set_cons_zero, List.set_cons_succ]
                refine wpAnyH_take (i := 16) (oi := ?o16) (v := ?v16) ?hi16 (by kernel_rfl) (by kernel_rfl) (by kernel_rfl) ?hq16 (Or.inl ⟨?hw16, ?hy16⟩) (by assumption) ?rest16
                case hi16 => (simp only [List.getElem?_toArray, List.getElem?_cons_zero, List.getElem?_cons_succ]; exact rfl)
                case hw16 => rfl
                case hq16 => exact fun _ _ _ h => h
                case hy16 => (intro wv hSw; (try dsimp only at hSw); go_simp; try with_reducible rfl)
                try simp only [Act.put, List.setIfInBounds_toArray, List.set_cons_zero, List.set_cons_succ]
                refine wpAnyH_take (i := 17) (oi := ?o17) (v := ?v17) ?hi17 (by kernel_rfl) (by kernel_rfl) (by kernel_rfl) ?hq17 (Or.inl ⟨?hw17, ?hy17⟩) (by assumption) ?rest17
                case hi17 => (simp only [List.getElem?_toArray, List.getElem?_cons_zero, List.getElem?_cons_succ]; exact rfl)
                case hw17 => rfl
                case hq17 => exact fun _ _ _ h => h
                case hy17 => (intro wv hSw; (try dsimp only at hSw); go_simp; try with_reducible rfl)
                try simp only [Act.put, List.setIfInBounds_toArray, List.set_cons_zero, List.set_cons_succ]
                refine wpAnyH_ready (rs := [18]) (by kernel_rfl) (by simp) ?_
                refine AllReadyH.cons (o := ?o18) ?hi18 (fun K hK => ?rest18) AllReadyH.nil
                case hi18 => (simp only [List.getElem?_toArray, List.getElem?_cons_zero, List.getElem?_cons_succ]; exact rfl)
                go_simp
                refine hK.out _ _ (⟨later (bal (brefl wp) _) q1, later (bal (brefl wp) _) hcu, later (bal (brefl wp) _) hc1, later (bal (brefl wp) _) k1⟩) (fun hHeld => ?_)
                clear hK K
                try simp only [Act.put, List.setIfInBounds_toArray, List.set_cons_zero, List.set_cons_succ]
                refine wpAnyH_ready (rs := [19]) (by kernel_rfl) (by simp) ?_
                refine AllReadyH.cons (o := ?o19) ?hi19 (fun K hK => ?rest19) AllReadyH.nil
                case hi19 => (simp only [List.getElem?_toArray, List.getElem?_cons_zero, List.getElem?_cons_succ]; exact rfl)
                refine step_app _ rfl (.tmp 68) (.tmp 73) 22 rfl w2.heap.size 3 i0 _ 1 8 Try.underlying22 hi0 hz0 hz1 hz2 rfl (by omega) (.slice (RA u) m (RC u)) m _ rfl (hI'.out.alloc _) _ _ 1 1 _ rfl rfl (by first | exact rd_new1d _ _ _ | exact rd_new1 _ _ _) (by simp [Value.oneCell']) (by simp only [maxLen]; omega) (by omega) (by simp; omega) ?_
                intro A4 k4 w4 ho4 hg4 hat4
                rw [ownBlock_blk] at hg4
                rw [ownBlock_blk, ownBlock_blk] at hat4
                have kb4 : ∀ g, some g ≠ blkOf (RA u) → g < wp.heap.size → w4.heap[g]? = wp.heap[g]? := (fun g h1 h2 => (hg4.block g (by simp; omega) h1).trans (Below.heap_alloc _ _ _ h2))
                have q4 : w4.cell? ⟨gb, 1, none⟩ = some (.slice (some ⟨gm, 0, none⟩) ch' ch') := (World.cell?_of_block (kb4 gb (hneq gb hbl) gbo)).trans q1
                have q5 : w4.cell? ⟨gm, u, none⟩ = some (.slice (RA u) m (RC u)) := (World.cell?_of_block (kb4 gm hne2 hg2)).trans hcu
                have q6 : w4.frozen? ⟨gm, u, none⟩ = false := (World.frozen?_of_block (kb4 gm hne2 hg2)).trans hfz
                have q7 : w4.cell? ⟨b1, o1 + j, none⟩ = some (.int .i64 x) := (World.cell?_of_block (kb4 b1 (hneq b1 (by omega)) (by omega))).trans hc1
                have q8 : w4.cell? ⟨w.heap.size, 1, none⟩ = some (.int .i64 (ch' : Int)) := (World.cell?_of_block (kb4 w.heap.size (hneq w.heap.size (by omega)) (by omega))).trans k1
                refine hK.out _ _ (⟨q4, q5, q7, q8⟩) (fun hHeld => ?_)
                clear hK K
                try simp only [Act.put, List.setIfInBounds_toArray, List.set_cons_zero, List.set_cons_succ]
                refine wpAnyH_take (i := 20) (oi := ?o20) (v := ?v20) ?hi20 (by kernel_rfl) (by kernel_rfl) (by kernel_rfl) ?hq20 (Or.inl ⟨?hw20, ?hy20⟩) (by assumption) ?rest20
                case hi20 => (simp only [List.getElem?_toArray, List.getElem?_cons_zero, List.getElem?_cons_succ]; exact rfl)
                case hw20 => rfl
                case hq20 => exact fun _ _ _ h => h
                case hy20 => (intro wv hSw; (try dsimp only at hSw); go_simp; try with_reducible rfl)
                try simp only [Act.put, List.setIfInBounds_toArray, List.set_cons_zero, List.set_cons_succ]
                refine wpAnyH_done (by kernel_rfl) ?_ _
                refine popQ_step (o := ?o21) ?hi21 (fun K hK => ?rest21)
                case hi21 => (simp only [List.getElem?_toArray, List.getElem?_cons_zero, List.getElem?_cons_succ]; exact rfl)
                go_simp
                refine hK _ _ ?_
                clear hK K
                have hz4 : OwnZ w4 w2.heap.size A4 (m + 1) k4 (partTo l ch' j u ++ [x]) := by unfold OwnZ; rw [List.map_append]; exact ho4
                have hPs := Lib.hid (PartR.step Ho.out Hqq.out Hk.out (by omega) Hu.out Hx.out hz4 hg4 hat4)
                clear hz4 ho4 hg4 hat4 kb4 q4 q5 q6 q7 q8 hHeld
                go_wp2_with fail
                go_roundw
                case rel => exact ⟨j + 1, by omega, by go_num, hPs.out, hsl.out⟩
                case measure => simp [intOf]; omega
            · have e : j = n := by omega
              subst e
              have hr : Hid (partB l rate (ch' : Int) bits = ⟨bits, ch', partTo l ch' j, 0⟩) := by
                show _ = _
                rw [hp2.out, if_pos]
                refine List.all_eq_true.2 fun x hx => ?_
                obtain ⟨i, hi, rfl⟩ := mem_ix hx
                exact Hft.out i (by have := Hn.out; omega)
              have hk := HP.out.2
              have mo2 := (hk.block (w.heap.size + 1) (by omega) (by omega)).trans Mx2.out
              have mob := (hk.block gb hbl hne).trans Mb.out
              obtain ⟨d0, d1, f0, f1⟩ := blk_cell mo2
              obtain ⟨q0, q1, _, _⟩ := blk_cell mob
              have HBo := Lib.hid Bo
              clear Bo hk mo2 mob
              go_wp2_with fail
              refine bodyPost_ret (results_blk rfl _ _ rfl (blk_set d0 d1 _ _).1 (blk_set d0 d1 _ _).2) rfl ?_
              refine blk_of hr.out ?_
              obtain ⟨⟨RA, RC, ho, hq⟩, hk⟩ := HP.out
              refine ⟨some ⟨gm, 0, none⟩, ch', RA, RC, rfl, ?_, below_set2 HBo.out (by omega) _ _⟩
              refine (ho.other fun q hq => ?_).base (by omega)
              have := (ho.lt q hq).1
              rw [Below.heap_setCell _ _ _ _ (by show q ≠ w.heap.size + 1; omega), Below.heap_setCell _ _ _ _ (by show q ≠ w.heap.size + 1; omega)]
    · have hr : Hid (partB l rate (ch' : Int) bits = errB 3) := by show _ = _; rw [hp.out, if_neg h0, if_pos h7]
      have e1 : ((z : Int) != 0) = true := by simp; omega
      go_enter Try.func14, Try.ntmps14
      go_wp2_with fail
      obtain ⟨w1, hw1, hz1, B1, m1, m2⟩ := part_boxes w rate ch' bits
      rw [← hw1]
      clear hw1
      (with_reducible refine (rightR_any _ _ _ _).mono ?_); rintro e w2 ⟨rfl, b2⟩
      rw [Hrt.out]
      obtain ⟨d0, d1, f0, f1⟩ := blk_cell ((b2.block _ (by omega)).trans m2)
      obtain ⟨k0, k1, k2⟩ := fmt_cell ((b2.block _ (by omega)).trans m1)
      have B2 := bth B1 b2
      go_wp2_with fail
      refine bodyPost_ret (results_blk rfl _ _ rfl (blk_set d0 d1 _ _).1 (blk_set d0 d1 _ _).2) rfl ?_
      exact blk_of hr.out (blk_err (below_set2 B2 (by omega) _ _))
end Go.Proofs.Ytfihbcpainlpcaa
