/-
  Part of the program.
-/
import Derived.Test.YtfihbcpainlpcaaProg
import Derived.Test.YtfihbcpainlpcaaQR
import Derived.Test.YtfihbcpainlpcaaQX
import Derived.BigRegion
import Derived.Deep.RegionLaw
namespace Go.Proofs.Ytfihbcpainlpcaa
open Go.RowKit
set_option linter.unusedVariables false
set_option linter.unusedSimpArgs false

theorem part_no {l : List Int} {rate ch bits : Int} (h : rightB rate ch bits = false) : partB l rate ch bits = errB 1 := by simp [partB, h]
theorem fmtRow (w : World) (rate ch bits : Int) : (w.alloc (.cells #[.int .i64 rate, .int .i64 ch, .int .i64 bits] 24)).heap[w.heap.size]? = some (.cells #[.int .i64 rate, .int .i64 ch, .int .i64 bits] 24 (0, 0)) := heap_alloc_new w _

/-- behind the boxes of the format and of the result. -/
theorem part_boxes (w : World) (rate ch bits : Int) : ∃ w1 : World, w1 = (w.alloc (.cells #[.int .i64 rate, .int .i64 ch, .int .i64 bits] 24)).alloc (.cells #[.int .i64 0, .slice none 0 0] 28) ∧ w1.heap.size = w.heap.size + 2 ∧ Below w.heap.size w w1 ∧
    w1.heap[w.heap.size]? = some (.cells #[.int .i64 rate, .int .i64 ch, .int .i64 bits] 24 (0, 0)) ∧ w1.heap[w.heap.size + 1]? = some (.cells #[.int .i64 0, .slice none 0 0] 28 (0, 0)) := by
  refine ⟨_, rfl, by simp, bal (bal (brefl w) _) _, ?_, ?_⟩
  · rw [Below.heap_alloc _ _ _ (by simp)]; exact heap_alloc_new w _
  · have := heap_alloc_new (w.alloc (.cells #[.int .i64 rate, .int .i64 ch, .int .i64 bits] 24)) (.cells #[.int .i64 0, .slice none 0 0] 28)
    rwa [World.size_alloc] at this
theorem fmt_cell {W : World} {g : Nat} {rate ch bits : Int} (h : W.heap[g]? = some (.cells #[.int .i64 rate, .int .i64 ch, .int .i64 bits] 24 (0, 0))) :
    W.cell? ⟨g, 0, none⟩ = some (.int .i64 rate) ∧ W.cell? ⟨g, 1, none⟩ = some (.int .i64 ch) ∧ W.cell? ⟨g, 2, none⟩ = some (.int .i64 bits) :=
  ⟨(cell_of_row _ _ _ _ _ _ h).trans rfl, (cell_of_row _ _ _ _ _ _ h).trans rfl, (cell_of_row _ _ _ _ _ _ h).trans rfl⟩
theorem blk_cell {W : World} {g : Nat} {bits : Int} {A : Option Addr} {r c : Nat} (h : W.heap[g]? = some (.cells #[.int .i64 bits, .slice A r c] 28 (0, 0))) :
    W.cell? ⟨g, 0, none⟩ = some (.int .i64 bits) ∧ W.cell? ⟨g, 1, none⟩ = some (.slice A r c) ∧ W.frozen? ⟨g, 0, none⟩ = false ∧ W.frozen? ⟨g, 1, none⟩ = false :=
  ⟨(cell_of_row _ _ _ _ _ _ h).trans rfl, (cell_of_row _ _ _ _ _ _ h).trans rfl, frozen_of_row W g 0 _ _ h, frozen_of_row W g 1 _ _ h⟩

/-- a block's variable and its row of rows, as the make leaves them. -/
def Made (w2 : World) (bits : Int) (n : Nat) (v : Value) (wx : World) : Prop :=
  (∃ gb gm : Nat, v = .pointer (some ⟨gb, 0, none⟩) ∧ gb ≠ gm ∧ w2.heap.size ≤ gb ∧ w2.heap.size ≤ gm ∧ wx.heap[gb]? = some (.cells #[.int .i64 bits, .slice (some ⟨gm, 0, none⟩) n n] 28 (0, 0)) ∧ OwnV wx w2.heap.size (some ⟨gm, 0, none⟩) n n (fun _ => none) (fun _ => 0) (fun _ => [])) ∧ Below w2.heap.size w2 wx
theorem made_a (w2 : World) (bits : Int) (n : Nat) (hn : n ≤ 65536) : Made w2 bits n (.pointer (some ⟨w2.heap.size + 1, 0, none⟩)) ((w2.alloc (nobj n)).alloc (.cells #[.int .i64 bits, .slice (some ⟨w2.heap.size, 0, none⟩) n n] 28)).drew := by
  have h := heap_alloc_new (w2.alloc (nobj n)) (.cells #[.int .i64 bits, .slice (some ⟨w2.heap.size, 0, none⟩) n n] 28)
  rw [World.size_alloc] at h
  exact ⟨⟨_, _, rfl, by omega, by omega, Nat.le_refl _, h, ((ownV_made w2 n hn).below (bal (brefl _) _) (Nat.le_refl _)).drew⟩, (bal (bal (brefl w2) _) _).drew⟩
theorem made_b (w2 : World) (bits : Int) (n : Nat) (hn : n ≤ 65536) : Made w2 bits n (.pointer (some ⟨w2.heap.size, 0, none⟩)) ((w2.alloc (.cells #[.int .i64 bits, .slice (some ⟨w2.heap.size + 1, 0, none⟩) n n] 28)).alloc (nobj n)).drew := by
  have h := heap_alloc_new w2 (.cells #[.int .i64 bits, .slice (some ⟨w2.heap.size + 1, 0, none⟩) n n] 28)
  have k := ownV_made (w2.alloc (.cells #[.int .i64 bits, .slice (some ⟨w2.heap.size + 1, 0, none⟩) n n] 28)) n hn
  rw [World.size_alloc] at k
  refine ⟨⟨_, _, rfl, by omega, Nat.le_refl _, by omega, ?_, (k.base (by omega)).drew⟩, (bal (bal (brefl w2) _) _).drew⟩
  show (World.alloc _ _).heap[_]? = _
  rw [Below.heap_alloc _ _ _ (by simp)]
  exact h

/-- what the loop of Part keeps. -/
def PartR (w2 wx : World) (gm ch : Nat) (l : List Int) (j : Nat) (wr : World) : Prop :=
  (∃ (RA : Nat → Option Addr) (RC : Nat → Nat), OwnV wr w2.heap.size (some ⟨gm, 0, none⟩) ch ch RA RC (partTo l ch j) ∧ ∀ i, i < ch → ∀ q, blkOf (RA i) = some q → wx.heap.size ≤ q) ∧ Kp (fun k => k = gm) wx wr
theorem PartR.step {w2 wx wr w4 : World} {gm ch : Nat} {l : List Int} {j u : Nat} {x : Int} {o : Obj} {RA : Nat → Option Addr} {RC : Nat → Nat} {A4 : Option Addr} {k4 m : Nat}
    (ho : OwnV wr w2.heap.size (some ⟨gm, 0, none⟩) ch ch RA RC (partTo l ch j)) (hq : ∀ i, i < ch → ∀ q, blkOf (RA i) = some q → wx.heap.size ≤ q) (hk : Kp (fun k => k = gm) wx wr)
    (hc : 0 < ch) (hu : u = j % ch) (hx : x = ix l j) (ho4 : OwnZ w4 w2.heap.size A4 m k4 (partTo l ch j u ++ [x])) (hg : ((wr.alloc o).drew).grownBy w4 (blkOf (RA u)))
    (hat : blkOf A4 = blkOf (RA u) ∨ blkOf A4 = some (wr.alloc o).drew.heap.size) : PartR w2 wx gm ch l (j + 1) (w4.setCell ⟨gm, u, none⟩ (.slice A4 m k4)) := by
  have hul : u < ch := by rw [hu]; exact Nat.mod_lt _ hc
  have ho' : OwnV (wr.alloc o).drew w2.heap.size (some ⟨gm, 0, none⟩) ch ch RA RC (partTo l ch j) := (ho.below (bal (brefl wr) o) (Nat.le_refl _)).drew
  have hs := hk.size
  refine ⟨⟨_, _, (ho'.put hul ho4 hg hat).cong fun i hi => ?_, fun i hi q h => ?_⟩, ?_⟩
  · rw [partTo_step hc hi, ← hu, ← hx]
    by_cases e : i = u
    · subst e; simp
    · simp [e]
  · by_cases e : i = u
    · subst e
      simp only [if_true] at h
      rcases hat with h2 | h2
      · rw [h2] at h; exact hq i hul q h
      · rw [h2] at h; simp at h; show wx.heap.size ≤ q; omega
    · simp only [if_neg e] at h; exact hq i hi q h
  · have k1 : Kp (fun k => k = gm) wx (wr.alloc o).drew := (hk.alloc o).drew
    have k2 : Kp (fun k => k = gm) wx w4 :=
      ⟨hg.os.trans k1.os, hg.tape.trans k1.tape, hg.output.trans k1.output, Nat.le_trans k1.size hg.size, fun k hk' hS =>
        (hg.block k (Nat.lt_of_lt_of_le hk' k1.size) (fun e => by have := hq u hul k e.symm; omega)).trans (k1.block k hk' hS)⟩
    exact k2.set_ rfl _

set_option maxHeartbeats 4000000 in
theorem partL_any (l : List Int) (n : Nat) (hn : n = l.length) (hm : n ≤ 60000) (rate ch bits : Int) (A : Option Addr) (c : Nat) (w : World) (ha : Ints .i64 w w.heap.size A l) :
    Calls Try.prog 13 #[.slice A n c, .agg #[.int .i64 rate, .int .i64 ch, .int .i64 bits]] w (BlkQ (partB l rate ch bits) w) := by
  have Hn := Lib.hid hn
  clear hn
  cases hrt : rightB rate ch bits with
  | false =>
    have hr := Lib.hid (part_no (l := l) hrt)
    have Hrt := Lib.hid hrt
    clear hrt
    go_enter Try.func13, Try.ntmps13
    go_wp2_with fail
    obtain ⟨w1, hw1, hz1, B1, m1, m2⟩ := part_boxes w rate ch bits
    rw [← hw1]
    clear hw1
    (with_reducible refine (rightL_any _ _ _ _).mono ?_); rintro e w2 ⟨rfl, b2⟩
    rw [Hrt.out]
    obtain ⟨d0, d1, f0, f1⟩ := blk_cell ((b2.block _ (by omega)).trans m2)
    have B2 := bth B1 b2
    go_wp2_with fail
    refine bodyPost_ret (results_blk rfl _ _ rfl (blk_set d0 d1 _ _).1 (blk_set d0 d1 _ _).2) rfl ?_
    exact blk_of hr.out (blk_err (below_set2 B2 (by omega) _ _))
  | true =>
    obtain ⟨h1, h2, h3, h4, h5, h6⟩ := rightB_true.1 hrt
    obtain ⟨ch', rfl⟩ : ∃ k : Nat, ch = (k : Int) := ⟨ch.toNat, by omega⟩
    have Hrt := Lib.hid hrt
    have hp : Hid (partB l rate (ch' : Int) bits = (if l.length = 0 then errB 7 else if l.length % ch' ≠ 0 then errB 3 else if 4096 < l.length / ch' then errB 4 else
      if allFit l bits = true then ⟨bits, ch', partTo l ch' l.length, 0⟩ else errB 6)) := by show _ = _; rw [partB, if_pos hrt, Int.toNat_natCast]
    clear hrt
    by_cases h0 : n = 0
    · subst h0
      have hr : Hid (partB l rate (ch' : Int) bits = errB 7) := by show _ = _; rw [hp.out, if_pos Hn.out.symm]
      have e0 : (((0 : Nat) : Int) == 0) = true := by decide
      go_enter Try.func13, Try.ntmps13
      go_wp2_with fail
      obtain ⟨w1, hw1, hz1, B1, m1, m2⟩ := part_boxes w rate ch' bits
      rw [← hw1]
      clear hw1
      (with_reducible refine (rightL_any _ _ _ _).mono ?_); rintro e w2 ⟨rfl, b2⟩
      rw [Hrt.out]
      obtain ⟨d0, d1, f0, f1⟩ := blk_cell ((b2.block _ (by omega)).trans m2)
      have B2 := bth B1 b2
      go_wp2_with fail
      refine bodyPost_ret (results_blk rfl _ _ rfl (blk_set d0 d1 _ _).1 (blk_set d0 d1 _ _).2) rfl ?_
      exact blk_of hr.out (blk_err (below_set2 B2 (by omega) _ _))
    have e0 : ((n : Int) == 0) = false := by simp; omega
    obtain ⟨z, hz0⟩ : ∃ z, z = n % ch' := ⟨_, rfl⟩
    obtain ⟨y, hy0⟩ : ∃ y, y = n / ch' := ⟨_, rfl⟩
    have hrem : (n : Int) % (ch' : Int) = (z : Int) := by rw [hz0, Int.natCast_emod]
    have hquo : (n : Int) / (ch' : Int) = (y : Int) := by rw [hy0, Int.natCast_ediv]
    rw [← Hn.out, ← hz0, ← hy0] at hp
    have hyw : wrap64 (y : Int) = (y : Int) := by
      have : y ≤ n := by rw [hy0]; exact Nat.div_le_self _ _
      unfold wrap64; omega
    clear hz0 hy0
    have hz : ((ch' : Int) == 0) = false := by simp; omega
    by_cases h7 : z = 0
    · have e1 : ((z : Int) != 0) = false := by rw [h7]; rfl
      by_cases h8 : 4096 < y
      · have hr : Hid (partB l rate (ch' : Int) bits = errB 4) := by show _ = _; rw [hp.out, if_neg h0, if_neg (by omega), if_pos h8]
        have e2 : (4096 : Int) < (y : Int) := by omega
        go_enter Try.func13, Try.ntmps13
        go_wp2_with fail
        obtain ⟨w1, hw1, hz1, B1, m1, m2⟩ := part_boxes w rate ch' bits
        rw [← hw1]
        clear hw1
        (with_reducible refine (rightL_any _ _ _ _).mono ?_); rintro e w2 ⟨rfl, b2⟩
        rw [Hrt.out]
        obtain ⟨d0, d1, f0, f1⟩ := blk_cell ((b2.block _ (by omega)).trans m2)
        obtain ⟨k0, k1, k2⟩ := fmt_cell ((b2.block _ (by omega)).trans m1)
        have B2 := bth B1 b2
        go_wp2_with fail
        refine bodyPost_ret (results_blk rfl _ _ rfl (blk_set d0 d1 _ _).1 (blk_set d0 d1 _ _).2) rfl ?_
        exact blk_of hr.out (blk_err (below_set2 B2 (by omega) _ _))
      · have e2 : (y : Int) ≤ 4096 := by omega
        have hp2 : Hid (partB l rate (ch' : Int) bits = if allFit l bits = true then ⟨bits, ch', partTo l ch' n, 0⟩ else errB 6) := by
          show _ = _; rw [hp.out, if_neg h0, if_neg (by omega), if_neg h8]
        have hmk := run_mkn ch' (by omega)
        clear hp
        go_enter Try.func13, Try.ntmps13
        go_wp2_with fail
        obtain ⟨w1, hw1, hz1, B1, m1, m2⟩ := part_boxes w rate ch' bits
        rw [← hw1]
        clear hw1
        (with_reducible refine (rightL_any _ _ _ _).mono ?_); rintro e w2 ⟨rfl, b2⟩
        rw [Hrt.out]
        have M2 := Lib.hid ((b2.block _ (by omega)).trans m2)
        have M1 := Lib.hid ((b2.block _ (by omega)).trans m1)
        obtain ⟨k0, k1, k2⟩ := fmt_cell M1.out
        have B2 := bth B1 b2
        have hsz := b2.size
        have Hmk := Lib.hid hmk
        clear m1 m2 B1 b2 hmk
        go_upto_region 9 with fail
        have hmk := Hmk.out
        have ka1 : ∀ o, (w2.alloc o).cell? ⟨w.heap.size, 1, none⟩ = some (.int .i64 (ch' : Int)) := fun o => later (bal (brefl w2) o) k1
        have ka2 : ∀ o, (w2.alloc o).cell? ⟨w.heap.size, 2, none⟩ = some (.int .i64 bits) := fun o => later (bal (brefl w2) o) k2
        have kb2 : ∀ o o', ((w2.alloc o).alloc o').cell? ⟨w.heap.size, 2, none⟩ = some (.int .i64 bits) := fun o o' => later (bal (bal (brefl w2) o) o') k2
        go_cut [6] (fun s6 wx => Made w2 bits ch' s6 wx)
        case first =>
          go_region
          all_goals (go_wp2_with fail; go_meet)
          all_goals first | exact made_a w2 bits ch' (by omega) | exact made_b w2 bits ch' (by omega)
        case rest =>
          obtain ⟨⟨gb, gm, rfl, hne, hgb, hgm, hbk, hO⟩, hbx⟩ := hcut
          have Bx := bth B2 hbx
          have hbxs := hbx.size
          have Mx1 : Hid (wc.heap[w.heap.size]? = some (.cells #[.int .i64 rate, .int .i64 (ch' : Int), .int .i64 bits] 24 (0, 0))) := (hbx.block _ (by omega)).trans M1.out
          have Mx2 : Hid (wc.heap[w.heap.size + 1]? = some (.cells #[.int .i64 0, .slice none 0 0] 28 (0, 0))) := (hbx.block _ (by omega)).trans M2.out
          have Mb := Lib.hid hbk
          have hbl : gb < wc.heap.size := by
            rcases Nat.lt_or_ge gb wc.heap.size with h | h
            · exact h
            · rw [Array.getElem?_eq_none h] at hbk; cases hbk
          have hml := (hO.lt gm (.inl rfl)).2
          have hst : PartR w2 wc gm ch' l 0 wc := ⟨⟨_, _, hO.cong (fun i _ => partTo_zero l ch' i), fun i _ q h => by cases h⟩, Kp.refl _ _⟩
          have Hst := Lib.hid hst
          have HBx := Lib.hid Bx
          clear hst hO hbk Bx hbx ka1 ka2 kb2 k0 k1 k2 hmk Hmk hrem hquo hyw e2 e1 e0
          go_wp2_with fail
          go_loopw [7, 8, 9, 40] (fun _ _ _ iv wr => ∃ j : Nat, j ≤ n ∧ iv = .int .i64 j ∧ PartR w2 wc gm ch' l j wr ∧ ∀ t, t < j → fitsB (ix l t) bits = true) (fun _ _ _ iv _ => n - (intOf iv).toNat)
          case atStart => exact ⟨0, Nat.zero_le _, rfl, Hst.out, fun t h => absurd h (by omega)⟩
          case round =>
            obtain ⟨j, hj, rfl, hP, hft⟩ := hrel
            obtain ⟨wo, rfl⟩ : ∃ wo : World, wo = wr := ⟨_, rfl⟩
            have Hft := Lib.hid hft
            have HP := Lib.hid hP
            have hk := hP.2
            have Bo := HBx.out.trans (hk.below (B := w.heap.size) (fun k hk => by subst hk; omega) (by omega))
            have hso := hk.size
            have mo1 := (hk.block w.heap.size (by omega) (by omega)).trans Mx1.out
            have mo2 := (hk.block (w.heap.size + 1) (by omega) (by omega)).trans Mx2.out
            have mob := (hk.block gb hbl hne).trans Mb.out
            obtain ⟨k0, k1, k2⟩ := fmt_cell mo1
            obtain ⟨d0, d1, f0, f1⟩ := blk_cell mo2
            obtain ⟨q0, q1, _, _⟩ := blk_cell mob
            have HBo := Lib.hid Bo
            clear hft hP hk mo1 mo2 mob
            by_cases hlt : j < n
            · have hkl : j < l.length := by have := Hn.out; omega
              obtain ⟨b1, o1, rfl, hc1⟩ := (ha.below Bo).at_ hkl
              cases hf : fitsB (ix l j) bits with
              | false =>
                have hr : Hid (partB l rate (ch' : Int) bits = errB 6) := by show _ = _; rw [hp2.out, fit_upto hkl hf]; rfl
                have Hf := Lib.hid hf
                clear hf Bo
                go_wp2_with ((with_reducible refine (fitsL_any _ _ _).mono ?_); rintro e w' ⟨rfl, rfl⟩; rw [Hf.out])
                refine bodyPost_ret (results_blk rfl _ _ rfl (blk_set d0 d1 _ _).1 (blk_set d0 d1 _ _).2) rfl ?_
                exact blk_of hr.out (blk_err (below_set2 HBo.out (by omega) _ _))
              | true =>
                have Hf := Lib.hid hf
                obtain ⟨u, hu⟩ : ∃ u, u = j % ch' := ⟨_, rfl⟩
                have hul : u < ch' := by rw [hu]; exact Nat.mod_lt _ (by omega)
                have hrm : (j : Int) % (ch' : Int) = (u : Int) := by rw [hu, Int.natCast_emod]
                have Hu := Lib.hid hu
                have hsl : Hid ((∀ t, t < j + 1 → fitsB (ix l t) bits = true)) := fun t ht => by
                  by_cases e : t = j
                  · subst e; exact Hf.out
                  · exact Hft.out t (by omega)
                obtain ⟨x, hx⟩ : ∃ x, x = ix l j := ⟨_, rfl⟩
                rw [← hx] at hc1 Hf
                have Hx := Lib.hid hx
                clear hf Bo hu hx
                go_upto_region 16 with ((with_reducible refine (fitsL_any _ _ _).mono ?_); rintro e w' ⟨rfl, hww⟩; obtain rfl := hww.symm; rw [Hf.out])
                obtain ⟨⟨RA, RC, ho, hq⟩, hk⟩ := HP.out
                obtain ⟨_, eg, hg1, hg2, hcells⟩ := ho.addr (by omega)
                simp only [Option.some.injEq, Addr.mk.injEq, and_true] at eg
                subst eg
                have hcu := hcells u hul
                have hI := ho.inner u hul
                obtain ⟨m, hm'⟩ : ∃ m, m = (partTo l ch' j u).length := ⟨_, rfl⟩
                have hmb : m ≤ 60001 := by rw [hm', partTo_len]; have := cnt_le (ch := ch') (j := j) (i := u); omega
                rw [← hm'] at hcu hI
                have hI' := Lib.hid hI
                have Ho := Lib.hid ho
                have Hq := Lib.hid hq
                have Hk := Lib.hid hk
                have hne1 : some gb ≠ blkOf (RA u) := fun e => by have := hq u hul gb e.symm; omega
                have hne2 : some gm ≠ blkOf (RA u) := fun e => ho.osep u hul gm rfl e.symm
                have gbo : gb < wo.heap.size := by omega
                obtain ⟨i0, hi0, hz0, hz1, hz2⟩ := info_parts intInfo
                have s1 : (u : Int) < (ch' : Int) := by omega
                have s2 : (0 : Int) ≤ (u : Int) := by omega
                have hfz := World.ownsRow.frozenAt Ho.out.outer u
                clear hcells hI ho hq hk hm' HP
                refine wp_region_last 12 (fun w' => w'.cell? ⟨gb, 1, none⟩ = some (.slice (some ⟨gm, 0, none⟩) ch' ch') ∧ w'.cell? ⟨gm, u, none⟩ = some (.slice (RA u) m (RC u))) (by kernel_rfl) (by kernel_rfl) (⟨q1, hcu⟩) (fun hHeld => ?_)
                simp only [List.pop_toArray, List.dropLast_cons_cons, List.dropLast_singleton]
                refine wpAnyH_take (i := 0) (oi := ?o0) (v := ?v0) ?hi0 (by kernel_rfl) (by kernel_rfl) (by kernel_rfl) ?hq0 (Or.inl ⟨?hw0, ?hy0⟩) (by assumption) ?rest0
                case hi0 => (simp only [List.getElem?_toArray, List.getElem?_cons_zero, List.getElem?_cons_succ]; exact rfl)
                case hw0 => rfl
                case hq0 => exact fun _ _ _ h => h
                case hy0 => (intro wv hSw; (try dsimp only at hSw); go_simp; try with_reducible rfl)
                try simp only [Act.put, List.setIfInBounds_toArray, List.set_cons_zero, List.set_cons_succ]
                refine wpAnyH_take (i := 1) (oi := ?o1) (v := ?v1) ?hi1 (by kernel_rfl) (by kernel_rfl) (by kernel_rfl) ?hq1 (Or.inl ⟨?hw1, ?hy1⟩) (by assumption) ?rest1
                case hi1 => (simp only [List.getElem?_toArray, List.getElem?_cons_zero, List.getElem?_cons_succ]; exact rfl)
                case hw1 => rfl
                case hq1 => exact fun _ _ _ h => h
                case hy1 => (intro wv hSw; (try dsimp only at hSw); go_simp; try with_reducible rfl)
                try simp only [Act.put, List.setIfInBounds_toArray, List.set_cons_zero, List.set_cons_succ]
                refine wpAnyH_take (i := 2) (oi := ?o2) (v := ?v2) ?hi2 (by kernel_rfl) (by kernel_rfl) (by kernel_rfl) ?hq2 (Or.inl ⟨?hw2, ?hy2⟩) (by assumption) ?rest2
                case hi2 => (simp only [List.getElem?_toArray, List.getElem?_cons_zero, List.getElem?_cons_succ]; exact rfl)
                case hw2 => rfl
                case hq2 => exact fun _ _ _ h => h
                case hy2 => (intro wv hSw; (try dsimp only at hSw); go_simp; try with_reducible rfl)
                try simp only [Act.put, List.setIfInBounds_toArray, List.set_cons_zero, List.set_cons_succ]
                refine wpAnyH_take (i := 3) (oi := ?o3) (v := ?v3) ?hi3 (by kernel_rfl) (by kernel_rfl) (by kernel_rfl) ?hq3 (Or.inl ⟨?hw3, ?hy3⟩) (by assumption) ?rest3
                case hi3 => (simp only [List.getElem?_toArray, List.getElem?_cons_zero, List.getElem?_cons_succ]; exact rfl)
                case hw3 => rfl
                case hq3 => exact fun _ _ _ h => h
                case hy3 => (intro wv hSw; (try dsimp only at hSw); go_simp; try with_reducible rfl)
                try simp only [Act.put, List.setIfInBounds_toArray, List.set_cons_zero, List.set_cons_succ]
                refine wpAnyH_take (i := 4) (oi := ?o4) (v := ?v4) ?hi4 (by kernel_rfl) (by kernel_rfl) (by kernel_rfl) ?hq4 (Or.inl ⟨?hw4, ?hy4⟩) (by assumption) ?rest4
                case hi4 => (simp only [List.getElem?_toArray, List.getElem?_cons_zero, List.getElem?_cons_succ]; exact rfl)
                case hw4 => rfl
                case hq4 => exact fun _ _ _ h => h
                case hy4 => (intro wv hSw; (try dsimp only at hSw); go_simp; try with_reducible rfl)
                try simp only [Act.put, List.setIfInBounds_toArray, List.set_cons_zero, List.set_cons_succ]
                refine wpAnyH_take (i := 5) (oi := ?o5) (v := ?v5) ?hi5 (by kernel_rfl) (by kernel_rfl) (by kernel_rfl) ?hq5 (Or.inl ⟨?hw5, ?hy5⟩) (by assumption) ?rest5
                case hi5 => (simp only [List.getElem?_toArray, List.getElem?_cons_zero, List.getElem?_cons_succ]; exact rfl)
                case hw5 => rfl
                case hq5 => exact fun _ _ _ h => h
                case hy5 => (intro wv hSw; (try dsimp only at hSw); go_simp; try with_reducible rfl)
                try simp only [Act.put, List.setIfInBounds_toArray, List.set_cons_zero, List.set_cons_succ]
                refine wpAnyH_take (i := 6) (oi := ?o6) (v := ?v6) ?hi6 (by kernel_rfl) (by kernel_rfl) (by kernel_rfl) ?hq6 (Or.inl ⟨?hw6, ?hy6⟩) (by assumption) ?rest6
                case hi6 => (simp only [List.getElem?_toArray, List.getElem?_cons_zero, List.getElem?_cons_succ]; exact rfl)
                case hw6 => rfl
                case hq6 => exact fun _ _ _ h => h
                case hy6 => (intro wv hSw; (try dsimp only at hSw); go_simp; try with_reducible rfl)
                try simp only [Act.put, List.setIfInBounds_toArray, List.set_cons_zero, List.set_cons_succ]
                refine wpAnyH_take (i := 7) (oi := ?o7) (v := ?v7) ?hi7 (by kernel_rfl) (by kernel_rfl) (by kernel_rfl) ?hq7 (Or.inl ⟨?hw7, ?hy7⟩) (by assumption) ?rest7
                case hi7 => (simp only [List.getElem?_toArray, List.getElem?_cons_zero, List.getElem?_cons_succ]; exact rfl)
                case hw7 => rfl
                case hq7 => exact fun _ _ _ h => h
                case hy7 => (intro wv hSw; (try dsimp only at hSw); go_simp; try with_reducible rfl)
                try simp only [Act.put, List.setIfInBounds_toArray, List.set_cons_zero, List.set_cons_succ]
                refine wpAnyH_take (i := 8) (oi := ?o8) (v := ?v8) ?hi8 (by kernel_rfl) (by kernel_rfl) (by kernel_rfl) ?hq8 (Or.inl ⟨?hw8, ?hy8⟩) (by assumption) ?rest8
                case hi8 => (simp only [List.getElem?_toArray, List.getElem?_cons_zero, List.getElem?_cons_succ]; exact rfl)
                case hw8 => rfl
                case hq8 => exact fun _ _ _ h => h
                case hy8 => (intro wv hSw; (try dsimp only at hSw); go_simp; try with_reducible rfl)
                try simp only [Act.put, List.setIfInBounds_toArray, List.set_cons_zero, List.set_cons_succ]
                refine wpAnyH_ready (rs := [9]) (by kernel_rfl) (by simp) ?_
                refine AllReadyH.cons (o := ?o9) ?hi9 (fun K hK => ?rest9) AllReadyH.nil
                case hi9 => (simp only [List.getElem?_toArray, List.getElem?_cons_zero, List.getElem?_cons_succ]; exact rfl)
                go_simp
                refine hK.out _ _ (⟨later (bal (brefl wo) _) q1, later (bal (brefl wo) _) hcu⟩) (fun hHeld => ?_)
                clear hK K
                try simp only [Act.put, List.setIfInBounds_toArray, List.set_cons_zero, List.set_cons_succ]
                refine wpAnyH_ready (rs := [10]) (by kernel_rfl) (by simp) ?_
                refine AllReadyH.cons (o := ?o10) ?hi10 (fun K hK => ?rest10) AllReadyH.nil
                case hi10 => (simp only [List.getElem?_toArray, List.getElem?_cons_zero, List.getElem?_cons_succ]; exact rfl)
                refine step_app _ rfl (.tmp 62) (.tmp 64) 22 rfl w2.heap.size 3 i0 _ 1 8 Try.underlying22 hi0 hz0 hz1 hz2 rfl (by omega) (.slice (RA u) m (RC u)) m _ rfl (hI'.out.alloc _) _ _ 1 1 _ rfl rfl (by first | exact rd_new1d _ _ _ | exact rd_new1 _ _ _) (by simp [Value.oneCell']) (by simp only [maxLen]; omega) (by omega) (by simp; omega) ?_
                intro A4 k4 w4 ho4 hg4 hat4
                rw [ownBlock_blk] at hg4
                rw [ownBlock_blk, ownBlock_blk] at hat4
                have kb4 : ∀ g, some g ≠ blkOf (RA u) → g < wo.heap.size → w4.heap[g]? = wo.heap[g]? := (fun g h1 h2 => (hg4.block g (by simp; omega) h1).trans (Below.heap_alloc _ _ _ h2))
                have q4 : w4.cell? ⟨gb, 1, none⟩ = some (.slice (some ⟨gm, 0, none⟩) ch' ch') := (World.cell?_of_block (kb4 gb hne1 gbo)).trans q1
                have q5 : w4.cell? ⟨gm, u, none⟩ = some (.slice (RA u) m (RC u)) := (World.cell?_of_block (kb4 gm hne2 hg2)).trans hcu
                have q6 : w4.frozen? ⟨gm, u, none⟩ = false := (World.frozen?_of_block (kb4 gm hne2 hg2)).trans hfz
                refine hK.out _ _ (⟨q4, q5⟩) (fun hHeld => ?_)
                clear hK K
                try simp only [Act.put, List.setIfInBounds_toArray, List.set_cons_zero, List.set_cons_succ]
                refine wpAnyH_take (i := 11) (oi := ?o11) (v := ?v11) ?hi11 (by kernel_rfl) (by kernel_rfl) (by kernel_rfl) ?hq11 (Or.inl ⟨?hw11, ?hy11⟩) (by assumption) ?rest11
                case hi11 => (simp only [List.getElem?_toArray, List.getElem?_cons_zero, List.getElem?_cons_succ]; exact rfl)
                case hw11 => rfl
                case hq11 => exact fun _ _ _ h => h
                case hy11 => (intro wv hSw; (try dsimp only at hSw); go_simp; try with_reducible rfl)
                try simp only [Act.put, List.setIfInBounds_toArray, List.set_cons_zero, List.set_cons_succ]
                refine wpAnyH_done (by kernel_rfl) ?_ _
                refine popQ_step (o := ?o12) ?hi12 (fun K hK => ?rest12)
                case hi12 => (simp only [List.getElem?_toArray, List.getElem?_cons_zero, List.getElem?_cons_succ]; exact rfl)
                go_simp
                refine hK _ _ ?_
                clear hK K
                have hz4 : OwnZ w4 w2.heap.size A4 (m + 1) k4 (partTo l ch' j u ++ [x]) := by unfold OwnZ; rw [List.map_append]; exact ho4
                have hPs := Lib.hid (PartR.step Ho.out Hq.out Hk.out (by omega) Hu.out Hx.out hz4 hg4 hat4)
                clear hz4 ho4 hg4 hat4 kb4 q4 q5 q6 hHeld
                go_wp2_with fail
                go_roundw
                case rel => exact ⟨j + 1, by omega, by go_num, hPs.out, hsl.out⟩
                case measure => simp [intOf]; omega
            · have e : j = n := by omega
              subst e
              have hr : Hid (partB l rate (ch' : Int) bits = ⟨bits, ch', partTo l ch' j, 0⟩) := by
                show _ = _
                rw [hp2.out, if_pos]
                refine List.all_eq_true.2 fun x hx => ?_
                obtain ⟨i, hi, rfl⟩ := mem_ix hx
                exact Hft.out i (by have := Hn.out; omega)
              clear Bo
              go_wp2_with fail
              refine bodyPost_ret (results_blk rfl _ _ rfl (blk_set d0 d1 _ _).1 (blk_set d0 d1 _ _).2) rfl ?_
              refine blk_of hr.out ?_
              obtain ⟨⟨RA, RC, ho, hq⟩, hk⟩ := HP.out
              refine ⟨some ⟨gm, 0, none⟩, ch', RA, RC, rfl, ?_, below_set2 HBo.out (by omega) _ _⟩
              refine (ho.other fun q hq => ?_).base (by omega)
              have := (ho.lt q hq).1
              rw [Below.heap_setCell _ _ _ _ (by show q ≠ w.heap.size + 1; omega), Below.heap_setCell _ _ _ _ (by show q ≠ w.heap.size + 1; omega)]
    · have hr : Hid (partB l rate (ch' : Int) bits = errB 3) := by show _ = _; rw [hp.out, if_neg h0, if_pos h7]
      have e1 : ((z : Int) != 0) = true := by simp; omega
      go_enter Try.func13, Try.ntmps13
      go_wp2_with fail
      obtain ⟨w1, hw1, hz1, B1, m1, m2⟩ := part_boxes w rate ch' bits
      rw [← hw1]
      clear hw1
      (with_reducible refine (rightL_any _ _ _ _).mono ?_); rintro e w2 ⟨rfl, b2⟩
      rw [Hrt.out]
      obtain ⟨d0, d1, f0, f1⟩ := blk_cell ((b2.block _ (by omega)).trans m2)
      obtain ⟨k0, k1, k2⟩ := fmt_cell ((b2.block _ (by omega)).trans m1)
      have B2 := bth B1 b2
      go_wp2_with fail
      refine bodyPost_ret (results_blk rfl _ _ rfl (blk_set d0 d1 _ _).1 (blk_set d0 d1 _ _).2) rfl ?_
      exact blk_of hr.out (blk_err (below_set2 B2 (by omega) _ _))
end Go.Proofs.Ytfihbcpainlpcaa
