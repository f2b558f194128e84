/-
  Cut of the program.
-/
import Derived.Test.YtfihbcpainlpcaaProg
import Derived.Test.YtfihbcpainlpcaaQX
import Derived.Test.YtfihbcpainlpcaaQG
import Derived.Test.YtfihbcpainlpcaaQN
namespace Go.Proofs.Ytfihbcpainlpcaa
open Go.RowKit
set_option linter.unusedVariables false
set_option linter.unusedSimpArgs false

/-- behind the boxes of the block, of the span and of the result. -/
theorem cut_boxes (w : World) (bits : Int) (A : Option Addr) (r c : Nat) (a b : Int) : ∃ w1 : World, w1 = ((w.alloc (.cells #[.int .i64 bits, .slice A r c] 28)).alloc (.cells #[.int .i64 a, .int .i64 b] 35)).alloc (.cells #[.int .i64 0, .slice none 0 0] 28) ∧ w1.heap.size = w.heap.size + 3 ∧ Below w.heap.size w w1 ∧
    w1.heap[w.heap.size]? = some (.cells #[.int .i64 bits, .slice A r c] 28 (0, 0)) ∧ w1.heap[w.heap.size + 1]? = some (.cells #[.int .i64 a, .int .i64 b] 35 (0, 0)) ∧ w1.heap[w.heap.size + 2]? = some (.cells #[.int .i64 0, .slice none 0 0] 28 (0, 0)) := by
  refine ⟨_, rfl, by simp, bal (bal (bal (brefl w) _) _) _, ?_, ?_, ?_⟩
  · rw [Below.heap_alloc _ _ _ (by simp; omega), Below.heap_alloc _ _ _ (by simp)]; exact heap_alloc_new w _
  · rw [Below.heap_alloc _ _ _ (by simp)]
    have := heap_alloc_new (w.alloc (.cells #[.int .i64 bits, .slice A r c] 28)) (.cells #[.int .i64 a, .int .i64 b] 35)
    rwa [World.size_alloc] at this
  · have := heap_alloc_new ((w.alloc (.cells #[.int .i64 bits, .slice A r c] 28)).alloc (.cells #[.int .i64 a, .int .i64 b] 35)) (.cells #[.int .i64 0, .slice none 0 0] 28)
    rwa [World.size_alloc, World.size_alloc] at this
theorem span_cell {W : World} {g : Nat} {a b : Int} (h : W.heap[g]? = some (.cells #[.int .i64 a, .int .i64 b] 35 (0, 0))) : W.cell? ⟨g, 0, none⟩ = some (.int .i64 a) ∧ W.cell? ⟨g, 1, none⟩ = some (.int .i64 b) :=
  ⟨(cell_of_row _ _ _ _ _ _ h).trans rfl, (cell_of_row _ _ _ _ _ _ h).trans rfl⟩
/-- a part of a row reads. -/
theorem ints_part {k : IntKind} {w : World} {B g o a d : Nat} {l : List Int} (h : Ints k w B (some ⟨g, o, none⟩) l) (hd : a + d ≤ l.length) : Ints k w B (some ⟨g, o + a, none⟩) ((l.drop a).take d) := fun hn => by
  have hlen : ((l.drop a).take d).length = d := by simp; omega
  rw [List.length_map, hlen] at hn
  obtain ⟨b, off, e, hb, hc⟩ := h (by simp; omega)
  simp only [Option.some.injEq, Addr.mk.injEq, and_true] at e
  obtain ⟨rfl, rfl⟩ := e
  refine ⟨g, o + a, rfl, hb, fun i u hu => ?_⟩
  have hi : i < d := by
    have := (List.getElem?_eq_some_iff.1 hu).1
    rw [List.length_map, hlen] at this; exact this
  rw [Nat.add_assoc]
  refine hc (a + i) u ?_
  rw [List.map_take, List.map_drop, List.getElem?_take, if_pos hi, List.getElem?_drop] at hu
  exact hu

set_option maxRecDepth 100000 in
set_option maxHeartbeats 4000000 in
theorem cutL_any (R : Nat → List Int) (r : Nat) (hr1 : r ≤ 1000) (hR : ∀ i, i < r → (R i).length ≤ 100000) (RA : Nat → Option Addr) (RC : Nat → Nat) (A : Option Addr) (c : Nat) (bits a b : Int) (w : World) (h : Rw w w.heap.size A r RA RC R) :
    Calls Try.prog 17 #[.agg #[.int .i64 bits, .slice A r c], .agg #[.int .i64 a, .int .i64 b]] w (BlkQ (cutB bits R r a b) w) := by
  have HR := Lib.hid hR
  clear hR
  go_enter Try.func17, Try.ntmps17
  go_wp2_with fail
  obtain ⟨w1, hw1, hz1, B1, m0, m1, m2⟩ := cut_boxes w bits A r c a b
  rw [← hw1]
  clear hw1
  (with_reducible refine (bmayL_any R r hr1 HR.out RA RC _ _ _ _ ((h.below B1).more B1.size)).mono ?_); rintro e w2 ⟨rfl, b2⟩
  have M0 := Lib.hid ((b2.block _ (by omega)).trans m0)
  have M1 := Lib.hid ((b2.block _ (by omega)).trans m1)
  have M2 := Lib.hid ((b2.block _ (by omega)).trans m2)
  have B2 := bth B1 b2
  have hsz := b2.size
  obtain ⟨d0, d1, f0, f1⟩ := blk_cell M2.out
  clear m0 m1 m2 B1 b2
  cases hmay : bmayB bits R r with
  | false =>
    have hr : Hid (cutB bits R r a b = errB 1) := by show _ = _; simp [cutB, hmay]
    clear hmay
    go_wp2_with fail
    refine bodyPost_ret (results_blk rfl _ _ rfl (blk_set d0 d1 _ _).1 (blk_set d0 d1 _ _).2) rfl ?_
    exact blk_of hr.out (blk_err (below_set2 B2 (by omega) _ _))
  | true =>
    obtain ⟨m1, m2, m3, m4, m5, m6, m7⟩ := bmayB_true.1 hmay
    have hl : Hid (lenI R r = ((R 0).length : Int)) := by show _ = _; unfold lenI; rw [if_neg (by omega)]
    obtain ⟨n, hn⟩ : ∃ n, n = (R 0).length := ⟨_, rfl⟩
    have hp : Hid (cutB bits R r a b = if 0 ≤ a ∧ a < b ∧ b ≤ (n : Int) then ⟨bits, r, fun i => ((R i).drop a.toNat).take (b.toNat - a.toNat), 0⟩ else errB 6) := by show _ = _; rw [cutB, if_pos hmay, hn]
    have HL : Hid (∀ i, i < r → (R i).length = n) := fun i hi => by rw [hn]; exact (m7 i hi).1
    rw [← hn] at hl m5 m6
    have HB2 := Lib.hid B2
    have h2 := (h.below B2).more B2.size
    obtain ⟨k0, k1, _, _⟩ := blk_cell M0.out
    obtain ⟨k2, k3⟩ := span_cell M1.out
    clear hmay m7 hn d0 d1 f0 f1 B2
    go_upto_region 3 with fail
    go_cut [29] (fun s wx => s = .bool (!decide (0 ≤ a ∧ a < b ∧ b ≤ (n : Int))) ∧ Below w2.heap.size w2 wx)
    case first =>
      by_cases c1 : a < 0
      · have hd : Hid ((!decide (0 ≤ a ∧ a < b ∧ b ≤ (n : Int))) = true) := by show _ = _; rw [decide_eq_false (by omega)]; rfl
        have e1 : decide (a < 0) = true := decide_eq_true c1
        go_quiet (fail)
        go_wp2_with fail
        go_meet
        exact ⟨by rw [hd.out], below_drewN (brefl w2) _⟩
      · have e1 : decide (a < 0) = false := decide_eq_false c1
        by_cases c2 : b ≤ a
        · have hd : Hid ((!decide (0 ≤ a ∧ a < b ∧ b ≤ (n : Int))) = true) := by show _ = _; rw [decide_eq_false (by omega)]; rfl
          have e2 : decide (b ≤ a) = true := decide_eq_true c2
          go_quiet (fail)
          go_wp2_with fail
          go_meet
          exact ⟨by rw [hd.out], below_drewN (brefl w2) _⟩
        · have e2 : decide (b ≤ a) = false := decide_eq_false c2
          by_cases c3 : (n : Int) < b
          · have e3 : decide ((n : Int) < b) = true := decide_eq_true c3
            have hd : Hid ((!decide (0 ≤ a ∧ a < b ∧ b ≤ (n : Int))) = true) := by show _ = _; rw [decide_eq_false (by omega)]; rfl
            go_region_held3 (fun w' => w'.cell? ⟨w.heap.size, 0, none⟩ = some (.int .i64 bits) ∧ w'.cell? ⟨w.heap.size, 1, none⟩ = some (.slice A r c) ∧ w'.cell? ⟨w.heap.size + 1, 0, none⟩ = some (.int .i64 a) ∧ w'.cell? ⟨w.heap.size + 1, 1, none⟩ = some (.int .i64 b)) (first | (go_keep; done) | exact ⟨later b3 k0, later b3 k1, later b3 k2, later b3 k3⟩)
            (first | (go_at_call 20; (with_reducible refine (len_any R r hr1 RA RC _ _ _ _ (by first | exact h2 | exact (h2.below (brefl w2).drew).more (brefl w2).drew.size)).mono ?_); rintro e w3 ⟨rfl, b3'⟩; rw [hl.out]; have b3 : Below w2.heap.size w2 w3 := ⟨b3'.os, b3'.tape, b3'.output, b3'.size, b3'.block⟩))
            all_goals (go_wp2_with fail; go_meet)
            all_goals exact ⟨by rw [hd.out], b3⟩
          · have e3 : decide ((n : Int) < b) = false := decide_eq_false c3
            have hd : Hid ((!decide (0 ≤ a ∧ a < b ∧ b ≤ (n : Int))) = false) := by show _ = _; rw [decide_eq_true (by omega)]; rfl
            go_region_held3 (fun w' => w'.cell? ⟨w.heap.size, 0, none⟩ = some (.int .i64 bits) ∧ w'.cell? ⟨w.heap.size, 1, none⟩ = some (.slice A r c) ∧ w'.cell? ⟨w.heap.size + 1, 0, none⟩ = some (.int .i64 a) ∧ w'.cell? ⟨w.heap.size + 1, 1, none⟩ = some (.int .i64 b)) (first | (go_keep; done) | exact ⟨later b3 k0, later b3 k1, later b3 k2, later b3 k3⟩)
            (first | (go_at_call 20; (with_reducible refine (len_any R r hr1 RA RC _ _ _ _ (by first | exact h2 | exact (h2.below (brefl w2).drew).more (brefl w2).drew.size)).mono ?_); rintro e w3 ⟨rfl, b3'⟩; rw [hl.out]; have b3 : Below w2.heap.size w2 w3 := ⟨b3'.os, b3'.tape, b3'.output, b3'.size, b3'.block⟩))
            all_goals (go_wp2_with fail; go_meet)
            all_goals exact ⟨by rw [hd.out], b3⟩
    case rest =>
      obtain ⟨rfl, b3⟩ := hcut
      have B3 := bth HB2.out b3
      have hz3 := b3.size
      have M0' := Lib.hid ((b3.block _ (by omega)).trans M0.out)
      have M1' := Lib.hid ((b3.block _ (by omega)).trans M1.out)
      have M2' := Lib.hid ((b3.block _ (by omega)).trans M2.out)
      clear b3 k0 k1 k2 k3 h2
      by_cases hok : 0 ≤ a ∧ a < b ∧ b ≤ (n : Int)
      · rw [decide_eq_true hok, Bool.not_true]
        have hr : Hid (cutB bits R r a b = ⟨bits, r, fun i => ((R i).drop a.toNat).take (b.toNat - a.toNat), 0⟩) := by show _ = _; rw [hp.out, if_pos hok]
        obtain ⟨fa, rfl⟩ : ∃ k : Nat, a = (k : Int) := ⟨a.toNat, by omega⟩
        obtain ⟨fb, rfl⟩ : ∃ k : Nat, b = (k : Int) := ⟨b.toNat, by omega⟩
        have hab : fa < fb := by omega
        have hbn : fb ≤ n := by omega
        obtain ⟨k0', k1', _, _⟩ := blk_cell M0'.out
        obtain ⟨k2', k3'⟩ := span_cell M1'.out
        have ka1 : ∀ o, (wc.alloc o).cell? ⟨w.heap.size, 1, none⟩ = some (.slice A r c) := fun o => later (bal (brefl wc) o) k1'
        clear hok k2' k3'
        go_wp2_with fail
        obtain ⟨wx, hwx⟩ : ∃ wx, wx = wc.alloc (.cells #[.int .i64 bits, .slice none 0 0] 28) := ⟨_, rfl⟩
        rw [← hwx]
        have Hst : Hid (GrowR wx wc.heap.size bits (fun i => ((R i).drop fa).take (fb - fa)) 0 none 0 wx) := by show GrowR _ _ _ _ _ _ _ _; rw [hwx]; exact growR_start wc bits _
        have hgx : wc.heap.size < wx.heap.size := by rw [hwx]; simp
        have bx : Below wc.heap.size wc wx := by rw [hwx]; exact bal (brefl wc) _
        have N0 := Lib.hid ((bx.block _ (by omega)).trans M0'.out)
        have N1 := Lib.hid ((bx.block _ (by omega)).trans M1'.out)
        have N2 := Lib.hid ((bx.block _ (by omega)).trans M2'.out)
        have Bx := Lib.hid (bth B3 bx)
        clear hwx bx ka1 k0' k1'
        go_loopw [8, 37] (fun _ iv wr => ∃ (k : Nat) (A' : Option Addr) (c' : Nat), k ≤ r ∧ iv = .int .i64 k ∧ GrowR wx wc.heap.size bits (fun i => ((R i).drop fa).take (fb - fa)) k A' c' wr) (fun _ iv _ => r - (intOf iv).toNat)
        case atStart => exact ⟨0, none, 0, Nat.zero_le _, rfl, Hst.out⟩
        case round =>
          obtain ⟨k, A2, c2, hk, rfl, hG⟩ := hrel
          obtain ⟨wo, rfl⟩ : ∃ wo : World, wo = wr := ⟨_, rfl⟩
          obtain ⟨g0, g1, gf, ⟨RA2, RC2, ov⟩, hkp⟩ := hG
          have Bo := Bx.out.trans (hkp.below (B := w.heap.size) (fun q e => by subst e; omega) (by omega))
          obtain ⟨k2, k3⟩ := span_cell ((hkp.block (w.heap.size + 1) (by omega) (by omega)).trans N1.out)
          obtain ⟨k0, k1, _, _⟩ := blk_cell ((hkp.block w.heap.size (by omega) (by omega)).trans N0.out)
          obtain ⟨d0, d1, f0, f1⟩ := blk_cell ((hkp.block (w.heap.size + 2) (by omega) (by omega)).trans N2.out)
          have Ho := Lib.hid ov
          have Hk := Lib.hid hkp
          have HBo := Lib.hid Bo
          clear ov hkp
          by_cases hlt : k < r
          · have hos := Hk.out.size
            obtain ⟨bA, oA, rfl, hbA, hcc⟩ := h.out (by omega)
            have hc : wo.cell? ⟨bA, oA + k, none⟩ = some (.slice (RA k) (R k).length (RC k)) := (Bo.cell (p := ⟨bA, oA + k, none⟩) hbA).trans (hcc k hlt)
            have Hlk : Hid ((R k).length = n) := HL.out k hlt
            have hcap := h.cap k hlt
            rw [Hlk.out] at hc hcap
            obtain ⟨g, og, eg, hgw, _⟩ := (h.ints k hlt).lt (by rw [Hlk.out]; omega)
            rw [eg] at hc
            have hin0 := (h.ints k hlt).below Bo
            rw [eg] at hin0
            have hin := (ints_part (a := fa) (d := fb - fa) hin0 (by rw [Hlk.out]; omega)).more Bo.size
            obtain ⟨xs, hxs⟩ : ∃ xs, xs = ((R k).drop fa).take (fb - fa) := ⟨_, rfl⟩
            have Hxs := Lib.hid hxs
            have Hxl : Hid (fb - fa = xs.length) := by show _ = _; rw [hxs]; simp [Hlk.out]; omega
            rw [← hxs] at hin
            clear hxs
            have s1 : (fa : Int) ≤ (fb : Int) := by omega
            have s2 : (fb : Int) ≤ (RC k : Int) := by omega
            have s3 : (k : Int) < (r : Int) := by omega
            have s4 : (0 : Int) ≤ (k : Int) := by omega
            have hca1 : fa < RC k := by omega
            have hca2 : ¬ RC k = fa := by omega
            obtain ⟨i0, hi0, hz0, hz1, hz2⟩ := info_parts slice_info
            obtain ⟨j0, hj0, hjz0, hjz1, hjz2⟩ := info_parts intInfo
            clear eg hin0 hcc Bo k0 d0 d1 f0 f1
            go_upto_region 9 with fail
            refine wp_region_last 12 (fun w' => w'.cell? ⟨wc.heap.size, 1, none⟩ = some (.slice A2 k c2) ∧ w'.cell? ⟨w.heap.size + 1, 0, none⟩ = some (.int .i64 (fa : Int)) ∧ w'.cell? ⟨w.heap.size + 1, 1, none⟩ = some (.int .i64 (fb : Int))) (by kernel_rfl) (by kernel_rfl) (⟨g1, k2, k3⟩) (fun hHeld => ?_)
            simp only [List.pop_toArray, List.dropLast_cons_cons, List.dropLast_singleton]
            refine wpAnyH_take (i := 0) (oi := ?o0) (v := ?v0) ?hi0 (by kernel_rfl) (by kernel_rfl) (by kernel_rfl) ?hq0 (Or.inl ⟨?hw0, ?hy0⟩) (by assumption) ?rest0
            case hi0 => (simp only [List.getElem?_toArray, List.getElem?_cons_zero, List.getElem?_cons_succ]; exact rfl)
            case hw0 => rfl
            case hq0 => exact fun _ _ _ h => h
            case hy0 => (intro wv hSw; (try dsimp only at hSw); go_simp; try with_reducible rfl)
            try simp only [Act.put, List.setIfInBounds_toArray, List.set_cons_zero, List.set_cons_succ]
            refine wpAnyH_take (i := 1) (oi := ?o1) (v := ?v1) ?hi1 (by kernel_rfl) (by kernel_rfl) (by kernel_rfl) ?hq1 (Or.inl ⟨?hw1, ?hy1⟩) (by assumption) ?rest1
            case hi1 => (simp only [List.getElem?_toArray, List.getElem?_cons_zero, List.getElem?_cons_succ]; exact rfl)
            case hw1 => rfl
            case hq1 => exact fun _ _ _ h => h
            case hy1 => (intro wv hSw; (try dsimp only at hSw); go_simp; try with_reducible rfl)
            try simp only [Act.put, List.setIfInBounds_toArray, List.set_cons_zero, List.set_cons_succ]
            refine wpAnyH_take (i := 2) (oi := ?o2) (v := ?v2) ?hi2 (by kernel_rfl) (by kernel_rfl) (by kernel_rfl) ?hq2 (Or.inl ⟨?hw2, ?hy2⟩) (by assumption) ?rest2
            case hi2 => (simp only [List.getElem?_toArray, List.getElem?_cons_zero, List.getElem?_cons_succ]; exact rfl)
            case hw2 => rfl
            case hq2 => exact fun _ _ _ h => h
            case hy2 => (intro wv hSw; (try dsimp only at hSw); go_simp; try with_reducible rfl)
            try simp only [Act.put, List.setIfInBounds_toArray, List.set_cons_zero, List.set_cons_succ]
            refine wpAnyH_take (i := 3) (oi := ?o3) (v := ?v3) ?hi3 (by kernel_rfl) (by kernel_rfl) (by kernel_rfl) ?hq3 (Or.inl ⟨?hw3, ?hy3⟩) (by assumption) ?rest3
            case hi3 => (simp only [List.getElem?_toArray, List.getElem?_cons_zero, List.getElem?_cons_succ]; exact rfl)
            case hw3 => rfl
            case hq3 => exact fun _ _ _ h => h
            case hy3 => (intro wv hSw; (try dsimp only at hSw); go_simp; try with_reducible rfl)
            try simp only [Act.put, List.setIfInBounds_toArray, List.set_cons_zero, List.set_cons_succ]
            refine wpAnyH_take (i := 4) (oi := ?o4) (v := ?v4) ?hi4 (by kernel_rfl) (by kernel_rfl) (by kernel_rfl) ?hq4 (Or.inl ⟨?hw4, ?hy4⟩) (by assumption) ?rest4
            case hi4 => (simp only [List.getElem?_toArray, List.getElem?_cons_zero, List.getElem?_cons_succ]; exact rfl)
            case hw4 => rfl
            case hq4 => exact fun _ _ _ h => h
            case hy4 => (intro wv hSw; (try dsimp only at hSw); go_simp; try with_reducible rfl)
            try simp only [Act.put, List.setIfInBounds_toArray, List.set_cons_zero, List.set_cons_succ]
            refine wpAnyH_take (i := 5) (oi := ?o5) (v := ?v5) ?hi5 (by kernel_rfl) (by kernel_rfl) (by kernel_rfl) ?hq5 (Or.inl ⟨?hw5, ?hy5⟩) (by assumption) ?rest5
            case hi5 => (simp only [List.getElem?_toArray, List.getElem?_cons_zero, List.getElem?_cons_succ]; exact rfl)
            case hw5 => rfl
            case hq5 => exact fun _ _ _ h => h
            case hy5 => (intro wv hSw; (try dsimp only at hSw); go_simp; try with_reducible rfl)
            try simp only [Act.put, List.setIfInBounds_toArray, List.set_cons_zero, List.set_cons_succ]
            refine wpAnyH_take (i := 6) (oi := ?o6) (v := ?v6) ?hi6 (by kernel_rfl) (by kernel_rfl) (by kernel_rfl) ?hq6 (Or.inl ⟨?hw6, ?hy6⟩) (by assumption) ?rest6
            case hi6 => (simp only [List.getElem?_toArray, List.getElem?_cons_zero, List.getElem?_cons_succ]; exact rfl)
            case hw6 => rfl
            case hq6 => exact fun _ _ _ h => h
            case hy6 => (intro wv hSw; (try dsimp only at hSw); go_simp; try with_reducible rfl)
            try simp only [Act.put, List.setIfInBounds_toArray, List.set_cons_zero, List.set_cons_succ]
            refine wpAnyH_take (i := 7) (oi := ?o7) (v := ?v7) ?hi7 (by kernel_rfl) (by kernel_rfl) (by kernel_rfl) ?hq7 (Or.inl ⟨?hw7, ?hy7⟩) (by assumption) ?rest7
            case hi7 => (simp only [List.getElem?_toArray, List.getElem?_cons_zero, List.getElem?_cons_succ]; exact rfl)
            case hw7 => rfl
            case hq7 => exact fun _ _ _ h => h
            case hy7 => (intro wv hSw; (try dsimp only at hSw); go_simp; try with_reducible rfl)
            try simp only [Act.put, List.setIfInBounds_toArray, List.set_cons_zero, List.set_cons_succ]
            refine wpAnyH_ready (rs := [8]) (by kernel_rfl) (by simp) ?_
            refine AllReadyH.cons (o := ?o8) ?hi8 (fun K hK => ?rest8) AllReadyH.nil
            case hi8 => (simp only [List.getElem?_toArray, List.getElem?_cons_zero, List.getElem?_cons_succ]; exact rfl)
            go_simp
            (with_reducible refine (clone_any xs (fb - fa) Hxl.out (by omega) _ _ _ (by exact hin.drew.more (brefl wo).drew.size)).mono ?_)
            rintro e w5 ⟨A5, c5, rfl, ho5, b5'⟩
            rw [← Hxl.out] at ho5 ⊢
            have b5 : Below wo.heap.size wo w5 := ⟨b5'.os, b5'.tape, b5'.output, b5'.size, b5'.block⟩
            refine hK.out _ _ (⟨later b5 g1, later b5 k2, later b5 k3⟩) (fun hHeld => ?_)
            clear hK K
            try simp only [Act.put, List.setIfInBounds_toArray, List.set_cons_zero, List.set_cons_succ]
            refine wpAnyH_ready (rs := [9]) (by kernel_rfl) (by simp) ?_
            refine AllReadyH.cons (o := ?o9) ?hi9 (fun K hK => ?rest9) AllReadyH.nil
            case hi9 => (simp only [List.getElem?_toArray, List.getElem?_cons_zero, List.getElem?_cons_succ]; exact rfl)
            go_simp
            refine hK.out _ _ (⟨later (bal b5 _) g1, later (bal b5 _) k2, later (bal b5 _) k3⟩) (fun hHeld => ?_)
            clear hK K
            try simp only [Act.put, List.setIfInBounds_toArray, List.set_cons_zero, List.set_cons_succ]
            refine wpAnyH_ready (rs := [10]) (by kernel_rfl) (by simp) ?_
            refine AllReadyH.cons (o := ?o10) ?hi10 (fun K hK => ?rest10) AllReadyH.nil
            case hi10 => (simp only [List.getElem?_toArray, List.getElem?_cons_zero, List.getElem?_cons_succ]; exact rfl)
            refine step_app _ rfl (.tmp 42) (.tmp 50) 26 rfl wx.heap.size 22 i0 _ 1 24 Try.underlying26 hi0 hz0 hz1 hz2 rfl (by omega) (.slice A2 k c2) k _ rfl (World.ownsRow.alloc (Ho.out.below b5 (Nat.le_refl _)).outer _) _ _ 1 1 [.slice A5 (fb - fa) c5] rfl rfl (rd_new1 _ _ _) (by simp [Value.oneCell']) (by simp only [maxLen]; omega) (by omega) (by have := b5.size; have := Hk.out.size; simp; omega) ?_
            intro A7 c7 w7 ho7 hg7 hat7
            rw [ownBlock_blk] at hg7
            rw [ownBlock_blk, ownBlock_blk] at hat7
            have kp7 := grow_keep (g := wc.heap.size) Ho.out Hk.out b5 hg7
            have q1 : w7.cell? ⟨wc.heap.size, 1, none⟩ = some (.slice A2 k c2) := (World.cell?_of_block (kp7 _ hgx)).trans g1
            have q2 : w7.cell? ⟨w.heap.size + 1, 0, none⟩ = some (.int .i64 (fa : Int)) := (World.cell?_of_block (kp7 (w.heap.size + 1) (by omega))).trans k2
            have q3 : w7.cell? ⟨w.heap.size + 1, 1, none⟩ = some (.int .i64 (fb : Int)) := (World.cell?_of_block (kp7 (w.heap.size + 1) (by omega))).trans k3
            have q4 : w7.frozen? ⟨wc.heap.size, 1, none⟩ = false := (World.frozen?_of_block (kp7 _ hgx)).trans gf
            refine hK.out _ _ (⟨q1, q2, q3⟩) (fun hHeld => ?_)
            clear hK K
            try simp only [Act.put, List.setIfInBounds_toArray, List.set_cons_zero, List.set_cons_succ]
            refine wpAnyH_take (i := 11) (oi := ?o11) (v := ?v11) ?hi11 (by kernel_rfl) (by kernel_rfl) (by kernel_rfl) ?hq11 (Or.inl ⟨?hw11, ?hy11⟩) (by assumption) ?rest11
            case hi11 => (simp only [List.getElem?_toArray, List.getElem?_cons_zero, List.getElem?_cons_succ]; exact rfl)
            case hw11 => rfl
            case hq11 => exact fun _ _ _ h => h
            case hy11 => (intro wv hSw; (try dsimp only at hSw); go_simp; try with_reducible rfl)
            try simp only [Act.put, List.setIfInBounds_toArray, List.set_cons_zero, List.set_cons_succ]
            refine wpAnyH_done (by kernel_rfl) ?_ _
            refine popQ_step (o := ?o12) ?hi12 (fun K hK => ?rest12)
            case hi12 => (simp only [List.getElem?_toArray, List.getElem?_cons_zero, List.getElem?_cons_succ]; exact rfl)
            go_simp
            refine hK _ _ ?_
            clear hK K
            have hG' := Lib.hid (grow_step (bits := bits) g0 g1 gf Ho.out Hk.out hgx b5 (by have hh := ho5; rw [Hxs.out] at hh; exact hh) ho7 hg7 hat7)
            clear ho7 hg7 hat7 kp7 hHeld
            go_wp2_with fail
            go_roundw
            case rel => exact ⟨k + 1, A7, c7, by omega, by go_num, hG'.out⟩
            case measure => simp [intOf]; omega
          · have e : k = r := by omega
            subst e
            clear Bo
            go_wp2_with fail
            refine bodyPost_ret (results_blk rfl _ _ rfl (blk_set d0 d1 _ _).1 (blk_set d0 d1 _ _).2) rfl ?_
            refine blk_of hr.out ?_
            refine ⟨A2, c2, RA2, RC2, rfl, ?_, below_set2 HBo.out (by omega) _ _⟩
            refine OwnV.cong (R := fun i => ((R i).drop fa).take (fb - fa)) ((Ho.out.other fun q hq => ?_).base (by omega)) (fun i _ => by simp)
            have := (Ho.out.lt q hq).1
            rw [Below.heap_setCell _ _ _ _ (by show q ≠ w.heap.size + 2; omega), Below.heap_setCell _ _ _ _ (by show q ≠ w.heap.size + 2; omega)]
      · rw [decide_eq_false hok, Bool.not_false]
        have hr : Hid (cutB bits R r a b = errB 6) := by show _ = _; rw [hp.out, if_neg hok]
        obtain ⟨d0, d1, f0, f1⟩ := blk_cell M2'.out
        clear hok
        go_wp2_with fail
        refine bodyPost_ret (results_blk rfl _ _ rfl (blk_set d0 d1 _ _).1 (blk_set d0 d1 _ _).2) rfl ?_
        exact blk_of hr.out (blk_err (below_set2 B3 (by omega) _ _))

end Go.Proofs.Ytfihbcpainlpcaa
