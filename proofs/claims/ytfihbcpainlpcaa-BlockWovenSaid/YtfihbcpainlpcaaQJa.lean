/-
  Join of the program.
-/
import Derived.Test.YtfihbcpainlpcaaProg
import Derived.Test.YtfihbcpainlpcaaQX
import Derived.Test.YtfihbcpainlpcaaQN
import Derived.Test.YtfihbcpainlpcaaQG
import Derived.Test.YtfihbcpainlpcaaQJc
import Derived.Test.YtfihbcpainlpcaaQO
namespace Go.Proofs.Ytfihbcpainlpcaa
open Go.RowKit
set_option linter.unusedVariables false
set_option linter.unusedSimpArgs false

/-- behind the boxes of two blocks and of the result. -/
theorem join_boxes (w : World) (bits : Int) (A : Option Addr) (r c : Nat) (bits2 : Int) (A2 : Option Addr) (r2 c2 : Nat) : ∃ w1 : World, w1 = ((w.alloc (.cells #[.int .i64 bits, .slice A r c] 28)).alloc (.cells #[.int .i64 bits2, .slice A2 r2 c2] 28)).alloc (.cells #[.int .i64 0, .slice none 0 0] 28) ∧ w1.heap.size = w.heap.size + 3 ∧ Below w.heap.size w w1 ∧
    w1.heap[w.heap.size]? = some (.cells #[.int .i64 bits, .slice A r c] 28 (0, 0)) ∧ w1.heap[w.heap.size + 1]? = some (.cells #[.int .i64 bits2, .slice A2 r2 c2] 28 (0, 0)) ∧ w1.heap[w.heap.size + 2]? = some (.cells #[.int .i64 0, .slice none 0 0] 28 (0, 0)) := by
  refine ⟨_, rfl, by simp, bal (bal (bal (brefl w) _) _) _, ?_, ?_, ?_⟩
  · rw [Below.heap_alloc _ _ _ (by simp; omega), Below.heap_alloc _ _ _ (by simp)]; exact heap_alloc_new w _
  · rw [Below.heap_alloc _ _ _ (by simp)]
    have := heap_alloc_new (w.alloc (.cells #[.int .i64 bits, .slice A r c] 28)) (.cells #[.int .i64 bits2, .slice A2 r2 c2] 28)
    rwa [World.size_alloc] at this
  · have := heap_alloc_new ((w.alloc (.cells #[.int .i64 bits, .slice A r c] 28)).alloc (.cells #[.int .i64 bits2, .slice A2 r2 c2] 28)) (.cells #[.int .i64 0, .slice none 0 0] 28)
    rwa [World.size_alloc, World.size_alloc] at this
/-- two rows in a literal. -/
theorem rw_pair (w : World) (A1 A2 : Option Addr) (c1 c2 : Nat) (l1 l2 : List Int) (i1 : Ints .i64 w w.heap.size A1 l1) (i2 : Ints .i64 w w.heap.size A2 l2) (m1 : l1.length ≤ 9223372036854775807) (m2 : l2.length ≤ 9223372036854775807) (k1 : l1.length ≤ c1) (k2 : l2.length ≤ c2) :
    Rw (w.alloc (.cells #[.slice A1 l1.length c1, .slice A2 l2.length c2] 22)) (w.alloc (.cells #[.slice A1 l1.length c1, .slice A2 l2.length c2] 22)).heap.size (some ⟨w.heap.size, 0, none⟩) 2 (two A1 A2) (two c1 c2) (two l1 l2) := by
  have hb := bal (brefl w) (.cells #[.slice A1 l1.length c1, .slice A2 l2.length c2] 22)
  refine ⟨fun _ => ⟨w.heap.size, 0, rfl, by simp, fun i hi => ?_⟩, fun i hi => ?_, fun i hi => ?_, fun i hi => ?_⟩
  · have := heap_alloc_new w (.cells #[.slice A1 l1.length c1, .slice A2 l2.length c2] 22)
    rcases two_lt hi with rfl | rfl <;> exact (cell_of_row _ _ _ _ _ _ this).trans rfl
  · rcases two_lt hi with rfl | rfl
    · exact (i1.below hb).more hb.size
    · exact (i2.below hb).more hb.size
  · rcases two_lt hi with rfl | rfl
    · exact m1
    · exact m2
  · rcases two_lt hi with rfl | rfl
    · exact k1
    · exact k2

set_option maxRecDepth 100000 in
set_option maxHeartbeats 8000000 in
theorem joinL_any (R R2 : Nat → List Int) (r r2 : Nat) (hr1 : r ≤ 1000) (hr2 : r2 ≤ 1000) (hR : ∀ i, i < r → (R i).length ≤ 100000) (hR2 : ∀ i, i < r2 → (R2 i).length ≤ 100000) (RA RA2 : Nat → Option Addr) (RC RC2 : Nat → Nat) (A A2 : Option Addr) (c c2 : Nat) (bits bits2 : Int) (w : World) (h : Rw w w.heap.size A r RA RC R) (h2 : Rw w w.heap.size A2 r2 RA2 RC2 R2) :
    Calls Try.prog 27 #[.agg #[.int .i64 bits, .slice A r c], .agg #[.int .i64 bits2, .slice A2 r2 c2]] w (BlkQ (joinB bits R r bits2 R2 r2) w) := by
  have HR := Lib.hid hR
  have HR2 := Lib.hid hR2
  clear hR hR2
  go_enter Try.func27, Try.ntmps27
  go_wp2_with fail
  obtain ⟨w1, hw1, hz1, B1, m0, m1, m2⟩ := join_boxes w bits A r c bits2 A2 r2 c2
  rw [← hw1]
  clear hw1
  (with_reducible refine (bmayL_any R r hr1 HR.out RA RC _ _ _ _ ((h.below B1).more B1.size)).mono ?_); rintro e w2 ⟨rfl, b2⟩
  have M0 := Lib.hid ((b2.block _ (by omega)).trans m0)
  have M1 := Lib.hid ((b2.block _ (by omega)).trans m1)
  have M2 := Lib.hid ((b2.block _ (by omega)).trans m2)
  have B2 := bth B1 b2
  have hsz := b2.size
  clear m0 m1 m2 B1 b2
  cases hmay : bmayB bits R r with
  | false =>
    obtain ⟨d0, d1, f0, f1⟩ := blk_cell M2.out
    have hr : Hid (joinB bits R r bits2 R2 r2 = errB 1) := by show _ = _; simp [joinB, hmay]
    clear hmay
    go_wp2_with fail
    refine bodyPost_ret (results_blk rfl _ _ rfl (blk_set d0 d1 _ _).1 (blk_set d0 d1 _ _).2) rfl ?_
    exact blk_of hr.out (blk_err (below_set2 B2 (by omega) _ _))
  | true =>
    have Hmay := Lib.hid hmay
    obtain ⟨k2, k3, _, _⟩ := blk_cell M1.out
    clear hmay
    go_wp2_with fail
    (with_reducible refine (bmayL_any R2 r2 hr2 HR2.out RA2 RC2 _ _ _ _ ((h2.below B2).more B2.size)).mono ?_); rintro e w3 ⟨rfl, b3⟩
    have N0 := Lib.hid ((b3.block _ (by omega)).trans M0.out)
    have N1 := Lib.hid ((b3.block _ (by omega)).trans M1.out)
    have N2 := Lib.hid ((b3.block _ (by omega)).trans M2.out)
    have B3 := bth B2 b3
    have hsz3 := b3.size
    clear b3 k2 k3 M0 M1 M2
    cases hmay2 : bmayB bits2 R2 r2 with
    | false =>
      obtain ⟨d0, d1, f0, f1⟩ := blk_cell N2.out
      have hr : Hid (joinB bits R r bits2 R2 r2 = errB 1) := by show _ = _; simp [joinB, hmay2]
      clear hmay2
      go_wp2_with fail
      refine bodyPost_ret (results_blk rfl _ _ rfl (blk_set d0 d1 _ _).1 (blk_set d0 d1 _ _).2) rfl ?_
      exact blk_of hr.out (blk_err (below_set2 B3 (by omega) _ _))
    | true =>
      have hj : Hid (joinB bits R r bits2 R2 r2 = if bits = bits2 ∧ r = r2 then (if (R 0).length + (R2 0).length ≤ 4096 then ⟨bits, r, fun i => R i ++ R2 i, 0⟩ else errB 4) else errB 2) := by
        show _ = _; rw [joinB, if_pos ⟨Hmay.out, hmay2⟩]
      obtain ⟨m1, m2, m3, m4, m5, m6, m7⟩ := bmayB_true.1 Hmay.out
      obtain ⟨_, _, _, _, n5, n6, n7⟩ := bmayB_true.1 hmay2
      obtain ⟨k0, k1, _, _⟩ := blk_cell N0.out
      obtain ⟨k2, k3, _, _⟩ := blk_cell N1.out
      obtain ⟨d0, d1, f0, f1⟩ := blk_cell N2.out
      clear hmay2
      by_cases hbb : bits = bits2
      · by_cases hrr : r = r2
        · subst hbb
          subst hrr
          have e1 : (bits != bits) = false := by simp
          have e2 : ((r : Int) != (r : Int)) = false := by simp
          obtain ⟨n, hn⟩ : ∃ n, n = (R 0).length := ⟨_, rfl⟩
          obtain ⟨n2, hn2⟩ : ∃ n2, n2 = (R2 0).length := ⟨_, rfl⟩
          have hl : Hid (lenI R r = (n : Int)) := by show _ = _; unfold lenI; rw [if_neg (by omega), hn]
          have hl2 : Hid (lenI R2 r = (n2 : Int)) := by show _ = _; unfold lenI; rw [if_neg (by omega), hn2]
          have hj2 : Hid (joinB bits R r bits R2 r = if n + n2 ≤ 4096 then ⟨bits, r, fun i => R i ++ R2 i, 0⟩ else errB 4) := by show _ = _; rw [hj.out, if_pos ⟨rfl, rfl⟩, hn, hn2]
          have HL : Hid (∀ i, i < r → (R i).length = n) := fun i hi => by rw [hn]; exact (m7 i hi).1
          have HL2 : Hid (∀ i, i < r → (R2 i).length = n2) := fun i hi => by rw [hn2]; exact (n7 i hi).1
          rw [← hn] at m5 m6
          rw [← hn2] at n5 n6
          have h3 := (h.below B3).more B3.size
          have h23 := (h2.below B3).more B3.size
          have HB3 := Lib.hid B3
          clear m7 n7 hn hn2 hj d0 d1 f0 f1 B3
          go_upto_region 5 with fail
          go_cut [37] (fun s wx => s = .bool (!decide (n + n2 ≤ 4096)) ∧ Below w3.heap.size w3 wx)
          case first =>
            have es : (n : Int) + (n2 : Int) = ((n + n2 : Nat) : Int) := by omega
            obtain ⟨q, hq⟩ : ∃ q, q = n + n2 := ⟨_, rfl⟩
            rw [← hq] at es
            have hqb : q ≤ 10000 := by omega
            have ew : IntKind.i64.wrap (q : Int) = (q : Int) := IntWalk.i64_in (q : Int) (by omega)
            have Hq := Lib.hid hq
            clear hq
            by_cases c3 : (4096 : Int) < (q : Int)
            · have e3 : decide ((4096 : Int) < (q : Int)) = true := decide_eq_true c3
              have hd : Hid ((!decide (n + n2 ≤ 4096)) = true) := by show _ = _; rw [decide_eq_false (by have := Hq.out; omega)]; rfl
              go_region_held3 (fun w' => w'.cell? ⟨w.heap.size, 0, none⟩ = some (.int .i64 bits) ∧ w'.cell? ⟨w.heap.size, 1, none⟩ = some (.slice A r c) ∧ w'.cell? ⟨w.heap.size + 1, 0, none⟩ = some (.int .i64 bits) ∧ w'.cell? ⟨w.heap.size + 1, 1, none⟩ = some (.slice A2 r c2)) (first | (go_keep; done) | exact ⟨later b4 k0, later b4 k1, later b4 k2, later b4 k3⟩ | exact ⟨later (bth b4 b5) k0, later (bth b4 b5) k1, later (bth b4 b5) k2, later (bth b4 b5) k3⟩)
            (first | (go_at_call 20; (with_reducible refine (len_any R r hr1 RA RC A c _ _ (by first | exact h3 | exact (h3.below (brefl w3).drew).more (brefl w3).drew.size)).mono ?_); rintro e w4 ⟨rfl, b4'⟩; rw [hl.out]; have b4 : Below w3.heap.size w3 w4 := ⟨b4'.os, b4'.tape, b4'.output, b4'.size, b4'.block⟩; have h4 := (h23.below b4).more b4.size) | (go_at_call 20; (with_reducible refine (len_any R2 r hr1 RA2 RC2 A2 c2 _ _ (by exact h4)).mono ?_); rintro e w5 ⟨rfl, b5'⟩; rw [hl2.out]; have b5 : Below w4.heap.size w4 w5 := ⟨b5'.os, b5'.tape, b5'.output, b5'.size, b5'.block⟩))
              all_goals (go_wp2_with fail; go_meet)
              all_goals exact ⟨by rw [hd.out], bth b4 b5⟩
            · have e3 : decide ((4096 : Int) < (q : Int)) = false := decide_eq_false c3
              have hd : Hid ((!decide (n + n2 ≤ 4096)) = false) := by show _ = _; rw [decide_eq_true (by have := Hq.out; omega)]; rfl
              go_region_held3 (fun w' => w'.cell? ⟨w.heap.size, 0, none⟩ = some (.int .i64 bits) ∧ w'.cell? ⟨w.heap.size, 1, none⟩ = some (.slice A r c) ∧ w'.cell? ⟨w.heap.size + 1, 0, none⟩ = some (.int .i64 bits) ∧ w'.cell? ⟨w.heap.size + 1, 1, none⟩ = some (.slice A2 r c2)) (first | (go_keep; done) | exact ⟨later b4 k0, later b4 k1, later b4 k2, later b4 k3⟩ | exact ⟨later (bth b4 b5) k0, later (bth b4 b5) k1, later (bth b4 b5) k2, later (bth b4 b5) k3⟩)
            (first | (go_at_call 20; (with_reducible refine (len_any R r hr1 RA RC A c _ _ (by first | exact h3 | exact (h3.below (brefl w3).drew).more (brefl w3).drew.size)).mono ?_); rintro e w4 ⟨rfl, b4'⟩; rw [hl.out]; have b4 : Below w3.heap.size w3 w4 := ⟨b4'.os, b4'.tape, b4'.output, b4'.size, b4'.block⟩; have h4 := (h23.below b4).more b4.size) | (go_at_call 20; (with_reducible refine (len_any R2 r hr1 RA2 RC2 A2 c2 _ _ (by exact h4)).mono ?_); rintro e w5 ⟨rfl, b5'⟩; rw [hl2.out]; have b5 : Below w4.heap.size w4 w5 := ⟨b5'.os, b5'.tape, b5'.output, b5'.size, b5'.block⟩))
              all_goals (go_wp2_with fail; go_meet)
              all_goals exact ⟨by rw [hd.out], bth b4 b5⟩
          case rest =>
            obtain ⟨rfl, b4⟩ := hcut
            have B4 := bth HB3.out b4
            have hz4 := b4.size
            have P0 := Lib.hid ((b4.block _ (by omega)).trans N0.out)
            have P1 := Lib.hid ((b4.block _ (by omega)).trans N1.out)
            have P2 := Lib.hid ((b4.block _ (by omega)).trans N2.out)
            clear b4 k0 k1 k2 k3 h3 h23
            by_cases hok : n + n2 ≤ 4096
            · rw [decide_eq_true hok, Bool.not_true]
              have hr : Hid (joinB bits R r bits R2 r = ⟨bits, r, fun i => R i ++ R2 i, 0⟩) := by show _ = _; rw [hj2.out, if_pos hok]
              obtain ⟨k0', k1', _, _⟩ := blk_cell P0.out
              have ka1 : ∀ o, (wc.alloc o).cell? ⟨w.heap.size, 1, none⟩ = some (.slice A r c) := fun o => later (bal (brefl wc) o) k1'
              go_wp2_with fail
              obtain ⟨wx, hwx⟩ : ∃ wx, wx = wc.alloc (.cells #[.int .i64 bits, .slice none 0 0] 28) := ⟨_, rfl⟩
              rw [← hwx]
              have Hst : Hid (GrowR wx wc.heap.size bits (fun i => R i ++ R2 i) 0 none 0 wx) := by show GrowR _ _ _ _ _ _ _ _; rw [hwx]; exact growR_start wc bits _
              have hgx : wc.heap.size < wx.heap.size := by rw [hwx]; simp
              have bx : Below wc.heap.size wc wx := by rw [hwx]; exact bal (brefl wc) _
              have Q0 := Lib.hid ((bx.block _ (by omega)).trans P0.out)
              have Q1 := Lib.hid ((bx.block _ (by omega)).trans P1.out)
              have Q2 := Lib.hid ((bx.block _ (by omega)).trans P2.out)
              have Bx := Lib.hid (bth B4 bx)
              clear hwx bx ka1 k0' k1'
              go_loopw [7, 45] (fun _ iv wr => ∃ (k : Nat) (A' : Option Addr) (c' : Nat), k ≤ r ∧ iv = .int .i64 k ∧ GrowR wx wc.heap.size bits (fun i => R i ++ R2 i) k A' c' wr) (fun _ iv _ => r - (intOf iv).toNat)
              case atStart => exact ⟨0, none, 0, Nat.zero_le _, rfl, Hst.out⟩
              case round =>
                obtain ⟨k, A5, c5, hk, rfl, hG⟩ := hrel
                obtain ⟨wo, rfl⟩ : ∃ wo : World, wo = wr := ⟨_, rfl⟩
                obtain ⟨g0, g1, gf, ⟨RA5, RC5, ov⟩, hkp⟩ := hG
                have Bo := Bx.out.trans (hkp.below (B := w.heap.size) (fun q e => by subst e; omega) (by omega))
                obtain ⟨k0, k1, _, _⟩ := blk_cell ((hkp.block w.heap.size (by omega) (by omega)).trans Q0.out)
                obtain ⟨k2, k3, _, _⟩ := blk_cell ((hkp.block (w.heap.size + 1) (by omega) (by omega)).trans Q1.out)
                obtain ⟨d0, d1, f0, f1⟩ := blk_cell ((hkp.block (w.heap.size + 2) (by omega) (by omega)).trans Q2.out)
                have Ho := Lib.hid ov
                have Hk := Lib.hid hkp
                have HBo := Lib.hid Bo
                clear ov hkp
                by_cases hlt : k < r
                · have hos := Hk.out.size
                  obtain ⟨bA, oA, rfl, hbA, hcc⟩ := h.out (by omega)
                  obtain ⟨bB, oB, rfl, hbB, hcc2⟩ := h2.out (by omega)
                  have hc : wo.cell? ⟨bA, oA + k, none⟩ = some (.slice (RA k) (R k).length (RC k)) := (Bo.cell (p := ⟨bA, oA + k, none⟩) hbA).trans (hcc k hlt)
                  have hc2 : wo.cell? ⟨bB, oB + k, none⟩ = some (.slice (RA2 k) (R2 k).length (RC2 k)) := (Bo.cell (p := ⟨bB, oB + k, none⟩) hbB).trans (hcc2 k hlt)
                  have Hl1 : Hid ((R k).length = n) := HL.out k hlt
                  have Hl2 : Hid ((R2 k).length = n2) := HL2.out k hlt
                  have hcap := h.cap k hlt
                  have hcap2 := h2.cap k hlt
                  have hin := ((h.ints k hlt).below Bo).more Bo.size
                  have hin2 := ((h2.ints k hlt).below Bo).more Bo.size
                  have hpr := Lib.hid (rw_pair wo (RA k) (RA2 k) (RC k) (RC2 k) (R k) (R2 k) hin hin2 (by rw [Hl1.out]; omega) (by rw [Hl2.out]; omega) hcap hcap2)
                  rw [Hl1.out] at hc hcap
                  rw [Hl2.out] at hc2 hcap2
                  obtain ⟨xs, hxs⟩ : ∃ xs, xs = R k ++ R2 k := ⟨_, rfl⟩
                  have Hxs := Lib.hid hxs
                  have Hxl : Hid (n + n2 = xs.length) := by show _ = _; rw [hxs, List.length_append, Hl1.out, Hl2.out]
                  clear hxs
                  have hcat : Hid (catN (two (R k) (R2 k)) 2 = xs) := by show _ = _; rw [Hxs.out]; simp [catN, two]
                  have hcl : ∀ i, i < 2 → (two (R k) (R2 k) i).length ≤ 10000 := fun i hi => by rcases two_lt hi with rfl | rfl <;> simp [two, Hl1.out, Hl2.out] <;> omega
                  have hpair : Rw (wo.alloc (.cells #[.slice (RA k) n (RC k), .slice (RA2 k) n2 (RC2 k)] 22)).drew (wo.alloc (.cells #[.slice (RA k) n (RC k), .slice (RA2 k) n2 (RC2 k)] 22)).drew.heap.size (some ⟨wo.heap.size, 0, none⟩) 2 (two (RA k) (RA2 k)) (two (RC k) (RC2 k)) (two (R k) (R2 k)) := by
                    have := hpr.out
                    rw [Hl1.out, Hl2.out] at this
                    exact ⟨this.out, this.ints, this.len, this.cap⟩
                  have s3 : (k : Int) < (r : Int) := by omega
                  have s4 : (0 : Int) ≤ (k : Int) := by omega
                  obtain ⟨i0, hi0, hz0, hz1, hz2⟩ := info_parts slice_info
                  obtain ⟨j0, hj0, hjz0, hjz1, hjz2⟩ := info_parts intInfo
                  clear hcc hcc2 Bo k0 k2 d0 d1 f0 f1
                  go_upto_region 11 with fail
                  refine wp_region_last 17 (fun w' => w'.cell? ⟨wc.heap.size, 1, none⟩ = some (.slice A5 k c5) ∧ w'.cell? ⟨w.heap.size, 1, none⟩ = some (.slice (some ⟨bA, oA, none⟩) r c) ∧ w'.cell? ⟨w.heap.size + 1, 1, none⟩ = some (.slice (some ⟨bB, oB, none⟩) r c2) ∧ w'.cell? ⟨bA, oA + k, none⟩ = some (.slice (RA k) n (RC k)) ∧ w'.cell? ⟨bB, oB + k, none⟩ = some (.slice (RA2 k) n2 (RC2 k))) (by kernel_rfl) (by kernel_rfl) (⟨g1, k1, k3, hc, hc2⟩) (fun hHeld => ?_)
                  simp only [List.pop_toArray, List.dropLast_cons_cons, List.dropLast_singleton]
                  refine wpAnyH_take (i := 0) (oi := ?o0) (v := ?v0) ?hi0 (by kernel_rfl) (by kernel_rfl) (by kernel_rfl) ?hq0 (Or.inl ⟨?hw0, ?hy0⟩) (by assumption) ?rest0
                  case hi0 => (simp only [List.getElem?_toArray, List.getElem?_cons_zero, List.getElem?_cons_succ]; exact rfl)
                  case hw0 => rfl
                  case hq0 => exact fun _ _ _ h => h
                  case hy0 => (intro wv hSw; (try dsimp only at hSw); go_simp; try with_reducible rfl)
                  try simp only [Act.put, List.setIfInBounds_toArray, List.set_cons_zero, List.set_cons_succ]
                  refine wpAnyH_take (i := 1) (oi := ?o1) (v := ?v1) ?hi1 (by kernel_rfl) (by kernel_rfl) (by kernel_rfl) ?hq1 (Or.inl ⟨?hw1, ?hy1⟩) (by assumption) ?rest1
                  case hi1 => (simp only [List.getElem?_toArray, List.getElem?_cons_zero, List.getElem?_cons_succ]; exact rfl)
                  case hw1 => rfl
                  case hq1 => exact fun _ _ _ h => h
                  case hy1 => (intro wv hSw; (try dsimp only at hSw); go_simp; try with_reducible rfl)
                  try simp only [Act.put, List.setIfInBounds_toArray, List.set_cons_zero, List.set_cons_succ]
                  refine wpAnyH_take (i := 2) (oi := ?o2) (v := ?v2) ?hi2 (by kernel_rfl) (by kernel_rfl) (by kernel_rfl) ?hq2 (Or.inl ⟨?hw2, ?hy2⟩) (by assumption) ?rest2
                  case hi2 => (simp only [List.getElem?_toArray, List.getElem?_cons_zero, List.getElem?_cons_succ]; exact rfl)
                  case hw2 => rfl
                  case hq2 => exact fun _ _ _ h => h
                  case hy2 => (intro wv hSw; (try dsimp only at hSw); go_simp; try with_reducible rfl)
                  try simp only [Act.put, List.setIfInBounds_toArray, List.set_cons_zero, List.set_cons_succ]
                  refine wpAnyH_take (i := 3) (oi := ?o3) (v := ?v3) ?hi3 (by kernel_rfl) (by kernel_rfl) (by kernel_rfl) ?hq3 (Or.inl ⟨?hw3, ?hy3⟩) (by assumption) ?rest3
                  case hi3 => (simp only [List.getElem?_toArray, List.getElem?_cons_zero, List.getElem?_cons_succ]; exact rfl)
                  case hw3 => rfl
                  case hq3 => exact fun _ _ _ h => h
                  case hy3 => (intro wv hSw; (try dsimp only at hSw); go_simp; try with_reducible rfl)
                  try simp only [Act.put, List.setIfInBounds_toArray, List.set_cons_zero, List.set_cons_succ]
                  refine wpAnyH_take (i := 4) (oi := ?o4) (v := ?v4) ?hi4 (by kernel_rfl) (by kernel_rfl) (by kernel_rfl) ?hq4 (Or.inl ⟨?hw4, ?hy4⟩) (by assumption) ?rest4
                  case hi4 => (simp only [List.getElem?_toArray, List.getElem?_cons_zero, List.getElem?_cons_succ]; exact rfl)
                  case hw4 => rfl
                  case hq4 => exact fun _ _ _ h => h
                  case hy4 => (intro wv hSw; (try dsimp only at hSw); go_simp; try with_reducible rfl)
                  try simp only [Act.put, List.setIfInBounds_toArray, List.set_cons_zero, List.set_cons_succ]
                  refine wpAnyH_take (i := 5) (oi := ?o5) (v := ?v5) ?hi5 (by kernel_rfl) (by kernel_rfl) (by kernel_rfl) ?hq5 (Or.inl ⟨?hw5, ?hy5⟩) (by assumption) ?rest5
                  case hi5 => (simp only [List.getElem?_toArray, List.getElem?_cons_zero, List.getElem?_cons_succ]; exact rfl)
                  case hw5 => rfl
                  case hq5 => exact fun _ _ _ h => h
                  case hy5 => (intro wv hSw; (try dsimp only at hSw); go_simp; try with_reducible rfl)
                  try simp only [Act.put, List.setIfInBounds_toArray, List.set_cons_zero, List.set_cons_succ]
                  refine wpAnyH_take (i := 6) (oi := ?o6) (v := ?v6) ?hi6 (by kernel_rfl) (by kernel_rfl) (by kernel_rfl) ?hq6 (Or.inl ⟨?hw6, ?hy6⟩) (by assumption) ?rest6
                  case hi6 => (simp only [List.getElem?_toArray, List.getElem?_cons_zero, List.getElem?_cons_succ]; exact rfl)
                  case hw6 => rfl
                  case hq6 => exact fun _ _ _ h => h
                  case hy6 => (intro wv hSw; (try dsimp only at hSw); go_simp; try with_reducible rfl)
                  try simp only [Act.put, List.setIfInBounds_toArray, List.set_cons_zero, List.set_cons_succ]
                  refine wpAnyH_take (i := 7) (oi := ?o7) (v := ?v7) ?hi7 (by kernel_rfl) (by kernel_rfl) (by kernel_rfl) ?hq7 (Or.inl ⟨?hw7, ?hy7⟩) (by assumption) ?rest7
                  case hi7 => (simp only [List.getElem?_toArray, List.getElem?_cons_zero, List.getElem?_cons_succ]; exact rfl)
                  case hw7 => rfl
                  case hq7 => exact fun _ _ _ h => h
                  case hy7 => (intro wv hSw; (try dsimp only at hSw); go_simp; try with_reducible rfl)
                  try simp only [Act.put, List.setIfInBounds_toArray, List.set_cons_zero, List.set_cons_succ]
                  refine wpAnyH_take (i := 8) (oi := ?o8) (v := ?v8) ?hi8 (by kernel_rfl) (by kernel_rfl) (by kernel_rfl) ?hq8 (Or.inl ⟨?hw8, ?hy8⟩) (by assumption) ?rest8
                  case hi8 => (simp only [List.getElem?_toArray, List.getElem?_cons_zero, List.getElem?_cons_succ]; exact rfl)
                  case hw8 => rfl
                  case hq8 => exact fun _ _ _ h => h
                  case hy8 => (intro wv hSw; (try dsimp only at hSw); go_simp; try with_reducible rfl)
                  try simp only [Act.put, List.setIfInBounds_toArray, List.set_cons_zero, List.set_cons_succ]
                  refine wpAnyH_take (i := 9) (oi := ?o9) (v := ?v9) ?hi9 (by kernel_rfl) (by kernel_rfl) (by kernel_rfl) ?hq9 (Or.inl ⟨?hw9, ?hy9⟩) (by assumption) ?rest9
                  case hi9 => (simp only [List.getElem?_toArray, List.getElem?_cons_zero, List.getElem?_cons_succ]; exact rfl)
                  case hw9 => rfl
                  case hq9 => exact fun _ _ _ h => h
                  case hy9 => (intro wv hSw; (try dsimp only at hSw); go_simp; try with_reducible rfl)
                  try simp only [Act.put, List.setIfInBounds_toArray, List.set_cons_zero, List.set_cons_succ]
                  refine wpAnyH_take (i := 10) (oi := ?o10) (v := ?v10) ?hi10 (by kernel_rfl) (by kernel_rfl) (by kernel_rfl) ?hq10 (Or.inl ⟨?hw10, ?hy10⟩) (by assumption) ?rest10
                  case hi10 => (simp only [List.getElem?_toArray, List.getElem?_cons_zero, List.getElem?_cons_succ]; exact rfl)
                  case hw10 => rfl
                  case hq10 => exact fun _ _ _ h => h
                  case hy10 => (intro wv hSw; (try dsimp only at hSw); go_simp; try with_reducible rfl)
                  try simp only [Act.put, List.setIfInBounds_toArray, List.set_cons_zero, List.set_cons_succ]
                  refine wpAnyH_take (i := 11) (oi := ?o11) (v := ?v11) ?hi11 (by kernel_rfl) (by kernel_rfl) (by kernel_rfl) ?hq11 (Or.inl ⟨?hw11, ?hy11⟩) (by assumption) ?rest11
                  case hi11 => (simp only [List.getElem?_toArray, List.getElem?_cons_zero, List.getElem?_cons_succ]; exact rfl)
                  case hw11 => rfl
                  case hq11 => exact fun _ _ _ h => h
                  case hy11 => (intro wv hSw; (try dsimp only at hSw); go_simp; try with_reducible rfl)
                  try simp only [Act.put, List.setIfInBounds_toArray, List.set_cons_zero, List.set_cons_succ]
                  refine wpAnyH_ready (rs := [12]) (by kernel_rfl) (by simp) ?_
                  refine AllReadyH.cons (o := ?o12) ?hi12 (fun K hK => ?rest12) AllReadyH.nil
                  case hi12 => (simp only [List.getElem?_toArray, List.getElem?_cons_zero, List.getElem?_cons_succ]; exact rfl)
                  go_simp
                  refine hK.out _ _ (⟨later (bal (brefl wo) _) g1, later (bal (brefl wo) _) k1, later (bal (brefl wo) _) k3, later (bal (brefl wo) _) hc, later (bal (brefl wo) _) hc2⟩) (fun hHeld => ?_)
                  clear hK K
                  try simp only [Act.put, List.setIfInBounds_toArray, List.set_cons_zero, List.set_cons_succ]
                  refine wpAnyH_ready (rs := [13]) (by kernel_rfl) (by simp) ?_
                  refine AllReadyH.cons (o := ?o13) ?hi13 (fun K hK => ?rest13) AllReadyH.nil
                  case hi13 => (simp only [List.getElem?_toArray, List.getElem?_cons_zero, List.getElem?_cons_succ]; exact rfl)
                  go_simp
                  (with_reducible refine (concat_any (two (R k) (R2 k)) 2 (by omega) hcl (two (RA k) (RA2 k)) (two (RC k) (RC2 k)) _ _ _ (by exact hpair)).mono ?_)
                  rintro e w6 ⟨A6, c6, rfl, ho6, b6'⟩
                  rw [hcat.out, ← Hxl.out] at ho6 ⊢
                  have b6 : Below wo.heap.size wo w6 := bth (bal (brefl wo) (.cells #[.slice (RA k) n (RC k), .slice (RA2 k) n2 (RC2 k)] 22)) ⟨b6'.os, b6'.tape, b6'.output, b6'.size, b6'.block⟩
                  refine hK.out _ _ (⟨later b6 g1, later b6 k1, later b6 k3, later b6 hc, later b6 hc2⟩) (fun hHeld => ?_)
                  clear hK K
                  try simp only [Act.put, List.setIfInBounds_toArray, List.set_cons_zero, List.set_cons_succ]
                  refine wpAnyH_ready (rs := [14]) (by kernel_rfl) (by simp) ?_
                  refine AllReadyH.cons (o := ?o14) ?hi14 (fun K hK => ?rest14) AllReadyH.nil
                  case hi14 => (simp only [List.getElem?_toArray, List.getElem?_cons_zero, List.getElem?_cons_succ]; exact rfl)
                  go_simp
                  refine hK.out _ _ (⟨later (bal b6 _) g1, later (bal b6 _) k1, later (bal b6 _) k3, later (bal b6 _) hc, later (bal b6 _) hc2⟩) (fun hHeld => ?_)
                  clear hK K
                  try simp only [Act.put, List.setIfInBounds_toArray, List.set_cons_zero, List.set_cons_succ]
                  refine wpAnyH_ready (rs := [15]) (by kernel_rfl) (by simp) ?_
                  refine AllReadyH.cons (o := ?o15) ?hi15 (fun K hK => ?rest15) AllReadyH.nil
                  case hi15 => (simp only [List.getElem?_toArray, List.getElem?_cons_zero, List.getElem?_cons_succ]; exact rfl)
                  refine step_app _ rfl (.tmp 49) (.tmp 62) 26 rfl wx.heap.size 22 i0 _ 1 24 Try.underlying26 hi0 hz0 hz1 hz2 rfl (by omega) (.slice A5 k c5) k _ rfl (World.ownsRow.alloc (Ho.out.below b6 (Nat.le_refl _)).outer _) _ _ 1 1 [.slice A6 (n + n2) c6] rfl rfl (rd_new1 _ _ _) (by simp [Value.oneCell']) (by simp only [maxLen]; omega) (by omega) (by have := b6.size; have := Hk.out.size; simp; omega) ?_
                  intro A7 c7 w7 ho7 hg7 hat7
                  rw [ownBlock_blk] at hg7
                  rw [ownBlock_blk, ownBlock_blk] at hat7
                  have kp7 := grow_keep (g := wc.heap.size) Ho.out Hk.out b6 hg7
                  have q1 : w7.cell? ⟨wc.heap.size, 1, none⟩ = some (.slice A5 k c5) := (World.cell?_of_block (kp7 _ hgx)).trans g1
                  have q2 : w7.cell? ⟨w.heap.size, 1, none⟩ = some (.slice (some ⟨bA, oA, none⟩) r c) := (World.cell?_of_block (kp7 w.heap.size (by omega))).trans k1
                  have q3 : w7.cell? ⟨w.heap.size + 1, 1, none⟩ = some (.slice (some ⟨bB, oB, none⟩) r c2) := (World.cell?_of_block (kp7 (w.heap.size + 1) (by omega))).trans k3
                  have q4 : w7.frozen? ⟨wc.heap.size, 1, none⟩ = false := (World.frozen?_of_block (kp7 _ hgx)).trans gf
                  have q5 : w7.cell? ⟨bA, oA + k, none⟩ = some (.slice (RA k) n (RC k)) := (World.cell?_of_block (kp7 bA (by omega))).trans hc
                  have q6 : w7.cell? ⟨bB, oB + k, none⟩ = some (.slice (RA2 k) n2 (RC2 k)) := (World.cell?_of_block (kp7 bB (by omega))).trans hc2
                  refine hK.out _ _ (⟨q1, q2, q3, q5, q6⟩) (fun hHeld => ?_)
                  clear hK K
                  try simp only [Act.put, List.setIfInBounds_toArray, List.set_cons_zero, List.set_cons_succ]
                  refine wpAnyH_take (i := 16) (oi := ?o16) (v := ?v16) ?hi16 (by kernel_rfl) (by kernel_rfl) (by kernel_rfl) ?hq16 (Or.inl ⟨?hw16, ?hy16⟩) (by assumption) ?rest16
                  case hi16 => (simp only [List.getElem?_toArray, List.getElem?_cons_zero, List.getElem?_cons_succ]; exact rfl)
                  case hw16 => rfl
                  case hq16 => exact fun _ _ _ h => h
                  case hy16 => (intro wv hSw; (try dsimp only at hSw); go_simp; try with_reducible rfl)
                  try simp only [Act.put, List.setIfInBounds_toArray, List.set_cons_zero, List.set_cons_succ]
                  refine wpAnyH_done (by kernel_rfl) ?_ _
                  refine popQ_step (o := ?o17) ?hi17 (fun K hK => ?rest17)
                  case hi17 => (simp only [List.getElem?_toArray, List.getElem?_cons_zero, List.getElem?_cons_succ]; exact rfl)
                  go_simp
                  refine hK _ _ ?_
                  clear hK K
                  have hG' := Lib.hid (grow_step (bits := bits) g0 g1 gf Ho.out Hk.out hgx b6 (by have hh := ho6; rw [Hxs.out] at hh; first | exact hh | exact OwnZ.base hh (by show wo.heap.size ≤ (wo.alloc _).heap.size; simp)) ho7 hg7 hat7)
                  clear ho7 hg7 hat7 kp7 hHeld
                  go_wp2_with fail
                  go_roundw
                  case rel => exact ⟨k + 1, A7, c7, by omega, by go_num, hG'.out⟩
                  case measure => simp [intOf]; omega
                · have e : k = r := by omega
                  subst e
                  clear Bo
                  go_wp2_with fail
                  refine bodyPost_ret (results_blk rfl _ _ rfl (blk_set d0 d1 _ _).1 (blk_set d0 d1 _ _).2) rfl ?_
                  refine blk_of hr.out ?_
                  refine ⟨A5, c5, RA5, RC5, rfl, ?_, below_set2 HBo.out (by omega) _ _⟩
                  refine (Ho.out.other fun q hq => ?_).base (by omega)
                  have := (Ho.out.lt q hq).1
                  rw [Below.heap_setCell _ _ _ _ (by show q ≠ w.heap.size + 2; omega), Below.heap_setCell _ _ _ _ (by show q ≠ w.heap.size + 2; omega)]
            · rw [decide_eq_false hok, Bool.not_false]
              have hr : Hid (joinB bits R r bits R2 r = errB 4) := by show _ = _; rw [hj2.out, if_neg hok]
              obtain ⟨d0, d1, f0, f1⟩ := blk_cell P2.out
              go_wp2_with fail
              refine bodyPost_ret (results_blk rfl _ _ rfl (blk_set d0 d1 _ _).1 (blk_set d0 d1 _ _).2) rfl ?_
              exact blk_of hr.out (blk_err (below_set2 B4 (by omega) _ _))
        · have e1 : (bits != bits2) = false := by simp [hbb]
          have e2 : ((r : Int) != (r2 : Int)) = true := by simp; omega
          have hr : Hid (joinB bits R r bits2 R2 r2 = errB 2) := by show _ = _; rw [hj.out, if_neg (by omega)]
          clear hbb hrr
          go_wp2_with fail
          refine bodyPost_ret (results_blk rfl _ _ rfl (blk_set d0 d1 _ _).1 (blk_set d0 d1 _ _).2) rfl ?_
          exact blk_of hr.out (blk_err (below_set2 B3 (by omega) _ _))
      · have e1 : (bits != bits2) = true := by simp [hbb]
        have hr : Hid (joinB bits R r bits2 R2 r2 = errB 2) := by show _ = _; rw [hj.out, if_neg (fun hh => hbb hh.1)]
        clear hbb
        go_wp2_with fail
        refine bodyPost_ret (results_blk rfl _ _ rfl (blk_set d0 d1 _ _).1 (blk_set d0 d1 _ _).2) rfl ?_
        exact blk_of hr.out (blk_err (below_set2 B3 (by omega) _ _))

end Go.Proofs.Ytfihbcpainlpcaa
