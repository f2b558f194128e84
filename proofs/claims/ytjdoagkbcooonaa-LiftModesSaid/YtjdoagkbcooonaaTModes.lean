/-
  The walk of LiftModes.
-/
import Derived.Test.YtjdoagkbcooonaaProg
import Derived.Test.YtjdoagkbcooonaaTMk
import Derived.BigRegion
import Derived.Deep.RegionLaw
namespace Go.Proofs.Ytjdoagkbcooonaa
open Go.RowKit

set_option maxRecDepth 100000 in
set_option maxHeartbeats 8000000 in
theorem modes_any (l1 : List Int) (hm1 : l1.length ≤ 9223372036854775807) (A1 : Option Addr) (c1 : Nat) (l2 : List Int) (hm2 : l2.length ≤ 9223372036854775807) (A2 : Option Addr) (c2 : Nat) (w : World) (ha : Ints .i16 w w.heap.size A1 l1) (f1 : Fit .i16 l1) (hb : Ints .i16 w w.heap.size A2 l2) (f2 : Fit .i16 l2) :
    Calls Try.prog 6 #[.slice A1 l1.length c1, .slice A2 l2.length c2] w fun e w' => e = .returned (.bool true) ∧ Below w.heap.size w w' := by
  obtain ⟨n, hn⟩ : ∃ n : Nat, n = if l2.length < l1.length then l2.length else l1.length := ⟨_, rfl⟩
  have n1 : n ≤ l1.length := by rw [hn]; split <;> omega
  have n2 : n ≤ l2.length := by rw [hn]; split <;> omega
  have hnI : (if (l2.length : Int) < (l1.length : Int) then (l2.length : Int) else (l1.length : Int)) = (n : Int) := by
    rw [hn]
    by_cases h : l2.length < l1.length
    · rw [if_pos h, if_pos (by omega)]
    · rw [if_neg h, if_neg (by omega)]
  have Hn := Lib.hid hn
  have hb1 := fit16 f1
  have hb2 := fit16 f2
  clear hn
  go_enter Try.func6, Try.ntmps6
  go_wp2_with fail
  (with_reducible refine (known_any _).mono ?_); rintro e w1 ⟨rfl, b1⟩
  have hpre : ∃ m : Nat, m = n ∧ ((l2.length = m ∧ (l2.length : Int) < (l1.length : Int)) ∨ (l1.length = m ∧ ¬ (l2.length : Int) < (l1.length : Int))) := by
    have h := Hn.out
    by_cases hlt : l2.length < l1.length
    · rw [if_pos hlt] at h; exact ⟨n, rfl, .inl ⟨h.symm, by omega⟩⟩
    · rw [if_neg hlt] at h; exact ⟨n, rfl, .inr ⟨h.symm, by omega⟩⟩
  obtain ⟨m, rfl, hor⟩ := hpre
  clear hnI Hn
  rcases hor with ⟨hl, hord⟩ | ⟨hl, hord⟩
  all_goals
    rw [hl] at *
    by_cases hbig : 200 < m
    · have hI : (200 : Int) < (m : Int) := by omega
      go_wp2_with fail
      go_ret
      exact ⟨rfl, b1⟩
    · have hI : (m : Int) ≤ 200 := by omega
      have hm200 : m ≤ 200 := by omega
      have hmk := run_mk m (by omega)
      clear hl
      go_upto_region 6 with fail
      go_cut [6] (fun s6 wx => (∃ ga gb g : Nat, s6 = .slice (some ⟨g, 0, none⟩) 2 2 ∧ OwnM wx w.heap.size (some ⟨g, 0, none⟩) 2 2 m (two (some ⟨ga, 0, none⟩) (some ⟨gb, 0, none⟩)) (two m m) (two (List.replicate m 0) (List.replicate m 0))) ∧ Below w.heap.size w wx)
      case first =>
        go_region
        all_goals (go_wp2_with fail; go_meet)
        all_goals first | exact ⟨⟨_, _, _, rfl, ownM_made b1.size (by omega) (.inl ⟨rfl, rfl⟩) rfl rfl⟩, (bal (bal (bal b1 _) _) _).drew⟩ | exact ⟨⟨_, _, _, rfl, ownM_made b1.size (by omega) (.inr ⟨rfl, rfl⟩) rfl rfl⟩, (bal (bal (bal b1 _) _) _).drew⟩
      case rest =>
        obtain ⟨⟨ga, gb, g, rfl, hO⟩, hB⟩ := hcut
        have HO := Lib.hid hO
        have HB := Lib.hid hB
        clear hO hB hmk
        go_wp2_with fail
        go_loopw [7] (fun iv wr => (∃ j : Nat, j ≤ m ∧ iv = .int .i64 j ∧ OwnM wr w.heap.size (some ⟨g, 0, none⟩) 2 2 m (two (some ⟨ga, 0, none⟩) (some ⟨gb, 0, none⟩)) (two m m) (two (upto m l1 j) (upto m l2 j))) ∧ Below w.heap.size w wr) (fun iv _ => m - (intOf iv).toNat)
        case atStart => exact ⟨⟨0, Nat.zero_le _, rfl, by rw [upto_zero, upto_zero]; exact HO.out⟩, HB.out⟩
        case round =>
          obtain ⟨⟨j, hj, rfl, hO⟩, hb1⟩ := hrel
          obtain ⟨wo, rfl⟩ : ∃ wo : World, wo = wr := ⟨_, rfl⟩
          have HO1 := Lib.hid hO
          have HB1 := Lib.hid hb1
          clear hO hb1
          by_cases hlt : j < m
          · obtain ⟨q1, o1, rfl, hq1, hc1⟩ := ha.lt (by omega)
            obtain ⟨q2, o2, rfl, hq2, hc2⟩ := hb.lt (by omega)
            have d1 : wo.cell? ⟨q1, o1 + j, none⟩ = some (.int .i16 (ix l1 j)) := (HB1.out.cell (p := ⟨q1, o1 + j, none⟩) hq1).trans (hc1 j (by omega))
            have d2 : wo.cell? ⟨q2, o2 + j, none⟩ = some (.int .i16 (ix l2 j)) := (HB1.out.cell (p := ⟨q2, o2 + j, none⟩) hq2).trans (hc2 j (by omega))
            obtain ⟨_, eg, hg1, hg2, hcells⟩ := HO1.out.addr (by omega)
            simp only [Option.some.injEq, Addr.mk.injEq, and_true] at eg
            subst eg
            have d3 := hcells 0 (by omega)
            have d4 := hcells 1 (by omega)
            simp only [two] at d3 d4
            have i1 : OwnZ wo w.heap.size (some ⟨ga, 0, none⟩) m m (upto m l1 j) := HO1.out.inner 0 (by omega)
            have i2 : OwnZ wo w.heap.size (some ⟨gb, 0, none⟩) m m (upto m l2 j) := HO1.out.inner 1 (by omega)
            have x1 := own_cell i1 hlt
            have x2 := own_cell i2 hlt
            have y1 := World.ownsRow.frozenAt i1 j
            have y2 := World.ownsRow.frozenAt i2 j
            have L1 := (i1.lt ga rfl).1
            have L2 := (i2.lt gb rfl).1
            have n12 : ga ≠ gb := fun e => HO1.out.sep 0 1 (by omega) (by omega) (by omega) ga rfl (by rw [e]; rfl)
            have n13 : g ≠ ga := fun e => HO1.out.osep 0 (by omega) g rfl (by rw [e]; rfl)
            have n23 : g ≠ gb := fun e => HO1.out.osep 1 (by omega) g rfl (by rw [e]; rfl)
            have z1 := hb1 j
            have z2 := hb2 j
            have t1 := IntWalk.i64_in (ix l1 j) (by omega)
            have t2 := IntWalk.i64_in (ix l2 j) (by omega)
            have t3 : (0 : Int) ≤ (j : Int) := by omega
            have t4 : (j : Int) < (m : Int) := by omega
            have t5 : (j : Int) < (l1.length : Int) := by omega
            have t6 : (j : Int) < (l2.length : Int) := by omega
            have t7 : (j : Int).toNat = j := by omega
            have hne11 : q1 ≠ ga := by omega
            have hne12 : q1 ≠ gb := by omega
            have hne21 : q2 ≠ ga := by omega
            have hne22 : q2 ≠ gb := by omega
            clear hc1 hc2 hcells i1 i2
            go_wp2_with fail
            go_region_held3 (fun w' => w'.cell? ⟨q1, o1 + j, none⟩ = some (.int .i16 (ix l1 j)) ∧ w'.cell? ⟨q2, o2 + j, none⟩ = some (.int .i16 (ix l2 j)) ∧ w'.cell? ⟨g, 0, none⟩ = some (.slice (some ⟨ga, 0, none⟩) m m) ∧ w'.cell? ⟨g, 1, none⟩ = some (.slice (some ⟨gb, 0, none⟩) m m))
              (exact ⟨by first | exact d1 | exact cell_set_ne d1 hne11 | exact cell_set_ne d1 hne12 | exact cell_set_ne (cell_set_ne d1 hne11) hne12 | exact cell_set_ne (cell_set_ne d1 hne12) hne11, by first | exact d2 | exact cell_set_ne d2 hne21 | exact cell_set_ne d2 hne22 | exact cell_set_ne (cell_set_ne d2 hne21) hne22 | exact cell_set_ne (cell_set_ne d2 hne22) hne21, by first | exact d3 | exact cell_set_ne d3 n13 | exact cell_set_ne d3 n23 | exact cell_set_ne (cell_set_ne d3 n13) n23 | exact cell_set_ne (cell_set_ne d3 n23) n13, by first | exact d4 | exact cell_set_ne d4 n13 | exact cell_set_ne d4 n23 | exact cell_set_ne (cell_set_ne d4 n13) n23 | exact cell_set_ne (cell_set_ne d4 n23) n13⟩) (fail)
            all_goals go_wp2_with fail
            have hm1' := Lib.hid (upto_set (ys := l1) hlt)
            have hm2' := Lib.hid (upto_set (ys := l2) hlt)
            go_roundw
            case rel =>
              refine ⟨⟨j + 1, by omega, by go_num, ?_⟩, ((HB1.out.setCell (p := ⟨ga, j, none⟩) L1 _).setCell (p := ⟨gb, j, none⟩) L2 _).drew⟩
              refine (((HO1.out.set_ (t := 0) (by omega) rfl j (ix l1 j)).set_ (t := 1) (by omega) rfl j (ix l2 j)).drew).cong fun i hi => ?_
              rcases two_lt hi with rfl | rfl
              · exact hm1'.out.symm
              · exact hm2'.out.symm
            case measure => simp [intOf]; omega
          · have e : m = j := by omega
            subst e
            obtain ⟨R, hR⟩ : ∃ R, R = two (upto m l1 m) (upto m l2 m) := ⟨_, rfl⟩
            rw [← hR] at HO1
            have hR0 : (R 0).length = m := by rw [hR]; simp [two, upto]
            have hR1 : (R 1).length = m := by rw [hR]; simp [two, upto]
            have htwo : Two R := ⟨by rw [hR0, hR1], by omega, fun i hi k => by
              rw [hR]
              by_cases hk : k < m
              · rcases two_lt hi with rfl | rfl
                · show -8388608 ≤ ix (upto m l1 m) k ∧ ix (upto m l1 m) k ≤ 8388608
                  rw [upto_ix hk, if_pos hk]; have := hb1 k; omega
                · show -8388608 ≤ ix (upto m l2 m) k ∧ ix (upto m l2 m) k ≤ 8388608
                  rw [upto_ix hk, if_pos hk]; have := hb2 k; omega
              · rcases two_lt hi with rfl | rfl
                · show -8388608 ≤ ix (upto m l1 m) k ∧ ix (upto m l1 m) k ≤ 8388608
                  rw [show ix (upto m l1 m) k = 0 from by simp [ix, upto, hk]]; omega
                · show -8388608 ≤ ix (upto m l2 m) k ∧ ix (upto m l2 m) k ≤ 8388608
                  rw [show ix (upto m l2 m) k = 0 from by simp [ix, upto, hk]]; omega⟩
            have hlen2 : Hid (∀ i, i < 2 → (R i).length ≤ 100000) := fun i hi => by rcases two_lt hi with rfl | rfl <;> omega
            obtain ⟨Q1, hQ1⟩ := htwo.do_ 1
            obtain ⟨Q2, hQ2⟩ := htwo.do_ 2
            obtain ⟨Q3, hQ3⟩ := htwo.do_ 3
            have HQ1 := Lib.hid hQ1
            have HQ2 := Lib.hid hQ2
            have HQ3 := Lib.hid hQ3
            have Htwo := Lib.hid htwo
            have HR := Lib.hid hR
            have HR0 := Lib.hid hR0
            have HR1 := Lib.hid hR1
            clear hR hR0 hR1 hQ1 hQ2 hQ3 htwo hj hlt
            go_wp2_with fail
            (with_reducible refine (namedL_any 1 _).mono ?_); rintro e w2 ⟨A2', k2, rfl, hl2', bb2⟩
            have hO2 := HO1.out.below bb2 (Nat.le_refl _)
            have B2 := HB1.out.trans (bb2.mono HB1.out.size)
            go_wp2_with fail
            (with_reducible refine (doL_any R 2 (by omega) hlen2.out _ _ (namedP 1) _ rfl (by decide) _ _ _ _ _ (hO2.rw (by omega)) hl2').mono ?_); rintro e w3 hd3
            obtain ⟨⟨A3, k3, RA3, RC3, rfl, ho3⟩, b3⟩ := do_elim hd3 HQ1.out
            have hO3 := hO2.below b3 (Nat.le_refl _)
            have B3 := bth B2 b3
            clear hd3 hO2 B2 bb2 hl2'
            go_wp2_with fail
            (with_reducible refine (namedL_any 2 _).mono ?_); rintro e w4 ⟨A4, k4, rfl, hl4, b4⟩
            have hO4 := hO3.below b4 (Nat.le_refl _)
            have ho4 := ho3.below b4 (Nat.le_refl _)
            have B4 := bth B3 b4
            clear hO3 ho3 B3 b4 b3
            go_wp2_with fail
            (with_reducible refine (doL_any R 2 (by omega) hlen2.out _ _ (namedP 2) _ rfl (by decide) _ _ _ _ _ (hO4.rw (by omega)) hl4).mono ?_); rintro e w5 hd5
            obtain ⟨⟨A5, k5, RA5, RC5, rfl, ho5⟩, b5⟩ := do_elim hd5 HQ2.out
            have hO5 := hO4.below b5 (Nat.le_refl _)
            have ho35 := ho4.below b5 (Nat.le_refl _)
            have B5 := bth B4 b5
            clear hd5 hO4 ho4 B4 hl4 b5
            go_wp2_with fail
            (with_reducible refine (namedL_any 3 _).mono ?_); rintro e w6 ⟨A6, k6, rfl, hl6, b6⟩
            have hO6 := hO5.below b6 (Nat.le_refl _)
            have ho36 := ho35.below b6 (Nat.le_refl _)
            have ho56 := ho5.below b6 (Nat.le_refl _)
            have B6 := bth B5 b6
            clear hO5 ho5 ho35 B5 b6
            go_wp2_with fail
            (with_reducible refine (doL_any R 2 (by omega) hlen2.out _ _ (namedP 3) _ rfl (by decide) _ _ _ _ _ (hO6.rw (by omega)) hl6).mono ?_); rintro e w7 hd7
            obtain ⟨⟨A7, k7, RA7, RC7, rfl, ho7⟩, b7⟩ := do_elim hd7 HQ3.out
            have ho37 := ho36.below b7 (Nat.le_refl _)
            have ho57 := ho56.below b7 (Nat.le_refl _)
            rw [HR0.out] at ho37 ho57 ho7
            have HO7 := Lib.hid (hO6.below b7 (Nat.le_refl _))
            have Ho37 := Lib.hid ho37
            have Ho57 := Lib.hid ho57
            have Ho7 := Lib.hid ho7
            have HB7 := Lib.hid (bth B6 b7)
            clear hd7 hO6 ho36 ho56 ho7 ho37 ho57 B6 hl6 b7 HO1 HB1
            obtain ⟨_, eg, _, _, cR⟩ := HO7.out.addr (by omega)
            simp only [Option.some.injEq, Addr.mk.injEq, and_true] at eg
            subst eg
            obtain ⟨g3, rfl, _, _, c3⟩ := Ho37.out.addr (by omega)
            obtain ⟨g5, rfl, _, _, c5⟩ := Ho57.out.addr (by omega)
            obtain ⟨g7, rfl, _, _, c7⟩ := Ho7.out.addr (by omega)
            have d30 := c3 0 (by omega)
            have d31 := c3 1 (by omega)
            have d50 := c5 0 (by omega)
            have d51 := c5 1 (by omega)
            have d70 := c7 0 (by omega)
            have d71 := c7 1 (by omega)
            have dR0 : w7.cell? ⟨g, 0, none⟩ = some (.slice (some ⟨ga, 0, none⟩) m m) := cR 0 (by omega)
            have dR1 : w7.cell? ⟨g, 1, none⟩ = some (.slice (some ⟨gb, 0, none⟩) m m) := cR 1 (by omega)
            have eqm : ((m : Int) != (m : Int)) = false := by simp
            clear c3 c5 c7 cR
            go_wp2_with fail
            have iR0 : OwnZ w7 w.heap.size (some ⟨ga, 0, none⟩) m m (R 0) := HO7.out.inner 0 (by omega)
            have iR1 : OwnZ w7 w.heap.size (some ⟨gb, 0, none⟩) m m (R 1) := HO7.out.inner 1 (by omega)
            have IR0 := Lib.hid iR0
            have IR1 := Lib.hid iR1
            have D30 := Lib.hid d30
            have D31 := Lib.hid d31
            have D50 := Lib.hid d50
            have D51 := Lib.hid d51
            have D70 := Lib.hid d70
            have D71 := Lib.hid d71
            have DR0 := Lib.hid dR0
            have DR1 := Lib.hid dR1
            clear iR0 iR1 d30 d31 d50 d51 d70 d71 dR0 dR1
            go_loopw [14, 15, 16] (fun iv _ _ wr => (∃ j : Nat, j ≤ m ∧ iv = .int .i64 j) ∧ ∃ q, wr = w7.drewN q) (fun iv _ _ _ => m - (intOf iv).toNat)
            case atStart => exact ⟨⟨0, Nat.zero_le _, rfl⟩, 0, rfl⟩
            case round =>
              obtain ⟨⟨j, hj, rfl⟩, q, rfl⟩ := hrel
              by_cases hlt : j < m
              · have a31 := Ho37.out.inner 1 (by omega)
                have a50 := Ho57.out.inner 0 (by omega)
                have a70 := Ho7.out.inner 0 (by omega)
                have a71 := Ho7.out.inner 1 (by omega)
                obtain ⟨p31, e31, _, _⟩ := own_addr a31 (by omega)
                obtain ⟨p50, e50, _, _⟩ := own_addr a50 (by omega)
                obtain ⟨p70, e70, _, _⟩ := own_addr a70 (by omega)
                obtain ⟨p71, e71, _, _⟩ := own_addr a71 (by omega)
                rw [e31] at a31
                rw [e50] at a50
                rw [e70] at a70
                rw [e71] at a71
                have M1 := (mode1 HQ1.out HR0.out hlt).2
                have M2 := (mode2 HQ2.out HR1.out hlt).2
                have M3 := mode3 HQ3.out HR1.out hlt
                have bx := Htwo.out.2.2 0 (by omega) j
                have bY := Htwo.out.2.2 1 (by omega) j
                obtain ⟨wo, hwo⟩ : ∃ wo : World, wo = w7.drewN q := ⟨_, rfl⟩
                have k1 : wo.cell? ⟨g, 0, none⟩ = some (.slice (some ⟨ga, 0, none⟩) m m) := by rw [hwo]; exact DR0.out
                have k2 : wo.cell? ⟨g, 1, none⟩ = some (.slice (some ⟨gb, 0, none⟩) m m) := by rw [hwo]; exact DR1.out
                have k3 : wo.cell? ⟨ga, j, none⟩ = some (.int .i64 (ix (R 0) j)) := by rw [hwo]; exact own_cell IR0.out hlt
                have k4 : wo.cell? ⟨gb, j, none⟩ = some (.int .i64 (ix (R 1) j)) := by rw [hwo]; exact own_cell IR1.out hlt
                have k5 : wo.cell? ⟨g3, 1, none⟩ = some (.slice (some ⟨p31, 0, none⟩) m (RC3 1)) := by rw [hwo, ← e31]; exact D31.out
                have k6 : wo.cell? ⟨g5, 0, none⟩ = some (.slice (some ⟨p50, 0, none⟩) m (RC5 0)) := by rw [hwo, ← e50]; exact D50.out
                have k7 : wo.cell? ⟨g7, 0, none⟩ = some (.slice (some ⟨p70, 0, none⟩) m (RC7 0)) := by rw [hwo, ← e70]; exact D70.out
                have k8 : wo.cell? ⟨g7, 1, none⟩ = some (.slice (some ⟨p71, 0, none⟩) m (RC7 1)) := by rw [hwo, ← e71]; exact D71.out
                have k9 : wo.cell? ⟨p31, j, none⟩ = some (.int .i64 (ix (R 1) j - ix (R 0) j)) := by rw [hwo, ← M1]; exact own_cell a31 hlt
                have k10 : wo.cell? ⟨p50, j, none⟩ = some (.int .i64 (ix (R 0) j - ix (R 1) j)) := by rw [hwo, ← M2]; exact own_cell a50 hlt
                have k11 : wo.cell? ⟨p70, j, none⟩ = some (.int .i64 (ix (R 0) j - ix (R 1) j)) := by rw [hwo, ← M3.1]; exact own_cell a70 hlt
                have k12 : wo.cell? ⟨p71, j, none⟩ = some (.int .i64 ((ix (R 0) j + ix (R 1) j) / 2)) := by rw [hwo, ← M3.2]; exact own_cell a71 hlt
                have Hwo := Lib.hid hwo
                rw [← hwo]
                clear hwo M1 M2 M3 a31 a50 a70 a71 e31 e50 e70 e71
                obtain ⟨x, hx⟩ : ∃ x, x = ix (R 0) j := ⟨_, rfl⟩
                obtain ⟨y, hy⟩ : ∃ y, y = ix (R 1) j := ⟨_, rfl⟩
                rw [← hx] at k3 k9 k10 k11 k12 bx
                rw [← hy] at k4 k9 k10 k11 k12 bY
                clear hx hy
                have s1 : (j : Int) < (m : Int) := by omega
                have s2 : (0 : Int) ≤ (j : Int) := by omega
                have e1 := IntWalk.i64_in (y - x) (by omega)
                have e2 := IntWalk.i64_in (x - y) (by omega)
                have e3 := IntWalk.i64_in (x + y) (by omega)
                have n1 : ((y - x) != (y - x)) = false := by simp
                have n2 : ((x - y) != (x - y)) = false := by simp
                have n3 : ((x + y) / 2 != (x + y) / 2) = false := by simp
                go_wp2_with fail
                go_quiet (fail)
                go_wp2_with fail
                go_roundw
                case rel => exact ⟨⟨j + 1, by omega, by go_num⟩, q + nq, by rw [Hwo.out, World.drewN_drewN]⟩
                case measure => simp [intOf]; omega
              · have e : m = j := by omega
                subst e
                go_wp2_with fail
                have q0 : Q1 0 = R 0 := by rw [do_one HQ1.out]; exact appP_o (by omega)
                have q1 : Q2 1 = R 1 := by rw [do_two HQ2.out]; exact appP_o (by omega)
                have a30 := (Ho37.out.inner 0 (by omega)).ints
                have a51 := (Ho57.out.inner 1 (by omega)).ints
                have iR0 := IR0.out.ints
                have iR1 := IR1.out.ints
                rw [q0] at a30
                rw [q1] at a51
                have hs0 : ∀ n, Calls Try.prog 20 #[.slice (RA3 0) m (RC3 0), .slice (some ⟨ga, 0, none⟩) m m] ((w7.drewN q).drewN n) fun e w'' => e = .returned (.bool true) ∧ ∃ k, w'' = ((w7.drewN q).drewN n).drewN k := fun n =>
                  (same_any (R 0) (R 0) m m HR0.out.symm HR0.out.symm (by omega) (by omega) _ _ _ _ _ _ _ ((a30.drewN q).drewN n) ((iR0.drewN q).drewN n)).mono fun e w'' h => by rw [eqI_refl] at h; exact h
                have hs1 : ∀ n, Calls Try.prog 20 #[.slice (RA5 1) m (RC5 1), .slice (some ⟨gb, 0, none⟩) m m] ((w7.drewN q).drewN n) fun e w'' => e = .returned (.bool true) ∧ ∃ k, w'' = ((w7.drewN q).drewN n).drewN k := fun n =>
                  (same_any (R 1) (R 1) m m HR1.out.symm HR1.out.symm (by omega) (by omega) _ _ _ _ _ _ _ ((a51.drewN q).drewN n) ((iR1.drewN q).drewN n)).mono fun e w'' h => by rw [eqI_refl] at h; exact h
                obtain ⟨wo, hwo⟩ : ∃ wo : World, wo = w7.drewN q := ⟨_, rfl⟩
                rw [← hwo] at hs0 hs1
                have Hs0 := Lib.hid hs0
                have Hs1 := Lib.hid hs1
                have k1 : wo.cell? ⟨g, 0, none⟩ = some (.slice (some ⟨ga, 0, none⟩) m m) := by rw [hwo]; exact DR0.out
                have k2 : wo.cell? ⟨g, 1, none⟩ = some (.slice (some ⟨gb, 0, none⟩) m m) := by rw [hwo]; exact DR1.out
                have k3 : wo.cell? ⟨g3, 0, none⟩ = some (.slice (RA3 0) m (RC3 0)) := by rw [hwo]; exact D30.out
                have k4 : wo.cell? ⟨g5, 1, none⟩ = some (.slice (RA5 1) m (RC5 1)) := by rw [hwo]; exact D51.out
                have Hwo := Lib.hid hwo
                rw [← hwo]
                clear hwo q0 q1 a30 a51 iR0 iR1 hs0 hs1
                go_quiet ((go_at_call 20; first | with_reducible exact Calls.quiet_of (Hs0.out _) | with_reducible exact Calls.quiet_of (Hs1.out _)))
                go_wp2_with fail
                go_ret
                exact ⟨rfl, by rw [Hwo.out]; exact below_drewN (below_drewN HB7.out _) _⟩
end Go.Proofs.Ytjdoagkbcooonaa
