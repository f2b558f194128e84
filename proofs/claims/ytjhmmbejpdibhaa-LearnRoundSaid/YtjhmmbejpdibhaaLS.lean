/-
  learn.Back: the walk of the rounds.
-/
import Derived.Test.YtjhmmbejpdibhaaProg
import Derived.Test.YtjhmmbejpdibhaaLR
namespace Go.Proofs.Ytjhmmbejpdibhaa
open Go.RowKit Go.Shelf

attribute [local go_sem] Oper.semAt_some

theorem came_map (ss : List (Int × Int)) : ∀ {k : Nat}, k ≤ ss.length → (cameTo (bkAt ss) k).map (·.2) = ss.reverse.take k
  | 0, _ => by simp [cameTo]
  | k + 1, h => by
    rw [cameTo_succ, List.map_append, came_map ss (k := k) (by omega), List.take_succ_eq_append_getElem (by simp; omega), List.getElem_reverse]
    simp [bkAt, sto, str, show ss.length - 1 - k < ss.length by omega]
theorem goB_snoc {l xs : List Int} {pre : List (Nat × (Int × Int))} {x : Nat × (Int × Int)} (h : goB l (pre.map (·.2)) = .ok xs) : goB l ((pre ++ [x]).map (·.2)) = match stepB xs x.2 with | .error c => .error c | .ok ys => .ok ys := by
  rw [List.map_append, goB_app_ok h]; rfl

set_option maxRecDepth 100000 in
set_option maxHeartbeats 4000000 in
theorem lbackL_ok (l : List Int) (ss : List (Int × Int)) (hl : l.length ≤ 60000) (h : mayB ss = true) (h2 : allWideB l = true) (A B : Option Addr) (c d : Nat) (w : World) (ha : Ints .i64 w w.heap.size A l) (hb : Stgs w w.heap.size B ss) :
    Calls Try.prog 28 #[.slice A l.length c, .slice B ss.length d] w (LPairQ (lbackP l ss) w) := by
  have hs3 := (mayB_true.1 h).1
  have Hm := Lib.hid h
  have Hw := Lib.hid h2
  clear h h2
  refine (callsIn_wide (n := 20)).1 ?_
  refine callsIn_of_wp_marks Try.func28 rfl trivial ?_ rfl
  simp only [Try.ntmps28, List.size_toArray, List.length_cons, List.length_nil, Nat.reduceAdd, Nat.reduceSub, Array.replicate_succ, Array.replicate_zero, List.push_toArray, List.append_toArray, List.nil_append, List.cons_append]
  have hb0 := bal (bal (brefl w) (.cells #[.slice none 0 0] 24)) (.cells #[.int .i64 0] 27)
  gi_wp2_with fail
  refine ⟨trivial, ?_⟩
  (with_reducible refine (callsIn_wide.2 (mayL_any ss _ rfl (by omega) _ _ _ ((hb.below hb0).more hb0.size))).mono ?_); rintro e w1 ⟨rfl, b1⟩
  rw [Hm.out]
  have x0 : Boxed w1 w.heap.size 24 (.slice none 0 0) := bxBelow (Boxed.alloc (Boxed.new w _ _) _) b1 (by simp; omega)
  have x1 : Boxed w1 (w.heap.size + 1) 27 (.int .i64 0) := by
    have := Boxed.new (w.alloc (.cells #[.slice none 0 0] 24)) 27 (.int .i64 0)
    rw [World.size_alloc] at this
    exact bxBelow this b1 (by simp)
  have B1 : Below w.heap.size w w1 := hb0.trans (b1.mono hb0.size)
  have s1 : w.heap.size + 2 ≤ w1.heap.size := by have := b1.size; simp at this; omega
  clear b1 hb0
  gi_wp2_with fail
  refine ⟨trivial, ?_⟩
  (with_reducible refine (callsIn_wide.2 (allWideL_any l _ rfl (by omega) _ _ _ _ (ha.below B1))).mono ?_); rintro e w' ⟨rfl, rfl⟩
  rw [Hw.out]
  gi_wp2_with fail
  refine ⟨trivial, ?_⟩
  (with_reducible refine (callsIn_wide.2 (clone_any l _ rfl (by omega) _ _ _ ((ha.below B1).more B1.size))).mono ?_); rintro e w2 ⟨A2, c2, rfl, ho2, b2⟩
  have X0 := Lib.hid (bxBelow x0 b2 (by omega))
  have X1 := Lib.hid (bxBelow x1 b2 (by omega))
  have B2 := Lib.hid (bth B1 b2)
  have s2 := b2.size
  have Ho2 := Lib.hid ho2
  clear x0 x1 B1 b2 ho2
  gi_wp2_with fail
  refine ⟨trivial, ?_⟩
  refine (backward_in Fence.wide _ trivial rfl _ _ _ _).mono ?_; rintro e w' ⟨rfl, rfl⟩
  have bRow := (Boxed.new w2 24 (.slice A2 l.length c2)).alloc (.cells #[.slice B ss.length d] 44)
  have bS := Boxed.new (w2.alloc (.cells #[.slice A2 l.length c2] 24)) 44 (.slice B ss.length d)
  have b0 := (X0.out.alloc (.cells #[.slice A2 l.length c2] 24)).alloc (.cells #[.slice B ss.length d] 44)
  have b1 := (X1.out.alloc (.cells #[.slice A2 l.length c2] 24)).alloc (.cells #[.slice B ss.length d] 44)
  have hB0 : Below w.heap.size w ((w2.alloc (.cells #[.slice A2 l.length c2] 24)).alloc (.cells #[.slice B ss.length d] 44)) := bal (bal B2.out _) _
  have hsz : ((w2.alloc (.cells #[.slice A2 l.length c2] 24)).alloc (.cells #[.slice B ss.length d] 44)).heap.size = w2.heap.size + 2 := by simp
  have hoR := (Ho2.out.alloc (.cells #[.slice A2 l.length c2] 24)).alloc (.cells #[.slice B ss.length d] 44)
  gi_wp2_with fail
  obtain ⟨W0, hW0⟩ : ∃ W0, (w2.alloc (.cells #[.slice A2 l.length c2] 24)).alloc (.cells #[.slice B ss.length d] 44) = W0 := ⟨_, rfl⟩
  rw [hW0] at bRow bS b0 b1 hB0 hsz hoR ⊢
  rw [World.size_alloc] at bS
  clear hW0
  have hg1 : ∀ g, (Value.slice A2 l.length c2).ownBlock = some g → w1.heap.size ≤ g ∧ g < w2.heap.size := fun g hg => ⟨(Ho2.out.lt g hg).1, (Ho2.out.lt g hg).2⟩
  have Hg1 := Lib.hid hg1
  have Hsz := Lib.hid hsz
  have hz0 : w2.heap.size + 2 ≤ W0.heap.size := by omega
  clear hg1
  refine wpIn_rangeFunc_ownH rfl (by omega) (gf := 39) (lb := #[.pointer (some ⟨w2.heap.size + 1, 0, none⟩)]) rfl trivial (enters_of Try.func39 (by kernel_rfl) rfl)
    (backward_stops Fence.wide _ trivial rfl (by omega) (w2.heap.size + 1) w.heap.size B d ss (by omega) W0 (by omega) (by omega) bS.cell (hb.below hB0)) (fun h k => BkKp.trans h k) (bkKp_b (by omega) (by omega)) (Below.refl _ _) (fun _ => rfl)
    (fun pre W => ((∃ xs, goB l (pre.map (·.2)) = .ok xs ∧ allWideB xs = true ∧ xs.length = l.length ∧ W.ownsRow w1.heap.size 3 1 (.slice A2 l.length c2) l.length (xs.map (.int .i64))) ∧ Boxed W w.heap.size 24 (.slice none 0 0) ∧ Boxed W (w.heap.size + 1) 27 (.int .i64 0) ∧ Boxed W w2.heap.size 24 (.slice A2 l.length c2) ∧ Boxed W (w2.heap.size + 1) 44 (.slice B ss.length d)) ∧ Below w.heap.size w W)
    (fun cd pre W => (cd = .ret ∧ ∃ code, goB l (pre.map (·.2)) = .error code ∧ Boxed W w.heap.size 24 (.slice none 0 0) ∧ Boxed W (w.heap.size + 1) 27 (.int .i64 code)) ∧ Below w.heap.size w W)
    (OwnFrom.and (Own.from (fun s X Y row hs hg hr => by obtain ⟨⟨xs, e1, e2, e3, e4⟩, e5, e6, e7, e8⟩ := hs; exact ⟨⟨xs, e1, e2, e3, rowKept e4 hg hr⟩, bxKept e5 hg hr, bxKept e6 hg hr, bxKept e7 hg hr, bxKept e8 hg hr⟩) _) (ownFrom_below (Nat.le_refl _) (by omega)))
    (fun cd => OwnFrom.and (Own.from (fun s X Y row hs hg hr => by obtain ⟨e0, code, e1, e2, e3⟩ := hs; exact ⟨e0, code, e1, bxKept e2 hg hr, bxKept e3 hg hr⟩) _) (ownFrom_below (Nat.le_refl _) (by omega)))
    ⟨⟨⟨l, rfl, Hw.out, rfl, hoR⟩, b0, b1, bRow, bS⟩, hB0⟩
    (fun x a' W => ∃ Bx, w2.heap.size + 1 < Bx ∧ W.heap[Bx]? = some (.cells #[.int .i64 x.2.1, .int .i64 x.2.2] 23 (0, 0)) ∧ a' = { tmps := #[.slice A l.length c, .slice B ss.length d, undef, undef, .pointer (some ⟨w.heap.size, 0, none⟩), .pointer (some ⟨w.heap.size + 1, 0, none⟩), .pointer (some ⟨w2.heap.size, 0, none⟩), undef, .pointer (some ⟨Bx, 0, none⟩), undef, undef, undef, undef, undef,
      .slice B ss.length d, .bool true, .bool false, .slice A l.length c, .bool true, .bool false, .slice A l.length c, .slice A2 l.length c2, .slice B ss.length d, .func (.func 39) #[] #[.pointer (some ⟨w2.heap.size + 1, 0, none⟩)], .int .i64 (x.1 : Int), .agg #[.int .i64 x.2.1, .int .i64 x.2.2],
      undef, undef, undef, undef, undef, undef, undef, undef, undef, undef, undef, undef, undef, undef, undef, undef, undef, undef, undef, undef, undef, undef, undef, undef, undef, undef, undef, undef, undef, undef, undef], defers := [] })
    (fun x a' _ X Y row hs hg hr => by obtain ⟨Bx, e1, e2, e3⟩ := hs; exact ⟨Bx, e1, blockKept e2 rfl hg (fun r e => (hr r e).2), e3⟩)
    ?assign ?body ?done ?stop
  case assign =>
    rintro l' pre ⟨idx, o, r⟩ W K ⟨⟨⟨xs, e1, e2, e3, e4⟩, e5, e6, e7, e8⟩, hB⟩ hK
    dsimp only [bkEnc]
    have hl8 := e8.lt
    gi_wp2_with fail
    exact hK _ _ ((KeepsOthers.alloc _ _).from _) ⟨(Below.refl _ W).alloc hB.size _, Below.heap_alloc _ _ _ hl8⟩ ⟨⟨⟨xs, e1, e2, e3, e4.alloc _⟩, e5.alloc _, e6.alloc _, e7.alloc _, e8.alloc _⟩, hB.alloc hB.size _⟩ ⟨W.heap.size, hl8, heap_alloc_new W _, rfl⟩
  case body =>
    rintro l' pre ⟨idx, o, r⟩ a' W hl' ⟨rr, hrr⟩ ⟨⟨⟨xs, hgo, hwx, hxl, ho⟩, e5, e6, e7, e8⟩, hB⟩ ⟨Bx, hBx, bX, rfl⟩ hlt
    have hZW : W0.heap.size ≤ W.heap.size := by have := (Array.getElem?_eq_some_iff.1 hrr).1; omega
    have cX0 := cell_of_row W Bx 0 _ _ _ bX
    have cX1 := cell_of_row W Bx 1 _ _ _ bX
    simp only [List.getElem?_toArray, List.getElem?_cons_zero, List.getElem?_cons_succ] at cX0 cX1
    have hgs := Lib.hid (goB_snoc (x := (idx, (o, r))) hgo)
    have Hwx := Lib.hid hwx
    have Hxl := Lib.hid hxl
    have Ho := Lib.hid ho
    have E5 := Lib.hid e5
    have E6 := Lib.hid e6
    have E7 := Lib.hid e7
    have E8 := Lib.hid e8
    have HB := Lib.hid hB
    have hnr : ∀ k, (k = w.heap.size ∨ k = w.heap.size + 1 ∨ k = w2.heap.size ∨ k = w2.heap.size + 1) → some k ≠ (Value.slice A2 l.length c2).ownBlock := fun k hk e => by
      have := Hg1.out k e.symm
      omega
    have Hnr := Lib.hid hnr
    have hnW : w.heap.size ≤ W0.heap.size := by omega
    clear hgo hwx hxl ho e5 e6 e7 e8 hB hnr hrr bX b0 b1 bRow bS hoR hB0 hsz X0 X1
    cases hv : validB o r with
    | false =>
      have hst : Hid (goB l ((pre ++ [(idx, (o, r))]).map (·.2)) = .error 1) := by show _ = _; rw [hgs.out, stepB_bad hv]
      gi_wp2_with fail
      refine ⟨trivial, ?_⟩
      (with_reducible refine (CallsIn.inRound l' (callsIn_wide.2 (newL_no o r hv _))).mono ?_); rintro e w3 ⟨rfl, b3⟩
      have rk : RK w.heap.size W0.heap.size (Value.slice A2 l.length c2).ownBlock W w3 := RK.of_below b3 hZW hnW
      have d5 := rk.box E5.out (by omega) (Hnr.out _ (.inl rfl))
      have d6 := rk.box E6.out (by omega) (Hnr.out _ (.inr (.inl rfl)))
      have c5 := d5.cell
      have c6 := d6.cell
      have f5 := d5.frozen
      have f6 := d6.frozen
      have y0 := Boxed.other (d5.set (.slice none 0 0)) (B' := w.heap.size + 1) (by omega) (.int .i64 1)
      have y1 := (Boxed.other d6 (B' := w.heap.size) (by omega) (.slice none 0 0)).set (.int .i64 1)
      gi_wp2_with fail
      exact ⟨(rk.kf.trans ((KeepsOthers.setCell _ _ _).from _)).trans ((KeepsOthers.setCell _ _ _).from _), ⟨rfl, 1, hst.out, y0, y1⟩, ((HB.out.trans rk.bl).setCell (p := ⟨w.heap.size, 0, none⟩) (Nat.le_refl _) _).setCell (p := ⟨w.heap.size + 1, 0, none⟩) (by simp) _⟩
    | true =>
      have Hv := Lib.hid hv
      clear hv
      gi_wp2_with fail
      refine ⟨trivial, ?_⟩
      (with_reducible refine (CallsIn.inRound l' (callsIn_wide.2 (newL_int o r Hv.out _))).mono ?_); rintro e w3 ⟨b, bw, bs, rfl, hf, g1, g2, g3, b3⟩
      have rk3 : RK w.heap.size W0.heap.size (Value.slice A2 l.length c2).ownBlock W w3 := RK.of_below b3 hZW hnW
      have ho3 := Lib.hid (own_below Ho.out b3 (Nat.le_refl _))
      have d7 := rk3.box E7.out (by omega) (Hnr.out _ (.inr (.inr (.inl rfl))))
      have c7 := d7.cell
      have Rk3 := Lib.hid rk3
      obtain ⟨nn, hnn⟩ : ∃ nn, nn = o.toNat := ⟨_, rfl⟩
      rw [← hnn] at hf
      have Hnn := Lib.hid hnn
      have hf' := Lib.hid hf
      obtain ⟨ys, hys⟩ : ∃ ys, ys = bkRow nn r xs l.length := ⟨_, rfl⟩
      have Hys := Lib.hid hys
      have hyl : Hid (ys.length = l.length) := by show _ = _; rw [hys, bkRow_len]
      have hstep : Hid (goB l ((pre ++ [(idx, (o, r))]).map (·.2)) = if allWideB ys = true then .ok ys else .error 6) := by
        show _ = _
        rw [hgs.out]
        have e : bkRow o.toNat r xs xs.length = ys := by rw [Hxl.out, hys, hnn]
        cases hy : allWideB ys with
        | true => rw [stepB_ok (s := (o, r)) Hv.out (by show allWideB (bkRow o.toNat r xs xs.length) = true; rw [e]; exact hy)]; simp only [if_true]; rw [← e]
        | false => rw [stepB_far (s := (o, r)) Hv.out (by show allWideB (bkRow o.toNat r xs xs.length) = false; rw [e]; exact hy)]; rfl
      clear hnn hf hys b3 rk3 d7
      gi_wp2_with fail
      gi_loopw [11, 12, 13, 36] (fun _ _ _ jv wi => (∃ j : Nat, j ≤ l.length ∧ jv = .int .i64 j ∧ wi.ownsRow w1.heap.size 3 1 (.slice A2 l.length c2) l.length ((mixTo xs ys j).map (.int .i64)) ∧ FiltL wi b bw nn bs nn r (toldP r (zeroF nn) (bkRow nn r xs j)).1 (toldP r (zeroF nn) (bkRow nn r xs j)).2 ∧ ∀ i, i < j → wideB (ix ys i) = true) ∧ RK w.heap.size W0.heap.size (Value.slice A2 l.length c2).ownBlock W wi)
        (fun _ _ _ jv _ => l.length - (intOf jv).toNat)
      case atStart => exact ⟨⟨0, Nat.zero_le _, rfl, by rw [mixTo_zero]; exact ho3.out, hf'.out, fun i hi => absurd hi (by omega)⟩, Rk3.out⟩
      case round =>
        obtain ⟨⟨j, hj, rfl, ho4, hF, hw4⟩, rk4⟩ := hrel
        have Hw4 := Lib.hid hw4
        have HF := Lib.hid hF
        have Ho4 := Lib.hid ho4
        have Rk4 := Lib.hid rk4
        have hW4 : W0.heap.size ≤ wr.heap.size := by have := rk4.kf.size; omega
        have E5' := Lib.hid (rk4.box E5.out (by omega) (Hnr.out _ (.inl rfl)))
        have E6' := Lib.hid (rk4.box E6.out (by omega) (Hnr.out _ (.inr (.inl rfl))))
        have E7' := Lib.hid (rk4.box E7.out (by omega) (Hnr.out _ (.inr (.inr (.inl rfl)))))
        clear hw4 hF ho4 rk4 c7
        by_cases hlt2 : j < l.length
        · obtain ⟨g, rfl, hBg, hgz⟩ := own_addr Ho4.out (by omega)
          have d1 := own_cell Ho4.out hlt2
          rw [mixTo_ix (by rw [Hxl.out]; exact hlt2), if_neg (by omega)] at d1
          have hx := wideB_true.1 (allWideB_true.1 Hwx.out j (by rw [Hxl.out]; exact hlt2))
          obtain ⟨hx1, hx2⟩ := hx
          have hgw : -1073741824 ≤ guessP (toldP r (zeroF nn) (bkRow nn r xs j)).1 (toldP r (zeroF nn) (bkRow nn r xs j)).2 ∧ guessP (toldP r (zeroF nn) (bkRow nn r xs j)).1 (toldP r (zeroF nn) (bkRow nn r xs j)).2 ≤ 1073741823 := nearI_wide _
          obtain ⟨gv, hgv⟩ : ∃ gv, gv = guessP (toldP r (zeroF nn) (bkRow nn r xs j)).1 (toldP r (zeroF nn) (bkRow nn r xs j)).2 := ⟨_, rfl⟩
          have Hgv := Lib.hid hgv
          rw [← hgv] at hgw
          obtain ⟨hg1, hg2⟩ := hgw
          have hyj : Hid (ix ys j = gv + ix xs j) := by
            show _ = _
            rw [Hys.out, hgv, bkRow_ix hlt2]
            unfold gsP
            rw [bkRow_take nn r xs (show j ≤ l.length by omega)]
          have hbj : Hid (bkRow nn r xs (j + 1) = bkRow nn r xs j ++ [ix ys j]) := by show _ = _; rw [hyj.out, hgv]; rfl
          clear hgv
          gi_wp2_with fail
          refine ⟨trivial, ?_⟩
          (with_reducible refine (CallsIn.inRound l' (callsIn_wide.2 (guessL_any HF.out))).mono ?_); rintro e w' ⟨rfl, rfl⟩
          rw [← Hgv.out]
          gi_wp2_with fail
          refine ⟨trivial, ?_⟩
          (with_reducible refine (CallsIn.inRound l' (callsIn_wide.2 (wideL_any _ _))).mono ?_); rintro e w' ⟨rfl, rfl⟩
          rw [← hyj.out]
          cases hy : wideB (ix ys j) with
          | false =>
            have hst : Hid (goB l ((pre ++ [(idx, (o, r))]).map (·.2)) = .error 6) := by show _ = _; rw [hstep.out, allWideB_false (by rw [hyl.out]; exact hlt2) hy]; rfl
            have c5 := E5'.out.cell
            have c6 := E6'.out.cell
            have f5 := E5'.out.frozen
            have f6 := E6'.out.frozen
            have y0 := Boxed.other (E5'.out.set (.slice none 0 0)) (B' := w.heap.size + 1) (by omega) (.int .i64 6)
            have y1 := (Boxed.other E6'.out (B' := w.heap.size) (by omega) (.slice none 0 0)).set (.int .i64 6)
            gi_wp2_with fail
            exact ⟨(Rk4.out.kf.trans ((KeepsOthers.setCell _ _ _).from _)).trans ((KeepsOthers.setCell _ _ _).from _), ⟨rfl, 6, hst.out, y0, y1⟩, ((HB.out.trans Rk4.out.bl).setCell (p := ⟨w.heap.size, 0, none⟩) (Nat.le_refl _) _).setCell (p := ⟨w.heap.size + 1, 0, none⟩) (by simp) _⟩
          | true =>
            have Hy := Lib.hid hy
            clear hy
            gi_wp2_with fail
            refine ⟨trivial, ?_⟩
            (with_reducible refine (CallsIn.inRound l' (callsIn_wide.2 (tellL_q HF.out _))).mono ?_); rintro e w5 ⟨rfl, hF5, k5⟩
            have hFb := hF5.hb
            have rk5 : RK w.heap.size W0.heap.size (Value.slice (some ⟨g, 0, none⟩) l.length c2).ownBlock wr w5 := RK.of_kp k5 (fun k hk => by
              have q1 := HF.out.hb
              obtain ⟨cur1, q2, _⟩ := own_open HF.out.hw
              obtain ⟨cur2, q3, _⟩ := own_open HF.out.hh
              rcases hk with rfl | rfl | rfl
              · exact ⟨by omega, _, q1, rfl⟩
              · exact ⟨by omega, _, q2, rfl⟩
              · exact ⟨by omega, _, q3, rfl⟩) hW4 hnW
            have Rk5 := Lib.hid (Rk4.out.trans rk5)
            have hF5' := Lib.hid hF5
            have hgr := Hg1.out g (by simp [Value.ownBlock])
            obtain ⟨hgr1, hgr2⟩ := hgr
            have ho5 := Lib.hid (own_of_block Ho4.out (w' := w5) fun q hq => by simp [Value.ownBlock] at hq; subst hq; exact k5.block g hgz fun hs => by rcases hs with hs | hs | hs <;> omega)
            have d7 := rk5.box E7'.out (by omega) (by simp only [Value.ownBlock]; intro e; injection e with e; omega)
            have c7 := d7.cell
            have d5 := World.ownsRow.frozenAt ho5.out j
            have d6 := own_cell ho5.out hlt2
            rw [mixTo_ix (by rw [Hxl.out]; exact hlt2), if_neg (by omega)] at d6
            have hms := Lib.hid (mixTo_set (xs := xs) (ys := ys) (k := j) (by rw [Hxl.out]; exact hlt2))
            have hsn := Lib.hid (toldP_snoc r (zeroF nn) (bkRow nn r xs j) (ix ys j))
            clear hF5 k5 rk5 hFb d7 d1
            gi_wp2_with fail
            go_roundw
            case rel =>
              refine ⟨⟨j + 1, by omega, by go_num, ?_, ?_, fun i hi => ?_⟩, Rk5.out.trans (RK.set_ (by simp [Value.ownBlock]) (by omega) _)⟩
              · rw [← hms.out]
                exact own_set ho5.out j _
              · rw [hbj.out, hsn.out]
                exact hF5'.out.keep (Below.heap_setCell _ _ _ _ (fun e => by simp at e; omega)) (Below.heap_setCell _ _ _ _ (fun e => by simp at e; omega)) (Below.heap_setCell _ _ _ _ (fun e => by simp at e; omega))
              · by_cases e : i = j
                · subst e; exact Hy.out
                · exact Hw4.out i (by omega)
            case measure => simp [intOf]; omega
        · have e : j = l.length := by omega
          subst e
          have hyw := allWideB_true (xs := ys) |>.2 fun i hi => Hw4.out i (by rw [← hyl.out]; exact hi)
          have hmx : mixTo xs ys l.length = ys := by
            have := mixTo_all (xs := xs) (ys := ys) (by rw [hyl.out, Hxl.out])
            rwa [Hxl.out] at this
          have ho6 := Ho4.out
          rw [hmx] at ho6
          have hgo6 : goB l ((pre ++ [(idx, (o, r))]).map (·.2)) = .ok ys := by rw [hstep.out, if_pos hyw]
          have E8' := Rk4.out.box E8.out (by omega) (Hnr.out _ (.inr (.inr (.inr rfl))))
          have hfin : KeepsFrom W0.heap.size W wr ∧ BkKp w.heap.size (w2.heap.size + 1) W wr ∧ ((∃ xs, goB l ((pre ++ [(idx, (o, r))]).map (·.2)) = .ok xs ∧ allWideB xs = true ∧ xs.length = l.length ∧ wr.ownsRow w1.heap.size 3 1 (.slice A2 l.length c2) l.length (xs.map (.int .i64))) ∧ Boxed wr w.heap.size 24 (.slice none 0 0) ∧ Boxed wr (w.heap.size + 1) 27 (.int .i64 0) ∧ Boxed wr w2.heap.size 24 (.slice A2 l.length c2) ∧ Boxed wr (w2.heap.size + 1) 44 (.slice B ss.length d)) ∧ Below w.heap.size w wr :=
            ⟨Rk4.out.kf, ⟨Rk4.out.bl, Rk4.out.blk _ (by omega) (Hnr.out _ (.inr (.inr (.inr rfl))))⟩, ⟨⟨ys, hgo6, hyw, hyl.out, ho6⟩, E5'.out, E6'.out, E7'.out, E8'⟩, HB.out.trans Rk4.out.bl⟩
          have Hfin := Lib.hid hfin
          clear hyw hmx ho6 hgo6 E8' hfin
          gi_wp2_with fail
          exact Hfin.out
  case done =>
    rintro D zs W hD rfl ⟨⟨⟨xs, hgo, hwx, hxl, ho⟩, e5, e6, e7, e8⟩, hB⟩ hK
    have c5 := e5.cell
    have c6 := e6.cell
    have c7 := e7.cell
    have f5 := e5.frozen
    have f6 := e6.frozen
    have hr : Hid (lbackP l ss = (xs, 0)) := lbackP_ok Hm.out Hw.out (by rw [came_map ss (Nat.le_refl _), List.take_of_length_le (by simp)] at hgo; exact hgo)
    have Hxl := Lib.hid hxl
    have Hn5 : Hid ((Value.slice A2 l.length c2).ownBlock ≠ some w.heap.size ∧ (Value.slice A2 l.length c2).ownBlock ≠ some (w.heap.size + 1)) := ⟨fun e => by have := Hg1.out _ e; omega, fun e => by have := Hg1.out _ e; omega⟩
    clear hgo hwx hxl
    gi_wp2_with fail
    have hK1 := (KeepsOthers.setCell W ⟨w.heap.size, 0, none⟩ (.slice A2 l.length c2)).same D _ hK rfl
    have hK' := (KeepsOthers.setCell _ ⟨w.heap.size + 1, 0, none⟩ (.int .i64 0)).same D _ hK1 rfl
    refine ⟨by simp, .inl ⟨_, _, rfl, run_takeDeferred hK', ?_⟩⟩
    have y0 := Boxed.other (e5.set (.slice A2 l.length c2)) (B' := w.heap.size + 1) (by omega) (.int .i64 0)
    have y1 := (Boxed.other e6 (B' := w.heap.size) (by omega) (.slice A2 l.length c2)).set (.int .i64 0)
    have z0 := cell_kept y0.cell (grownBy_putObj' _ D (.deferred none)) (fun r e => by cases e; exact ⟨_, hK', rfl⟩)
    have z1 := cell_kept y1.cell (grownBy_putObj' _ D (.deferred none)) (fun r e => by cases e; exact ⟨_, hK', rfl⟩)
    have ho1 := own_of_block ho (w' := W.setCell ⟨w.heap.size, 0, none⟩ (.slice A2 l.length c2)) fun q hq => Below.heap_setCell _ _ _ _ (fun e => Hn5.out.1 (by rw [hq, e]))
    have ho2 := own_of_block ho1 (w' := (W.setCell ⟨w.heap.size, 0, none⟩ (.slice A2 l.length c2)).setCell ⟨w.heap.size + 1, 0, none⟩ (.int .i64 0)) fun q hq => Below.heap_setCell _ _ _ _ (fun e => Hn5.out.2 (by rw [hq, e]))
    have ho3 := own_base (ownsRow_putObj ho2 (.deferred none) hK' rfl) (show w.heap.size ≤ w1.heap.size by omega)
    have hB3 := ((hB.setCell (p := ⟨w.heap.size, 0, none⟩) (Nat.le_refl _) (.slice A2 l.length c2)).setCell (p := ⟨w.heap.size + 1, 0, none⟩) (by simp) (.int .i64 0)).trans (belowK_b (w := w) (Nat.le_refl _) _ D _ (.deferred none) (by omega) hK' rfl rfl)
    refine ⟨.tuple #[.slice A2 l.length c2, .int .i64 0], by simp [results, Try.f28, go_sem, z0, z1], ?_⟩
    rw [hr.out]
    have hx := Hxl.out
    exact ⟨A2, c2, by rw [hx], by rw [hx]; exact ho3, hB3⟩
  case stop =>
    rintro D cd pre W hD ⟨k, hk, rfl⟩ ⟨⟨rfl, code, hgo, e5, e6⟩, hB⟩ hK
    have hr : Hid (lbackP l ss = ([], code)) := lbackP_err Hm.out Hw.out (by
      rw [came_map ss hk] at hgo
      rw [← List.take_append_drop k ss.reverse]
      exact goB_app_err hgo)
    clear hgo
    gi_wp2_with fail
    refine ⟨by simp, .inl ⟨_, _, rfl, run_takeDeferred hK, ?_⟩⟩
    have z0 := cell_kept e5.cell (grownBy_putObj' _ D (.deferred none)) (fun r e => by cases e; exact ⟨_, hK, rfl⟩)
    have z1 := cell_kept e6.cell (grownBy_putObj' _ D (.deferred none)) (fun r e => by cases e; exact ⟨_, hK, rfl⟩)
    refine ⟨.tuple #[.slice none 0 0, .int .i64 code], by simp [results, Try.f28, go_sem, z0, z1], ?_⟩
    rw [hr.out]
    exact lpair_err (hB.trans (belowK_b (w := w) (Nat.le_refl _) _ D _ (.deferred none) (by omega) hK rfl rfl))

theorem lbackL_any (l : List Int) (ss : List (Int × Int)) (hs : ss.length ≤ 9223372036854775807) (hl : l.length ≤ 60000) (A B : Option Addr) (c d : Nat) (w : World) (ha : Ints .i64 w w.heap.size A l) (hb : Stgs w w.heap.size B ss) :
    Calls Try.prog 28 #[.slice A l.length c, .slice B ss.length d] w (LPairQ (lbackP l ss) w) := by
  cases hm : mayB ss with
  | false => exact lbackL_bad l ss l.length hs hm A B c d w hb
  | true =>
    cases hw : allWideB l with
    | false => exact lbackL_far l ss hs hl hm hw A B c d w ha hb
    | true => exact lbackL_ok l ss hl hm hw A B c d w ha hb
end Go.Proofs.Ytjhmmbejpdibhaa
