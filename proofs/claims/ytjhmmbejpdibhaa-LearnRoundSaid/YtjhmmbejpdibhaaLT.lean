/-
  The reference's LearnBack: the walk.
-/
import Derived.Test.YtjhmmbejpdibhaaProg
import Derived.Test.YtjhmmbejpdibhaaLQ
import Derived.Test.YtjhmmbejpdibhaaLI
import Derived.Test.YtjhmmbejpdibhaaLRests
namespace Go.Proofs.Ytjhmmbejpdibhaa
open Go.RowKit

theorem rev_drop {ss : List (Int × Int)} {t q : Nat} (h : t < ss.length) (hq : q = ss.length - 1 - t) : ss.reverse.drop t = (sto ss q, str ss q) :: ss.reverse.drop (t + 1) := by
  rw [List.drop_eq_getElem_cons (by simpa using h), List.getElem_reverse]
  subst hq
  simp [sto, str, show ss.length - 1 - t < ss.length by omega]

set_option maxHeartbeats 2000000 in
theorem lbackR_any (l : List Int) (ss : List (Int × Int)) (hs : ss.length ≤ 9223372036854775807) (hl : l.length ≤ 60000) (A B : Option Addr) (c d : Nat) (w : World) (ha : Ints .i64 w w.heap.size A l) (hb : Stgs w w.heap.size B ss) :
    Calls Try.prog 29 #[.slice A l.length c, .slice B ss.length d] w (LPairQ (lbackP l ss) w) := by
  cases hmay : mayB ss with
  | false =>
    rw [lbackP_bad hmay]
    have Hm := Lib.hid hmay
    clear hmay
    go_enter Try.func29, Try.ntmps29
    go_wp2_with fail
    (with_reducible refine (mayR_any ss _ rfl hs _ _ _ hb).mono ?_); rintro e w1 ⟨rfl, b1⟩
    rw [Hm.out]
    go_wp2_with fail
    go_ret2
    exact lpair_err b1
  | true =>
  have hs3 := (mayB_true.1 hmay).1
  have Hm := Lib.hid hmay
  clear hmay
  cases hw : allWideB l with
  | false =>
    have Hw := Lib.hid hw
    clear hw
    go_enter Try.func29, Try.ntmps29
    go_wp2_with fail
    (with_reducible refine (mayR_any ss _ rfl (by omega) _ _ _ hb).mono ?_); rintro e w1 ⟨rfl, b1⟩
    rw [Hm.out]
    go_wp2_with fail
    (with_reducible refine (allWide2_any l _ rfl (by omega) _ _ _ _ (ha.below b1)).mono ?_); rintro e w' ⟨rfl, rfl⟩
    rw [Hw.out]
    go_wp2_with fail
    go_ret2
    rw [lbackP_far Hm.out Hw.out]
    exact lpair_err b1
  | true =>
    have Hw := Lib.hid hw
    clear hw
    obtain ⟨i0, hi0, hz0, hz1, hz2⟩ := info_parts int_info
    go_enter Try.func29, Try.ntmps29
    go_wp2_with fail
    (with_reducible refine (mayR_any ss _ rfl (by omega) _ _ _ hb).mono ?_); rintro e w1 ⟨rfl, b1⟩
    rw [Hm.out]
    go_wp2_with fail
    (with_reducible refine (allWide2_any l _ rfl (by omega) _ _ _ _ (ha.below b1)).mono ?_); rintro e w' ⟨rfl, rfl⟩
    rw [Hw.out]
    have ha1 := ha.below b1
    go_wp2_with (at_builtin; refine wpList_app _ rfl (.tmp 18) (.tmp 19) 24 rfl w.heap.size 3 i0 _ 1 8 Try.underlying24 hi0 hz0 hz1 hz2 rfl (by omega) (.slice (some ⟨w1.heap.size, 0, none⟩) 0 0) 0 [] rfl (own_base (own_empty w1 _ _) b1.size) w.heap.size A l.length c (l.map (Value.int .i64)) rfl (by simp) (ha1.below (bal (brefl w1) _ |>.mono b1.size)) (oneCell_ints _ _) (by simp only [maxLen]; omega) (by omega) (by simp; have := b1.size; omega) ?_; intro A2 c2 w2 ho2 hg2 hat2)
    have hb2 : Hid (Below w.heap.size w w2) := below_app (bal b1 _) (own_base (own_empty w1 3 1) b1.size) hg2 (by simp; have := b1.size; omega)
    rw [Nat.zero_add, List.nil_append] at ho2
    have ho2' := Lib.hid ho2
    have hrow : Hid (∀ g, (Value.slice A2 l.length c2).ownBlock = some g → g < w2.heap.size) := fun g hg => (ho2.lt g hg).2
    clear hg2 hat2 ho2
    go_loopw [7, 8, 9, 10, 11, 28, 39] (fun iv _ _ _ _ _ _ wr => (∃ (t : Nat) (xs : List Int), t ≤ ss.length ∧ iv = .int .i64 ((ss.length : Int) - 1 - (t : Int)) ∧ xs.length = l.length ∧ wr.ownsRow w.heap.size 3 1 (.slice A2 l.length c2) l.length (xs.map (.int .i64)) ∧ allWideB xs = true ∧ goB xs (ss.reverse.drop t) = goB l ss.reverse) ∧ Below w.heap.size w wr ∧ w2.heap.size ≤ wr.heap.size)
      (fun iv _ _ _ _ _ _ _ => (intOf iv + 1).toNat)
    case atStart => exact ⟨⟨0, l, Nat.zero_le _, by go_num, rfl, ho2'.out, Hw.out, rfl⟩, hb2.out, Nat.le_refl _⟩
    case round =>
      obtain ⟨⟨t, xs, ht, rfl, hxl, ho, hwx, hre⟩, hbl, hsz⟩ := hrel
      obtain ⟨wo, rfl⟩ : ∃ wo : World, wo = wr := ⟨_, rfl⟩
      have hwx' := Lib.hid hwx
      have hre' := Lib.hid hre
      have hbl' := Lib.hid hbl
      have ho' := Lib.hid ho
      have hxl' := Lib.hid hxl
      have hsz' := Lib.hid hsz
      clear hwx hre hbl ho hxl hsz
      by_cases hlt : t < ss.length
      · obtain ⟨q, hq⟩ : ∃ q : Nat, q = ss.length - 1 - t := ⟨_, rfl⟩
        have hqI : (ss.length : Int) - 1 - (t : Int) = (q : Int) := by omega
        have hql : q < ss.length := by omega
        have hdr := Lib.hid (rev_drop hlt hq)
        have HqI := Lib.hid hqI
        rw [hqI]
        clear hq hqI
        obtain ⟨bB, oB, rfl, hc1, hc2⟩ := (hb.below hbl'.out).at_ hql
        have hval := (mayB_true.1 Hm.out).2 q hql
        have hval' := Lib.hid hval
        clear hval
        go_wp2_with fail
        (with_reducible refine (newR_int _ _ hval'.out _).mono ?_); rintro e w3 ⟨b, bw, bs, rfl, hf, g1, g2, g3, b3⟩
        have hB3 := Lib.hid b3
        have hf' := Lib.hid hf
        have hbb := Lib.hid hf.hb
        clear g1 g2 g3 b3 hf
        go_wp2_with fail
        obtain ⟨n, hn⟩ : ∃ n, n = (sto ss q).toNat := ⟨_, rfl⟩
        obtain ⟨r, hr⟩ : ∃ r, r = str ss q := ⟨_, rfl⟩
        rw [← hn, ← hr] at hf'
        obtain ⟨ys, hys⟩ : ∃ ys, ys = bkRow n r xs l.length := ⟨_, rfl⟩
        have Hys := Lib.hid hys
        have hyl : Hid (ys.length = l.length) := by show _ = _; rw [hys, bkRow_len]
        have hstep : Hid (goB xs (ss.reverse.drop t) = if allWideB ys = true then goB ys (ss.reverse.drop (t + 1)) else .error 6) := by
          show _ = _
          rw [hdr.out]
          have e : bkRow (sto ss q).toNat (str ss q) xs xs.length = ys := by rw [hxl'.out, hys, hn, hr]
          cases hy : allWideB ys with
          | true => rw [goB_ok (stepB_ok (s := (sto ss q, str ss q)) hval'.out (by show allWideB (bkRow (sto ss q).toNat (str ss q) xs xs.length) = true; rw [e]; exact hy))]; simp only [if_true]; rw [← e]
          | false => rw [goB_err (stepB_far (s := (sto ss q, str ss q)) hval'.out (by show allWideB (bkRow (sto ss q).toNat (str ss q) xs xs.length) = false; rw [e]; exact hy))]; rfl
        clear hn hr hys
        go_loopw [10, 11, 39] (fun jv _ _ wi => (∃ j : Nat, j ≤ l.length ∧ jv = .int .i64 j ∧ wi.ownsRow w.heap.size 3 1 (.slice A2 l.length c2) l.length ((mixTo xs ys j).map (.int .i64)) ∧ FiltR wi wo.heap.size b r (toldP r (zeroF n) (bkRow n r xs j)).1 (toldP r (zeroF n) (bkRow n r xs j)).2 ∧ ∀ i, i < j → wideB (ix ys i) = true) ∧ Below w.heap.size w wi ∧ wo.heap.size ≤ wi.heap.size)
          (fun jv _ _ _ => l.length - (intOf jv).toNat)
        case atStart => exact ⟨⟨0, Nat.zero_le _, rfl, by rw [mixTo_zero]; exact own_below ho'.out hB3.out (Nat.le_refl _), hf'.out, fun i hi => absurd hi (by omega)⟩, bth hbl'.out hB3.out, hB3.out.size⟩
        case round =>
          obtain ⟨⟨j, hj, rfl, ho4, hF, hw4⟩, hbi, hsz4⟩ := hrel
          obtain ⟨wq, rfl⟩ : ∃ wq : World, wq = wr := ⟨_, rfl⟩
          have hbi' := Lib.hid hbi
          have hF' := Lib.hid hF
          have ho4' := Lib.hid ho4
          have Hw4 := Lib.hid hw4
          clear hbi hF ho4 hw4
          by_cases hlt2 : j < l.length
          · obtain ⟨g, rfl, hBg, hgz⟩ := own_addr ho4'.out (by omega)
            have hgr := hrow.out g (by simp [Value.ownBlock])
            have hgw := hsz'.out
            have d1 := own_cell ho4'.out hlt2
            rw [mixTo_ix (by rw [hxl'.out]; exact hlt2), if_neg (by omega)] at d1
            have hx := wideB_true.1 (allWideB_true.1 hwx'.out j (by rw [hxl'.out]; exact hlt2))
            obtain ⟨hx1, hx2⟩ := hx
            have hgwd : -1073741824 ≤ guessP (toldP r (zeroF n) (bkRow n r xs j)).1 (toldP r (zeroF n) (bkRow n r xs j)).2 ∧ guessP (toldP r (zeroF n) (bkRow n r xs j)).1 (toldP r (zeroF n) (bkRow n r xs j)).2 ≤ 1073741823 := nearI_wide _
            obtain ⟨gv, hgv⟩ : ∃ gv, gv = guessP (toldP r (zeroF n) (bkRow n r xs j)).1 (toldP r (zeroF n) (bkRow n r xs j)).2 := ⟨_, rfl⟩
            have Hgv := Lib.hid hgv
            rw [← hgv] at hgwd
            have hyj : Hid (ix ys j = gv + ix xs j) := by
              show _ = _
              rw [Hys.out, hgv, bkRow_ix hlt2]
              unfold gsP
              rw [bkRow_take n r xs (show j ≤ l.length by omega)]
            have hbj : Hid (bkRow n r xs (j + 1) = bkRow n r xs j ++ [ix ys j]) := by show _ = _; rw [hyj.out, hgv]; rfl
            obtain ⟨y, hy0⟩ : ∃ y, y = ix ys j := ⟨_, rfl⟩
            have Hy0 := Lib.hid hy0
            have hxe : IntKind.i64.wrap (ix xs j + gv) = y := by rw [IntWalk.i64_in _ (by omega), hy0, hyj.out]; omega
            have Hxe := Lib.hid hxe
            have hgu : ∀ w', FiltR w' wo.heap.size b r (toldP r (zeroF n) (bkRow n r xs j)).1 (toldP r (zeroF n) (bkRow n r xs j)).2 → Calls Try.prog 17 #[.pointer (some ⟨b, 0, none⟩)] w' fun e w'' => e = .returned (.int .i64 gv) ∧ ∃ m, w'' = w'.drewN m := fun w' h => by
              rw [Hgv.out]; exact guessR_any h
            have Hgu := Lib.hid hgu
            clear hgv hgwd hx1 hx2 hy0 hxe hgu
            go_wp2_with fail
            have t1 := Hxe.out
            have t2 : (0 : Int) ≤ (j : Int) := by omega
            have t3 : (j : Int) < (l.length : Int) := by omega
            go_quiet ((go_at_call 17; exact Calls.quiet_of (Hgu.out _ (hF'.out.drewN _))))
            clear t1
            have hFn : Hid (FiltR (wq.drewN nq) wo.heap.size b r (toldP r (zeroF n) (bkRow n r xs j)).1 (toldP r (zeroF n) (bkRow n r xs j)).2) := hF'.out.drewN nq
            have hbn : Hid (Below w.heap.size w (wq.drewN nq)) := below_drewN hbi'.out nq
            have hon : Hid ((wq.drewN nq).ownsRow w.heap.size 3 1 (.slice (some ⟨g, 0, none⟩) l.length c2) l.length ((mixTo xs ys j).map (.int .i64))) := own_drewN ho4'.out nq
            have hsn0 : Hid ((wq.drewN nq).heap.size = wq.heap.size) := rfl
            obtain ⟨wn, hwn⟩ : ∃ wn, wn = wq.drewN nq := ⟨_, rfl⟩
            rw [← hwn] at hFn hbn hon hsn0 ⊢
            clear hwn
            have d5 := World.ownsRow.frozenAt hon.out j
            have d6 := own_cell hon.out hlt2
            rw [mixTo_ix (by rw [hxl'.out]; exact hlt2), if_neg (by omega)] at d6
            have hms := Lib.hid (mixTo_set (xs := xs) (ys := ys) (k := j) (by rw [hxl'.out]; exact hlt2))
            have hsn := Lib.hid (toldP_snoc r (zeroF n) (bkRow n r xs j) (ix ys j))
            go_wp2_with fail
            (with_reducible refine (wide2_any _ _).mono ?_); rintro e w' ⟨rfl, rfl⟩
            cases hy : wideB y with
            | false =>
              have hr : Hid (lbackP l ss = ([], 6)) := lbackP_err Hm.out Hw.out (by rw [← hre'.out, hstep.out, allWideB_false (by rw [hyl.out]; exact hlt2) (by rw [← Hy0.out]; exact hy)]; rfl)
              go_wp2_with fail
              go_ret2
              rw [hr.out]
              exact lpair_err hbn.out
            | true =>
              have Hy := Lib.hid hy
              clear hy
              go_wp2_with fail
              have hFs : FiltR (wn.setCell ⟨g, j, none⟩ (.int .i64 y)) wo.heap.size b r (toldP r (zeroF n) (bkRow n r xs j)).1 (toldP r (zeroF n) (bkRow n r xs j)).2 := hFn.out.blocks fun q hq _ => Below.heap_setCell _ _ _ _ (fun e => by simp at e; omega)
              have hos : Hid ((wn.setCell ⟨g, j, none⟩ (.int .i64 y)).ownsRow w.heap.size 3 1 (.slice (some ⟨g, 0, none⟩) l.length c2) l.length ((mixTo xs ys (j + 1)).map (.int .i64))) := by
                show World.ownsRow _ _ _ _ _ _ _
                rw [← hms.out, Hy0.out]
                exact own_set hon.out j _
              have hbs : Hid (Below w.heap.size w (wn.setCell ⟨g, j, none⟩ (.int .i64 y))) := hbn.out.setCell (p := ⟨g, j, none⟩) hBg _
              (with_reducible refine (tellR_q hFs _).mono ?_); rintro e w5 ⟨rfl, hF5, k5⟩
              have hF5' := Lib.hid hF5
              have hz5 : Hid (wo.heap.size ≤ w5.heap.size) := by have h1 := k5.size; have h2 := hsn0.out; simp [World.setCell] at h1; show _ ≤ _; omega
              have hb5 := Lib.hid (hbs.out.trans (k5.below (fun q hq => by subst hq; have := hbb.out; have := hbl'.out.size; omega) hbs.out.size))
              have ho5 := Lib.hid (own_of_block hos.out (w' := w5) fun q hq => by simp [Value.ownBlock] at hq; subst hq; exact k5.block g (hos.out.lt g (by simp [Value.ownBlock])).2 fun hs => by have := hbb.out; omega)
              clear hF5 k5 hFs
              go_wp2_with fail
              go_roundw
              case rel =>
                refine ⟨⟨j + 1, by omega, by go_num, ho5.out, ?_, fun i hi => ?_⟩, hb5.out, hz5.out⟩
                · rw [hbj.out, hsn.out, ← Hy0.out]
                  exact hF5'.out
                · by_cases e : i = j
                  · subst e; rw [← Hy0.out]; exact Hy.out
                  · exact Hw4.out i (by omega)
              case measure => simp [intOf]; omega
          · have e : j = l.length := by omega
            subst e
            have hmx : Hid (mixTo xs ys l.length = ys) := by
              show _ = _
              have := mixTo_all (xs := xs) (ys := ys) (by rw [hyl.out, hxl'.out])
              rwa [hxl'.out] at this
            have ho6 : Hid (wq.ownsRow w.heap.size 3 1 (.slice A2 l.length c2) l.length (ys.map (.int .i64))) := by rw [← hmx.out]; exact ho4'.out
            have hyw := Lib.hid (allWideB_true (xs := ys) |>.2 fun i hi => Hw4.out i (by rw [← hyl.out]; exact hi))
            go_wp2_with fail
            go_roundw
            case rel =>
              refine ⟨⟨t + 1, ys, by omega, by rw [← HqI.out]; go_num, hyl.out, ho6.out, hyw.out, ?_⟩, hbi'.out, by have := hsz'.out; omega⟩
              rw [← hre'.out, hstep.out, if_pos hyw.out]
            case measure => simp [intOf]
      · have e : t = ss.length := by omega
        subst e
        have hl : Hid (goB l ss.reverse = .ok xs) := by
          show _ = _
          rw [← hre'.out, List.drop_of_length_le (by simp)]; rfl
        have hneg : (ss.length : Int) - 1 - (ss.length : Int) = -1 := by omega
        rw [hneg]
        clear hneg
        go_wp2_with fail
        go_ret2
        rw [lbackP_ok Hm.out Hw.out hl.out]
        have hl2 := hxl'.out
        exact ⟨A2, c2, by rw [hl2]; rfl, by rw [hl2]; exact ho'.out, hbl'.out⟩
end Go.Proofs.Ytjhmmbejpdibhaa
