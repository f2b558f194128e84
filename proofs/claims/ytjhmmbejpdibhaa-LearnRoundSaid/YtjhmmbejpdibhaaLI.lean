/-
  learn.Rest in one theorem; the reference's LearnRest.
-/
import Derived.Test.YtjhmmbejpdibhaaProg
import Derived.Test.YtjhmmbejpdibhaaLH
namespace Go.Proofs.Ytjhmmbejpdibhaa
open Go.RowKit

theorem lrestL_any (l : List Int) (ss : List (Int × Int)) (hs : ss.length ≤ 9223372036854775807) (hl : l.length ≤ 17592186044415) (A B : Option Addr) (c d : Nat) (w : World) (ha : Ints .i64 w w.heap.size A l) (hb : Stgs w w.heap.size B ss) :
    Calls Try.prog 23 #[.slice A l.length c, .slice B ss.length d] w (LPairQ (lrestP l ss) w) := by
  cases hm : mayB ss with
  | false => exact lrestL_bad l ss _ hs hm _ _ _ _ _ hb
  | true => exact lrestL_ok l ss (mayB_true.1 hm).1 hl hm _ _ _ _ _ ha hb

set_option maxHeartbeats 2000000 in
theorem lrestR_any (l : List Int) (ss : List (Int × Int)) (hs : ss.length ≤ 9223372036854775807) (hl : l.length ≤ 65536) (A B : Option Addr) (c d : Nat) (w : World) (ha : Ints .i64 w w.heap.size A l) (hb : Stgs w w.heap.size B ss) :
    Calls Try.prog 24 #[.slice A l.length c, .slice B ss.length d] w (LPairQ (lrestP l ss) w) := by
  cases hmay : mayB ss with
  | false =>
    rw [lrestP_bad hmay]
    have Hm := Lib.hid hmay
    clear hmay
    go_enter Try.func24, Try.ntmps24
    go_wp2_with fail
    (with_reducible refine (mayR_any ss _ rfl hs _ _ _ hb).mono ?_); rintro e w1 ⟨rfl, b1⟩
    rw [Hm.out]
    go_wp2_with fail
    go_ret2
    exact lpair_err b1
  | true =>
  have hs3 := (mayB_true.1 hmay).1
  have Hm := Lib.hid hmay
  clear hmay
  cases hw : allWideB l with
  | false =>
    have Hw := Lib.hid hw
    clear hw
    go_enter Try.func24, Try.ntmps24
    go_wp2_with fail
    (with_reducible refine (mayR_any ss _ rfl (by omega) _ _ _ hb).mono ?_); rintro e w1 ⟨rfl, b1⟩
    rw [Hm.out]
    go_wp2_with fail
    (with_reducible refine (allWide2_any l _ rfl (by omega) _ _ _ _ (ha.below b1)).mono ?_); rintro e w' ⟨rfl, rfl⟩
    rw [Hw.out]
    go_wp2_with fail
    go_ret2
    rw [lrestP_far Hm.out Hw.out]
    exact lpair_err b1
  | true =>
    have Hw := Lib.hid hw
    clear hw
    obtain ⟨i0, hi0, hz0, hz1, hz2⟩ := info_parts int_info
    go_enter Try.func24, Try.ntmps24
    go_wp2_with fail
    (with_reducible refine (mayR_any ss _ rfl (by omega) _ _ _ hb).mono ?_); rintro e w1 ⟨rfl, b1⟩
    rw [Hm.out]
    go_wp2_with fail
    (with_reducible refine (allWide2_any l _ rfl (by omega) _ _ _ _ (ha.below b1)).mono ?_); rintro e w' ⟨rfl, rfl⟩
    rw [Hw.out]
    have ha1 := ha.below b1
    go_wp2_with (at_builtin; refine wpList_app _ rfl (.tmp 18) (.tmp 19) 24 rfl w.heap.size 3 i0 _ 1 8 Try.underlying24 hi0 hz0 hz1 hz2 rfl (by omega) (.slice (some ⟨w1.heap.size, 0, none⟩) 0 0) 0 [] rfl (own_base (own_empty w1 _ _) b1.size) w.heap.size A l.length c (l.map (Value.int .i64)) rfl (by simp) (ha1.below (bal (brefl w1) _ |>.mono b1.size)) (oneCell_ints _ _) (by simp only [maxLen]; omega) (by omega) (by simp; have := b1.size; omega) ?_; intro A2 c2 w2 ho2 hg2 hat2)
    have hb2 : Hid (Below w.heap.size w w2) := below_app (bal b1 _) (own_base (own_empty w1 3 1) b1.size) hg2 (by simp; have := b1.size; omega)
    rw [Nat.zero_add, List.nil_append] at ho2
    have ho2' := Lib.hid ho2
    have hrow : Hid (∀ g, (Value.slice A2 l.length c2).ownBlock = some g → g < w2.heap.size) := fun g hg => (ho2.lt g hg).2
    clear hg2 hat2 ho2
    go_loopw [7, 8, 9, 10, 11, 24, 38] (fun iv _ _ _ _ _ _ wr => (∃ (k : Nat) (xs : List Int), k ≤ ss.length ∧ iv = .int .i64 k ∧ xs.length = l.length ∧ wr.ownsRow w.heap.size 3 1 (.slice A2 l.length c2) l.length (xs.map (.int .i64)) ∧ allWideB xs = true ∧ lrestTo xs (ss.drop k) = lrestTo l ss) ∧ Below w.heap.size w wr ∧ w2.heap.size ≤ wr.heap.size)
      (fun iv _ _ _ _ _ _ _ => ss.length - (intOf iv).toNat)
    case atStart => exact ⟨⟨0, l, Nat.zero_le _, rfl, rfl, ho2'.out, Hw.out, rfl⟩, hb2.out, Nat.le_refl _⟩
    case round =>
      obtain ⟨⟨k, xs, hk, rfl, hxl, ho, hwx, hre⟩, hbl, hsz⟩ := hrel
      obtain ⟨wo, rfl⟩ : ∃ wo : World, wo = wr := ⟨_, rfl⟩
      have hwx' := Lib.hid hwx
      have hre' := Lib.hid hre
      have hbl' := Lib.hid hbl
      have ho' := Lib.hid ho
      have hxl' := Lib.hid hxl
      have hsz' := Lib.hid hsz
      clear hwx hre hbl ho hxl hsz
      by_cases hlt : k < ss.length
      · obtain ⟨bB, oB, rfl, hc1, hc2⟩ := (hb.below hbl'.out).at_ hlt
        have hval := (mayB_true.1 Hm.out).2 k hlt
        have hval' := Lib.hid hval
        obtain ⟨v1, v2, v3, v4⟩ := validB_true.1 hval
        have hdr := Lib.hid (drop_stage hlt)
        clear hval v1 v2 v3 v4
        go_wp2_with fail
        (with_reducible refine (newR_int _ _ hval'.out _).mono ?_); rintro e w3 ⟨b, bw, bs, rfl, hf, g1, g2, g3, b3⟩
        have hB3 := Lib.hid b3
        have hf' := Lib.hid hf
        have hbb := Lib.hid hf.hb
        clear g1 g2 g3 b3 hf
        go_wp2_with fail
        obtain ⟨n, hn⟩ : ∃ n, n = (sto ss k).toNat := ⟨_, rfl⟩
        obtain ⟨r, hr⟩ : ∃ r, r = str ss k := ⟨_, rfl⟩
        rw [← hn, ← hr] at hf'
        have Hn := Lib.hid hn
        have Hr := Lib.hid hr
        clear hn hr
        obtain ⟨ys, hys⟩ : ∃ ys, ys = stRes n r xs := ⟨_, rfl⟩
        have Hys := Lib.hid hys
        clear hys
        have hyl : Hid (ys.length = l.length) := by show _ = _; rw [Hys.out, stRes_len, hxl'.out]
        go_loopw [10, 11, 38] (fun jv _ _ wi => (∃ j : Nat, j ≤ l.length ∧ jv = .int .i64 j ∧ wi.ownsRow w.heap.size 3 1 (.slice A2 l.length c2) l.length ((mixTo xs ys j).map (.int .i64)) ∧ FiltR wi wo.heap.size b r (toldP r (zeroF n) (xs.take j)).1 (toldP r (zeroF n) (xs.take j)).2) ∧ Below w.heap.size w wi ∧ wo.heap.size ≤ wi.heap.size)
          (fun jv _ _ _ => l.length - (intOf jv).toNat)
        case atStart => exact ⟨⟨0, Nat.zero_le _, rfl, by rw [mixTo_zero]; exact own_below ho'.out hB3.out (Nat.le_refl _), hf'.out⟩, bth hbl'.out hB3.out, hB3.out.size⟩
        case round =>
          obtain ⟨⟨j, hj, rfl, ho4, hF⟩, hbi, hsz4⟩ := hrel
          obtain ⟨wq, rfl⟩ : ∃ wq : World, wq = wr := ⟨_, rfl⟩
          have hbi' := Lib.hid hbi
          have hF' := Lib.hid hF
          have ho4' := Lib.hid ho4
          clear hbi hF ho4
          by_cases hlt2 : j < l.length
          · obtain ⟨g, rfl, hBg, hgz⟩ := own_addr ho4'.out (by omega)
            have hgr := hrow.out g (by simp [Value.ownBlock])
            have hgw := hsz'.out
            have d1 := own_cell ho4'.out hlt2
            rw [mixTo_ix (by rw [hxl'.out]; exact hlt2), if_neg (by omega)] at d1
            have hx := wideB_true.1 (allWideB_true.1 hwx'.out j (by rw [hxl'.out]; exact hlt2))
            obtain ⟨hx1, hx2⟩ := hx
            obtain ⟨hg1, hg2⟩ := gsP_wide n r xs j
            have hgs : Hid (guessP (toldP r (zeroF n) (xs.take j)).1 (toldP r (zeroF n) (xs.take j)).2 = gsP n r xs j) := rfl
            have hyj : Hid (ix ys j = ix xs j - gsP n r xs j) := by show _ = _; rw [Hys.out, stRes_ix (by rw [hxl'.out]; exact hlt2)]
            go_wp2_with fail
            (with_reducible refine (guessR_any hF'.out).mono ?_); rintro e wn ⟨rfl, nd, hwn⟩
            rw [hgs.out]
            have hFn : Hid (FiltR wn wo.heap.size b r (toldP r (zeroF n) (xs.take j)).1 (toldP r (zeroF n) (xs.take j)).2) := by show FiltR _ _ _ _ _ _; rw [hwn]; exact hF'.out.drewN nd
            have hbn : Hid (Below w.heap.size w wn) := by show Below _ _ _; rw [hwn]; have h := hbi'.out; exact ⟨h.os, h.tape, h.output, h.size, h.block⟩
            have hon : Hid (wn.ownsRow w.heap.size 3 1 (.slice (some ⟨g, 0, none⟩) l.length c2) l.length ((mixTo xs ys j).map (.int .i64))) := by show World.ownsRow _ _ _ _ _ _ _; rw [hwn]; exact own_drewN ho4'.out nd
            have hsn0 : Hid (wn.heap.size = wq.heap.size) := by show _ = _; rw [hwn]; rfl
            clear hwn
            have d5 := World.ownsRow.frozenAt hon.out j
            have d6 := own_cell hon.out hlt2
            rw [mixTo_ix (by rw [hxl'.out]; exact hlt2), if_neg (by omega)] at d6
            have hms := Lib.hid (mixTo_set (xs := xs) (ys := ys) (k := j) (by rw [hxl'.out]; exact hlt2))
            have hts := Lib.hid (take_succ_ix (xs := xs) (k := j) (by rw [hxl'.out]; exact hlt2))
            have hsn := Lib.hid (toldP_snoc r (zeroF n) (xs.take j) (ix xs j))
            go_wp2_with fail
            have hFs : FiltR (wn.setCell ⟨g, j, none⟩ (.int .i64 (ix xs j - gsP n r xs j))) wo.heap.size b r (toldP r (zeroF n) (xs.take j)).1 (toldP r (zeroF n) (xs.take j)).2 := hFn.out.blocks fun q hq _ => Below.heap_setCell _ _ _ _ (fun e => by simp at e; omega)
            have hos : Hid ((wn.setCell ⟨g, j, none⟩ (.int .i64 (ix xs j - gsP n r xs j))).ownsRow w.heap.size 3 1 (.slice (some ⟨g, 0, none⟩) l.length c2) l.length ((mixTo xs ys (j + 1)).map (.int .i64))) := by
              show World.ownsRow _ _ _ _ _ _ _
              rw [← hms.out, hyj.out]
              exact own_set hon.out j _
            have hbs : Hid (Below w.heap.size w (wn.setCell ⟨g, j, none⟩ (.int .i64 (ix xs j - gsP n r xs j)))) := hbn.out.setCell (p := ⟨g, j, none⟩) hBg _
            (with_reducible refine (tellR_q hFs _).mono ?_); rintro e w5 ⟨rfl, hF5, k5⟩
            have hF5' := Lib.hid hF5
            have hz5 : Hid (wo.heap.size ≤ w5.heap.size) := by have h1 := k5.size; have h2 := hsn0.out; simp [World.setCell] at h1; show _ ≤ _; omega
            have hb5 := Lib.hid (hbs.out.trans (k5.below (fun q hq => by subst hq; have := hbb.out; have := hbl'.out.size; omega) hbs.out.size))
            have ho5 := Lib.hid (own_of_block hos.out (w' := w5) fun q hq => by simp [Value.ownBlock] at hq; subst hq; exact k5.block g (hos.out.lt g (by simp [Value.ownBlock])).2 fun hs => by have := hbb.out; omega)
            clear hF5 k5 hFs
            go_wp2_with fail
            go_roundw
            case rel =>
              refine ⟨⟨j + 1, by omega, by go_num, ho5.out, ?_⟩, hb5.out, hz5.out⟩
              rw [hts.out, hsn.out]
              exact hF5'.out
            case measure => simp [intOf]; omega
          · have e : j = l.length := by omega
            subst e
            have hmx : Hid (mixTo xs ys l.length = ys) := by
              show _ = _
              have := mixTo_all (xs := xs) (ys := ys) (by rw [hyl.out, hxl'.out])
              rwa [hxl'.out] at this
            have ho6 : Hid (wq.ownsRow w.heap.size 3 1 (.slice A2 l.length c2) l.length (ys.map (.int .i64))) := by rw [← hmx.out]; exact ho4'.out
            go_wp2_with fail
            (with_reducible refine (allWide2_any ys _ hyl.out.symm (by omega) _ _ _ _ (own_ints ho6.out)).mono ?_); rintro e w' ⟨rfl, rfl⟩
            cases hyw : allWideB ys with
            | false =>
              have Hyw := Lib.hid hyw
              clear hyw
              go_wp2_with fail
              go_ret2
              rw [lrestP_none Hm.out Hw.out (by rw [← hre'.out, hdr.out, lrestTo_cons, ← Hn.out, ← Hr.out, ← Hys.out, if_neg (by rw [Hyw.out]; simp)])]
              exact lpair_err hbi'.out
            | true =>
              have Hyw := Lib.hid hyw
              clear hyw
              go_wp2_with fail
              go_roundw
              case rel =>
                refine ⟨⟨k + 1, ys, by omega, by go_num, hyl.out, ho6.out, Hyw.out, ?_⟩, hbi'.out, by have := hsz'.out; omega⟩
                rw [← hre'.out, hdr.out, lrestTo_cons, ← Hn.out, ← Hr.out, ← Hys.out, if_pos Hyw.out]
              case measure => simp [intOf]; omega
      · have e : k = ss.length := by omega
        subst e
        have hl : Hid (lrestTo l ss = some xs) := by
          show _ = _
          rw [← hre'.out, List.drop_length]; rfl
        go_wp2_with fail
        go_ret2
        rw [lrestP_some Hm.out Hw.out hl.out]
        have hl2 := hxl'.out
        exact ⟨A2, c2, by rw [hl2]; rfl, by rw [hl2]; exact ho'.out, hbl'.out⟩
end Go.Proofs.Ytjhmmbejpdibhaa
