/-
  learn.Rest.
-/
import Derived.Test.YtjhmmbejpdibhaaProg
import Derived.Test.YtjhmmbejpdibhaaLP
namespace Go.Proofs.Ytjhmmbejpdibhaa
open Go.RowKit

theorem lrestL_bad (l : List Int) (ss : List (Int × Int)) (n : Nat) (hs : ss.length ≤ 9223372036854775807) (h : mayB ss = false) (A B : Option Addr) (c d : Nat) (w : World) (hb : Stgs w w.heap.size B ss) :
    Calls Try.prog 23 #[.slice A n c, .slice B ss.length d] w (LPairQ (lrestP l ss) w) := by
  rw [lrestP_bad h]
  have Hm := Lib.hid h
  clear h
  go_enter Try.func23, Try.ntmps23
  go_wp2_with fail
  (with_reducible refine (mayL_any ss _ rfl hs _ _ _ hb).mono ?_); rintro e w1 ⟨rfl, b1⟩
  rw [Hm.out]
  go_wp2_with fail
  go_ret2
  exact lpair_err b1

set_option maxHeartbeats 2000000 in
theorem lrestL_ok (l : List Int) (ss : List (Int × Int)) (hs : ss.length ≤ 3) (hl : l.length ≤ 17592186044415) (hmay : mayB ss = true) (A B : Option Addr) (c d : Nat) (w : World) (ha : Ints .i64 w w.heap.size A l) (hb : Stgs w w.heap.size B ss) :
    Calls Try.prog 23 #[.slice A l.length c, .slice B ss.length d] w (LPairQ (lrestP l ss) w) := by
  have Hm := Lib.hid hmay
  clear hmay
  cases hw : allWideB l with
  | false =>
    have Hw := Lib.hid hw
    clear hw
    go_enter Try.func23, Try.ntmps23
    go_wp2_with fail
    (with_reducible refine (mayL_any ss _ rfl (by omega) _ _ _ hb).mono ?_); rintro e w1 ⟨rfl, b1⟩
    rw [Hm.out]
    go_wp2_with fail
    (with_reducible refine (allWideL_any l _ rfl (by omega) _ _ _ _ (ha.below b1)).mono ?_); rintro e w' ⟨rfl, rfl⟩
    rw [Hw.out]
    go_wp2_with fail
    go_ret2
    rw [lrestP_far Hm.out Hw.out]
    exact lpair_err b1
  | true =>
    have Hw := Lib.hid hw
    clear hw
    go_enter Try.func23, Try.ntmps23
    go_wp2_with fail
    (with_reducible refine (mayL_any ss _ rfl (by omega) _ _ _ hb).mono ?_); rintro e w1 ⟨rfl, b1⟩
    rw [Hm.out]
    go_wp2_with fail
    (with_reducible refine (allWideL_any l _ rfl (by omega) _ _ _ _ (ha.below b1)).mono ?_); rintro e w' ⟨rfl, rfl⟩
    rw [Hw.out]
    go_wp2_with fail
    (with_reducible refine (clone_any l _ rfl (by omega) _ _ _ ((ha.below b1).more b1.size)).mono ?_); rintro e w2 ⟨A2, c2, rfl, ho2, b2⟩
    have B2 := Lib.hid (bth b1 b2)
    have ho2' := Lib.hid (own_base ho2 b1.size)
    have hrow : Hid (∀ g, (Value.slice A2 l.length c2).ownBlock = some g → g < w2.heap.size) := fun g hg => (ho2.lt g hg).2
    have hb1 := Lib.hid b1
    clear b1 b2 ho2
    go_wp2_with fail
    go_loopw [8, 9, 10, 11, 12, 13, 24, 38] (fun _ _ _ _ _ _ iv _ wr => (∃ (k : Nat) (xs : List Int), k ≤ ss.length ∧ iv = .int .i64 k ∧ xs.length = l.length ∧ wr.ownsRow w.heap.size 3 1 (.slice A2 l.length c2) l.length (xs.map (.int .i64)) ∧ allWideB xs = true ∧ lrestTo xs (ss.drop k) = lrestTo l ss) ∧ Below w.heap.size w wr ∧ w2.heap.size ≤ wr.heap.size)
      (fun _ _ _ _ _ _ iv _ _ => ss.length - (intOf iv).toNat)
    case atStart => exact ⟨⟨0, l, Nat.zero_le _, rfl, rfl, ho2'.out, Hw.out, rfl⟩, B2.out, Nat.le_refl _⟩
    case round =>
      obtain ⟨⟨k, xs, hk, rfl, hxl, ho, hwx, hre⟩, hbl, hsz⟩ := hrel
      obtain ⟨wo, rfl⟩ : ∃ wo : World, wo = wr := ⟨_, rfl⟩
      have hwx' := Lib.hid hwx
      have hre' := Lib.hid hre
      have hbl' := Lib.hid hbl
      have ho' := Lib.hid ho
      have hxl' := Lib.hid hxl
      have hsz' := Lib.hid hsz
      clear hwx hre hbl ho hxl hsz
      by_cases hlt : k < ss.length
      · obtain ⟨bB, oB, rfl, hc1, hc2⟩ := (hb.below hbl'.out).at_ hlt
        have hval := (mayB_true.1 Hm.out).2 k hlt
        have hval' := Lib.hid hval
        obtain ⟨v1, v2, v3, v4⟩ := validB_true.1 hval
        have hdr := Lib.hid (drop_stage hlt)
        have n1 := World.new_ne wo _ hc1
        have n2 := World.new_ne wo _ hc2
        clear hval v1 v2 v3 v4
        go_wp2_with fail
        (with_reducible refine (newL_int _ _ hval'.out _).mono ?_); rintro e w3 ⟨b, bw, bs, rfl, hf, g1, g2, g3, b3⟩
        have hB3 := Lib.hid (bth (bal (brefl wo) _) b3)
        have hS : Hid (∀ q, (q = b ∨ q = bw ∨ q = bs) → wo.heap.size ≤ q) := fun q hq => by simp at g1 g2 g3; rcases hq with rfl | rfl | rfl <;> omega
        have hf' := Lib.hid hf
        clear g1 g2 g3 b3 hf n1 n2
        go_wp2_with fail
        obtain ⟨n, hn⟩ : ∃ n, n = (sto ss k).toNat := ⟨_, rfl⟩
        obtain ⟨r, hr⟩ : ∃ r, r = str ss k := ⟨_, rfl⟩
        rw [← hn, ← hr] at hf'
        have Hn := Lib.hid hn
        have Hr := Lib.hid hr
        clear hn hr
        obtain ⟨ys, hys⟩ : ∃ ys, ys = stRes n r xs := ⟨_, rfl⟩
        have Hys := Lib.hid hys
        clear hys
        have hyl : Hid (ys.length = l.length) := by show _ = _; rw [Hys.out, stRes_len, hxl'.out]
        go_loopw [11, 12, 13, 38] (fun _ _ _ jv wi => (∃ j : Nat, j ≤ l.length ∧ jv = .int .i64 j ∧ wi.ownsRow w.heap.size 3 1 (.slice A2 l.length c2) l.length ((mixTo xs ys j).map (.int .i64)) ∧ FiltL wi b bw n bs n r (toldP r (zeroF n) (xs.take j)).1 (toldP r (zeroF n) (xs.take j)).2 ∧ ∀ i, i < j → wideB (ix ys i) = true) ∧ Below w.heap.size w wi ∧ wo.heap.size ≤ wi.heap.size)
          (fun _ _ _ jv _ => l.length - (intOf jv).toNat)
        case atStart => exact ⟨⟨0, Nat.zero_le _, rfl, by rw [mixTo_zero]; exact own_below ho'.out hB3.out (Nat.le_refl _), hf'.out, fun i hi => absurd hi (by omega)⟩, bth hbl'.out hB3.out, hB3.out.size⟩
        case round =>
          obtain ⟨⟨j, hj, rfl, ho4, hF, hys4⟩, hbi, hsz4⟩ := hrel
          have hys4' := Lib.hid hys4
          have hbi' := Lib.hid hbi
          have hF' := Lib.hid hF
          have ho4' := Lib.hid ho4
          clear hys4 hbi hF ho4
          by_cases hlt2 : j < l.length
          · obtain ⟨g, rfl, hBg, hgz⟩ := own_addr ho4'.out (by omega)
            have hgr := hrow.out g (by simp [Value.ownBlock])
            have hgw := hsz'.out
            have d1 := own_cell ho4'.out hlt2
            rw [mixTo_ix (by rw [hxl'.out]; exact hlt2), if_neg (by omega)] at d1
            have hx := wideB_true.1 (allWideB_true.1 hwx'.out j (by rw [hxl'.out]; exact hlt2))
            obtain ⟨hx1, hx2⟩ := hx
            obtain ⟨hg1, hg2⟩ := gsP_wide n r xs j
            have hgs : Hid (guessP (toldP r (zeroF n) (xs.take j)).1 (toldP r (zeroF n) (xs.take j)).2 = gsP n r xs j) := rfl
            have hyj : Hid (ix ys j = ix xs j - gsP n r xs j) := by show _ = _; rw [Hys.out, stRes_ix (by rw [hxl'.out]; exact hlt2)]
            go_wp2_with fail
            (with_reducible refine (guessL_any hF'.out).mono ?_); rintro e w' ⟨rfl, rfl⟩
            rw [hgs.out]
            go_wp2_with fail
            (with_reducible refine (wideL_any _ _).mono ?_); rintro e w' ⟨rfl, rfl⟩
            rw [← hyj.out]
            cases hy : wideB (ix ys j) with
            | false =>
              have Hy := Lib.hid hy
              clear hy
              go_wp2_with fail
              go_ret2
              rw [lrestP_none Hm.out Hw.out (by rw [← hre'.out, hdr.out, lrestTo_cons, ← Hn.out, ← Hr.out, ← Hys.out, if_neg (by rw [allWideB_false (by rw [hyl.out]; exact hlt2) Hy.out]; simp)])]
              exact lpair_err hbi'.out
            | true =>
              have Hy := Lib.hid hy
              clear hy
              go_wp2_with fail
              (with_reducible refine (tellL_q hF'.out _).mono ?_); rintro e w5 ⟨rfl, hF5, k5⟩
              have hF5' := Lib.hid hF5
              have hb5 := Lib.hid (hbi'.out.trans (k5.below (fun q hq => by have := hS.out q hq; have := hbl'.out.size; omega) hbi'.out.size))
              have ho5 := Lib.hid (own_of_block ho4'.out (w' := w5) fun q hq => by simp [Value.ownBlock] at hq; subst hq; exact k5.block g hgz fun hs => by have := hS.out g hs; omega)
              have hs5 := Lib.hid k5.size
              clear hF5 k5
              have d5 := World.ownsRow.frozenAt ho5.out j
              have d6 := own_cell ho5.out hlt2
              rw [mixTo_ix (by rw [hxl'.out]; exact hlt2), if_neg (by omega)] at d6
              have hms := Lib.hid (mixTo_set (xs := xs) (ys := ys) (k := j) (by rw [hxl'.out]; exact hlt2))
              have hts := Lib.hid (take_succ_ix (xs := xs) (k := j) (by rw [hxl'.out]; exact hlt2))
              have hsn := Lib.hid (toldP_snoc r (zeroF n) (xs.take j) (ix xs j))
              go_wp2_with fail
              go_roundw
              case rel =>
                refine ⟨⟨j + 1, by omega, by go_num, ?_, ?_, fun i hi => ?_⟩, hb5.out.setCell (p := ⟨g, j, none⟩) hBg _, ?_⟩
                · rw [← hms.out, hyj.out]
                  exact own_set ho5.out j _
                · rw [hts.out, hsn.out]
                  have h1 := hF5'.out
                  exact h1.keep (Below.heap_setCell _ _ _ _ (fun e => by have := hS.out b (.inl rfl); simp at e; omega)) (Below.heap_setCell _ _ _ _ (fun e => by have := hS.out bw (.inr (.inl rfl)); simp at e; omega)) (Below.heap_setCell _ _ _ _ (fun e => by have := hS.out bs (.inr (.inr rfl)); simp at e; omega))
                · by_cases e : i = j
                  · subst e; exact Hy.out
                  · exact hys4'.out i (by omega)
                · have := hs5.out; simp [World.setCell]; omega
              case measure => simp [intOf]; omega
          · have e : j = l.length := by omega
            subst e
            have hyw := Lib.hid (allWideB_true (xs := ys) |>.2 fun i hi => hys4'.out i (by rw [← hyl.out]; exact hi))
            have hmx : Hid (mixTo xs ys l.length = ys) := by
              show _ = _
              have := mixTo_all (xs := xs) (ys := ys) (by rw [hyl.out, hxl'.out])
              rwa [hxl'.out] at this
            have ho6 : Hid (wr.ownsRow w.heap.size 3 1 (.slice A2 l.length c2) l.length (ys.map (.int .i64))) := by rw [← hmx.out]; exact ho4'.out
            go_wp2_with fail
            go_roundw
            case rel =>
              refine ⟨⟨k + 1, ys, by omega, by go_num, hyl.out, ho6.out, hyw.out, ?_⟩, hbi'.out, by have := hsz'.out; omega⟩
              rw [← hre'.out, hdr.out, lrestTo_cons, ← Hn.out, ← Hr.out, ← Hys.out, if_pos hyw.out]
            case measure => simp [intOf]; omega
      · have e : k = ss.length := by omega
        subst e
        have hl : Hid (lrestTo l ss = some xs) := by
          show _ = _
          rw [← hre'.out, List.drop_length]; rfl
        go_wp2_with fail
        go_ret2
        rw [lrestP_some Hm.out Hw.out hl.out]
        have hl2 := hxl'.out
        exact ⟨A2, c2, by rw [hl2]; rfl, by rw [hl2]; exact ho'.out, hbl'.out⟩
end Go.Proofs.Ytjhmmbejpdibhaa
