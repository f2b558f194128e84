/-
  LearnStages: the walk of the law.
-/
import Derived.Test.YtjhmmbejpdibhaaProg
import Derived.Test.YtjhmmbejpdibhaaLRests
namespace Go.Proofs.Ytjhmmbejpdibhaa
open Go.RowKit

theorem lrestP_nil {l : List Int} (h : allWideB l = true) : lrestP l [] = (l, 0) := lrestP_some (by decide) h rfl
theorem lrestP_one {l : List Int} {o r : Int} (h : allWideB l = true) (hv : validB o r = true) : lrestP l [(o, r)] = if allWideB (stRes o.toNat r l) = true then (stRes o.toNat r l, 0) else ([], 6) := by
  have hm : mayB [(o, r)] = true := mayB_true.2 ⟨by simp, fun k hk => by
    have : k = 0 := by simpa using hk
    subst this; exact hv⟩
  cases e : allWideB (stRes o.toNat r l) with
  | true => exact lrestP_some hm h (by rw [lrestTo_cons, if_pos e]; rfl)
  | false => exact lrestP_none hm h (by rw [lrestTo_cons, if_neg (by simp [e])])
theorem Stgs.one {w : World} {B : Nat} {b off : Nat} {ss : List (Int × Int)} (h : Stgs w B (some ⟨b, off, none⟩) ss) {k : Nat} (hk : k < ss.length) : Stgs w B (some ⟨b, off + k * 2, none⟩) [(sto ss k, str ss k)] := fun _ => by
  obtain ⟨b', off', e, hb, hc⟩ := h (by omega)
  cases e
  refine ⟨b, off + k * 2, rfl, hb, fun i hi => ?_⟩
  have : i = 0 := by simpa using hi
  subst this
  exact hc k hk

set_option maxHeartbeats 2000000 in
theorem stages_any (l : List Int) (hm : l.length ≤ 9223372036854775807) (A : Option Addr) (c : Nat) (ss : List (Int × Int)) (hm2 : ss.length ≤ 9223372036854775807) (A2 : Option Addr) (c2 : Nat) (hc : ss.length ≤ c2) (w : World)
    (ha : Ints .i64 w w.heap.size A l) (_f1 : Fit .i64 l) (hb : Stgs w w.heap.size A2 ss) (_f2 : True) :
    Calls Try.prog 6 #[.slice A l.length c, .slice A2 ss.length c2] w fun e w' => e = .returned (.bool true) ∧ Below w.heap.size w w' := by
  by_cases q1 : 120 < l.length
  · have hI : (120 : Int) < (l.length : Int) := by omega
    go_enter Try.func6, Try.ntmps6
    go_wp2_with fail
    (with_reducible refine (known_any _).mono ?_); rintro e w1 ⟨rfl, b1⟩
    go_wp2_with fail
    go_ret
    exact ⟨rfl, b1⟩
  have q1I : (l.length : Int) ≤ 120 := by omega
  cases hw : allWideB l with
  | false =>
    have Hw := Lib.hid hw
    clear hw
    go_enter Try.func6, Try.ntmps6
    go_wp2_with fail
    (with_reducible refine (known_any _).mono ?_); rintro e w1 ⟨rfl, b1⟩
    go_wp2_with fail
    (with_reducible refine (allWide2_any l _ rfl (by omega) _ _ _ _ (ha.below b1)).mono ?_); rintro e w' ⟨rfl, rfl⟩
    rw [Hw.out]
    go_wp2_with fail
    go_ret
    exact ⟨rfl, b1⟩
  | true =>
    have Hw := Lib.hid hw
    clear hw
    cases hmay : mayB ss with
    | false =>
      have Hm := Lib.hid hmay
      clear hmay
      go_enter Try.func6, Try.ntmps6
      go_wp2_with fail
      (with_reducible refine (known_any _).mono ?_); rintro e w1 ⟨rfl, b1⟩
      go_wp2_with fail
      (with_reducible refine (allWide2_any l _ rfl (by omega) _ _ _ _ (ha.below b1)).mono ?_); rintro e w' ⟨rfl, rfl⟩
      rw [Hw.out]
      go_wp2_with fail
      (with_reducible refine (mayR_any ss _ rfl (by omega) _ _ _ ((hb.below b1).more b1.size)).mono ?_); rintro e w2 ⟨rfl, b2⟩
      rw [Hm.out]
      go_wp2_with fail
      go_ret
      exact ⟨rfl, bth b1 b2⟩
    | true =>
      have hs3 := (mayB_true.1 hmay).1
      have hs3I : (ss.length : Int) ≤ 3 := by omega
      have Hm := Lib.hid hmay
      have Hn := Lib.hid (lrestP_nil Hw.out)
      have hll := @lrestP_len l ss
      have s1 : eqI l l = true := eqI_refl _
      clear hmay
      go_enter Try.func6, Try.ntmps6
      go_wp2_with fail
      (with_reducible refine (known_any _).mono ?_); rintro e w1 ⟨rfl, b1⟩
      go_wp2_with fail
      (with_reducible refine (allWide2_any l _ rfl (by omega) _ _ _ _ (ha.below b1)).mono ?_); rintro e w' ⟨rfl, rfl⟩
      rw [Hw.out]
      go_wp2_with fail
      (with_reducible refine (mayR_any ss _ rfl (by omega) _ _ _ ((hb.below b1).more b1.size)).mono ?_); rintro e w2 ⟨rfl, b2⟩
      rw [Hm.out]
      have B2 := bth b1 b2
      go_wp2_with fail
      (with_reducible refine (lrestL_any l ss (by omega) (by omega) _ _ _ _ _ ((ha.below B2).more B2.size) ((hb.below B2).more B2.size)).mono ?_); rintro e w3 ⟨R3, r3, rfl, hr3, b3⟩
      have B3 := bth B2 b3
      have z3 := Lib.hid (own_ints hr3)
      go_wp2_with fail
      have hln := lrestL_any l [] (by simp) (by omega) A none c 0 w3 ((ha.below B3).more B3.size) (fun h => by simp at h)
      rw [Hn.out] at hln
      refine hln.mono ?_; rintro e w4 ⟨R4, r4, rfl, hr4, b4⟩
      have B4 := bth B3 b4
      have z4 := Lib.hid (own_ints hr4)
      clear hln hr3 hr4
      go_wp2_with fail
      (with_reducible refine (same_q l l _ _ rfl rfl (by omega) (by omega) _ _ _ _ _ _ _ z4.out ((ha.below B4).more B4.size)).mono ?_); rintro e w5 ⟨rfl, b5⟩
      rw [s1]
      have B5 := Lib.hid (bth B4 b5)
      have z35 := Lib.hid (z3.out.below (bth b4 b5))
      have z45 := Lib.hid (z4.out.below b5)
      have hz5 := Lib.hid (Nat.le_trans b4.size b5.size)
      have hz55 := Lib.hid b5.size
      clear z3 z4 B4 B3 B2 b1 b2 b3 b4 b5
      go_wp2_with fail
      go_loopw [7, 9, 10, 11, 49] (fun xv iv _ _ _ wr => (∃ (k : Nat) (xs : List Int) (Ax : Option Addr) (cx : Nat), k ≤ ss.length ∧ iv = .int .i64 k ∧ xs.length = l.length ∧ xv = .slice Ax l.length cx ∧ Ints .i64 wr wr.heap.size Ax xs ∧ allWideB xs = true ∧ lrestTo xs (ss.drop k) = lrestTo l ss) ∧ Below w.heap.size w wr ∧ Ints .i64 wr wr.heap.size R3 (lrestP l ss).1)
        (fun _ iv _ _ _ _ => ss.length - (intOf iv).toNat)
      case atStart => exact ⟨⟨0, l, R4, r4, Nat.zero_le _, rfl, rfl, rfl, z45.out.more hz55.out, Hw.out, rfl⟩, B5.out, z35.out.more hz5.out⟩
      case round =>
        obtain ⟨⟨k, xs, Ax, cx, hk, rfl, hxl, rfl, hxs, hwx, hre⟩, hbl, h3⟩ := hrel
        obtain ⟨wo, rfl⟩ : ∃ wo : World, wo = wr := ⟨_, rfl⟩
        have hwx' := Lib.hid hwx
        have hre' := Lib.hid hre
        have hbl' := Lib.hid hbl
        have hxl' := Lib.hid hxl
        have hxs' := Lib.hid hxs
        have h3' := Lib.hid h3
        clear hwx hre hbl hxl hxs h3
        by_cases hlt : k < ss.length
        · have hlI : (k : Int) + 1 ≤ (c2 : Int) := by omega
          obtain ⟨bB, oB, rfl, _, _⟩ := (hb.below hbl'.out).at_ hlt
          have hval := Lib.hid ((mayB_true.1 Hm.out).2 k hlt)
          have hdr := Lib.hid (drop_stage hlt)
          have h1 := Lib.hid (lrestP_one hwx'.out hval.out)
          have hone := Lib.hid ((Stgs.one hb hlt).below hbl'.out |>.more hbl'.out.size)
          go_wp2_with fail
          have hcl := lrestL_any xs [(sto ss k, str ss k)] (by simp) (by rw [hxl'.out]; omega) Ax (some ⟨bB, oB + k * 2, none⟩) cx (c2 - k) wo hxs'.out hone.out
          rw [h1.out, hxl'.out] at hcl
          have Hcl := Lib.hid hcl
          clear hcl
          have hyl : Hid ((stRes (sto ss k).toNat (str ss k) xs).length = l.length) := by show _ = _; rw [stRes_len, hxl'.out]
          have hst : Hid (lrestTo l ss = if allWideB (stRes (sto ss k).toNat (str ss k) xs) = true then lrestTo (stRes (sto ss k).toNat (str ss k) xs) (ss.drop (k + 1)) else none) := by show _ = _; rw [← hre'.out, hdr.out, lrestTo_cons]
          clear h1
          obtain ⟨ys, hys⟩ : ∃ ys, ys = stRes (sto ss k).toNat (str ss k) xs := ⟨_, rfl⟩
          rw [← hys] at Hcl hyl hst
          clear hys
          cases hy : allWideB ys with
          | true =>
            have Hy := Lib.hid hy
            rw [if_pos hy] at Hcl hst
            clear hy
            refine Hcl.out.mono ?_; rintro e w6 ⟨R6, r6, rfl, ho6, b6⟩
            have ho6' := Lib.hid ho6
            have b6' := Lib.hid b6
            clear ho6 b6
            go_wp2_with fail
            go_roundw
            case rel =>
              exact ⟨⟨k + 1, ys, R6, r6, by omega, by go_num, hyl.out, by show Value.slice R6 ys.length r6 = _; rw [hyl.out], own_ints ho6'.out, Hy.out, hst.out.symm⟩, bth hbl'.out b6'.out, (h3'.out.below b6'.out).more b6'.out.size⟩
            case measure => simp [intOf]; omega
          | false =>
            have hal : Hid (lrestP l ss = ([], 6)) := by
              show _ = _
              refine lrestP_none Hm.out Hw.out ?_
              rw [hst.out, if_neg (by simp [hy])]
            rw [if_neg (by simp [hy])] at Hcl
            clear hy hst
            refine Hcl.out.mono ?_; rintro e w6 ⟨R6, r6, rfl, _, b6⟩
            rw [hal.out]
            go_wp2_with fail
            go_ret
            exact ⟨rfl, bth hbl'.out b6⟩
        · have e : k = ss.length := by omega
          subst e
          have hl : Hid (lrestTo l ss = some xs) := by
            show _ = _
            rw [← hre'.out, List.drop_length]; rfl
          have hal : Hid (lrestP l ss = (xs, 0)) := lrestP_some Hm.out Hw.out hl.out
          have h3'' := h3'.out
          rw [hal.out] at h3''
          have s2 : eqI xs xs = true := eqI_refl _
          rw [hal.out]
          go_wp2_with fail
          (with_reducible refine (same_q xs xs _ _ rfl hxl'.out.symm (by rw [hxl'.out]; omega) (by omega) _ _ _ _ _ _ _ h3'' hxs'.out).mono ?_); rintro e w6 ⟨rfl, b6⟩
          rw [s2]
          go_wp2_with fail
          go_ret
          exact ⟨rfl, bth hbl'.out b6⟩
end Go.Proofs.Ytjhmmbejpdibhaa
