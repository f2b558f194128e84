/-
  Weights and the best order, on both sides.
-/
import Derived.Test.YtbigocjodclbhaaProg
import Derived.Test.YtbigocjodclbhaaFB
namespace Go.Proofs.Ytbigocjodclbhaa
open Go.RowKit

theorem weigh_any (r : List Int) (n : Nat) (hn : n = r.length) (hm : n ≤ 140737488355328) (o : Int) (h0 : 0 ≤ o) (h4 : o ≤ 4) (A : Option Addr) (b c : Nat) (w : World) (ha : Ints .i64 w b A r) :
    Calls Try.prog 22 #[.slice A n c, .int .i64 o] w fun e w' => e = .returned (.int .i64 (wsum r o n)) ∧ w = w' := by
  subst hn
  go_enter Try.func22, Try.ntmps22
  go_wp2
  go_loop [5, 6, 7, 10] (fun s _ _ i => ∃ k : Nat, k ≤ r.length ∧ i = .int .i64 k ∧ s = .int .i64 (wsum r o k)) (fun _ _ _ i => r.length - (intOf i).toNat)
  case atStart => exact ⟨0, Nat.zero_le _, rfl, rfl⟩
  case round =>
    obtain ⟨k, hk, rfl, rfl⟩ := hrel
    by_cases hlt : k < r.length
    · obtain ⟨b1, o1, rfl, hc1⟩ := ha.at_ hlt
      by_cases h : 4 ≤ (k : Int) + o
      · have hs := Lib.hid (wsum_in (r := r) h)
        go_wp2
        go_round
        case rel => exact ⟨k + 1, by omega, by go_num, by rw [hs.out]; rfl⟩
        case measure => simp [intOf]; omega
      · have hs := Lib.hid (wsum_out (r := r) h)
        go_wp2
        go_round
        case rel => exact ⟨k + 1, by omega, by go_num, by rw [hs.out]⟩
        case measure => simp [intOf]; omega
    · have e : k = r.length := by omega
      subst e
      go_wp2
      go_ret
      exact ⟨rfl, rfl⟩

theorem far_any (x : Int) (w : World) : Calls Try.prog 27 #[.int .i64 x] w fun e w' => e = .returned (.int .i64 (absW x)) ∧ w = w' := by
  by_cases h : x < wrap64 (-x)
  · have hs := Lib.hid (show absW x = wrap64 (-x) from by unfold absW; rw [if_pos h])
    go_enter Try.func27, Try.ntmps27
    go_wp2
    go_ret
    exact ⟨ret_int hs.out.symm, rfl⟩
  · have hs := Lib.hid (show absW x = x from by unfold absW; rw [if_neg h])
    go_enter Try.func27, Try.ntmps27
    go_wp2
    go_ret
    exact ⟨ret_int hs.out.symm, rfl⟩

theorem total_any (r : List Int) (n : Nat) (hn : n = r.length) (hm : n ≤ 140737488355328) (f : Nat) (hf : f ≤ 4) (fI : Int) (hfI : fI = (f : Int)) (A : Option Addr) (b c : Nat) (w : World) (ha : Ints .i64 w b A r) :
    Calls Try.prog 23 #[.slice A n c, .int .i64 fI] w fun e w' => e = .returned (.int .i64 (wsum r (4 - (f : Int)) n)) ∧ w = w' := by
  subst hn
  subst hfI
  have h0 : (0 : Int) ≤ (f : Int) := by omega
  go_enter Try.func23, Try.ntmps23
  go_wp2_with fail
  go_loop [5, 6] (fun s i => ∃ k : Nat, f ≤ k ∧ (k ≤ r.length ∨ k = f) ∧ i = .int .i64 k ∧ s = .int .i64 (wsum r (4 - (f : Int)) k)) (fun _ i => r.length - (intOf i).toNat)
  case atStart =>
    refine ⟨f, Nat.le_refl _, .inr rfl, ?_, by rw [wsum_zero (by omega)]⟩
    first | rfl | (congr 1; (repeat' split) <;> omega)
  case round =>
    obtain ⟨k, hfk, hk, rfl, rfl⟩ := hrel
    by_cases hlt : k < r.length
    · obtain ⟨b1, o1, rfl, hc1⟩ := ha.at_ hlt
      have hs := Lib.hid (wsum_in (r := r) (o := 4 - (f : Int)) (k := k) (by omega))
      go_wp2_with (go_at_call 27; (with_reducible refine (far_any _ _).mono ?_); rintro e w' ⟨rfl, rfl⟩)
      go_round
      case rel => exact ⟨k + 1, by omega, .inl (by omega), by go_num, by rw [hs.out]⟩
      case measure => simp [intOf]; omega
    · have hs : Hid (wsum r (4 - (f : Int)) k = wsum r (4 - (f : Int)) r.length) := by
        show _ = _
        rcases hk with hk | hk
        · rw [show k = r.length from by omega]
        · rw [wsum_zero (by omega), wsum_zero (by omega)]
      go_wp2_with fail
      go_ret
      exact ⟨ret_int hs.out, rfl⟩

def IntQ (x : Int) (w : World) (e : Ending) (w' : World) : Prop := e = .returned (.int .i64 x) ∧ Below w.heap.size w w'

theorem weightL_any (l : List Int) (o : Int) (hm : l.length ≤ 17592186044415) (A : Option Addr) (c : Nat) (w : World) (ha : Ints .i64 w w.heap.size A l) :
    Calls Try.prog 14 #[.slice A l.length c, .int .i64 o] w (IntQ (weightP l o) w) := by
  by_cases h : (restP l o).2 = 0
  · have he : ((restP l o).2 != 0) = false := by simp [h]
    have hwp := Lib.hid (show weightP l o = wsum (restP l o).1 o (restP l o).1.length from by unfold weightP; rw [if_pos h])
    obtain ⟨o1, o2⟩ := restP_ord h
    have hln := @restP_len l o
    clear h
    go_enter Try.func14, Try.ntmps14
    go_wp2_with fail
    (with_reducible refine (restL_any l o hm _ _ _ ha).mono ?_); rintro e w1 ⟨A1, c1, rfl, ho1, b1⟩
    go_wp2_with fail
    (with_reducible refine (weigh_any (restP l o).1 _ rfl (by omega) o o1 o2 _ _ _ _ (own_ints ho1)).mono ?_); rintro e w' ⟨rfl, rfl⟩
    go_wp2_with fail
    go_ret
    exact ⟨ret_int hwp.out.symm, b1⟩
  · have he : ((restP l o).2 != 0) = true := by simp [h]
    have hwp := Lib.hid (show weightP l o = 0 from by unfold weightP; rw [if_neg h])
    clear h
    go_enter Try.func14, Try.ntmps14
    go_wp2_with fail
    (with_reducible refine (restL_any l o hm _ _ _ ha).mono ?_); rintro e w1 ⟨A1, c1, rfl, ho1, b1⟩
    go_wp2_with fail
    go_ret
    exact ⟨ret_int hwp.out.symm, b1⟩

theorem weightR_any (l : List Int) (o : Int) (hm : l.length ≤ 17592186044415) (A : Option Addr) (c : Nat) (w : World) (ha : Ints .i64 w w.heap.size A l) :
    Calls Try.prog 15 #[.slice A l.length c, .int .i64 o] w (IntQ (weightP l o) w) := by
  by_cases h : (restP l o).2 = 0
  · have he : ((restP l o).2 != 0) = false := by simp [h]
    obtain ⟨o1, o2⟩ := restP_ord h
    have hwp := Lib.hid (show weightP l o = wsum (restP l o).1 o (restP l o).1.length from by unfold weightP; rw [if_pos h])
    have hln := @restP_len l o
    clear h
    go_enter Try.func15, Try.ntmps15
    go_wp2_with fail
    (with_reducible refine (restR_any l o hm _ _ _ ha).mono ?_); rintro e w1 ⟨A1, c1, rfl, ho1, b1⟩
    go_wp2_with fail
    (with_reducible refine (total_any (restP l o).1 _ rfl (by omega) (4 - o).toNat (by omega) _ (by omega) _ _ _ _ (own_ints ho1)).mono ?_); rintro e w' ⟨rfl, rfl⟩
    go_wp2_with fail
    go_ret
    exact ⟨ret_int (by rw [hwp.out, show 4 - max (4 - o) 0 = o from by omega]), b1⟩
  · have he : ((restP l o).2 != 0) = true := by simp [h]
    have hwp := Lib.hid (show weightP l o = 0 from by unfold weightP; rw [if_neg h])
    clear h
    go_enter Try.func15, Try.ntmps15
    go_wp2_with fail
    (with_reducible refine (restR_any l o hm _ _ _ ha).mono ?_); rintro e w1 ⟨A1, c1, rfl, ho1, b1⟩
    go_wp2_with fail
    go_ret
    exact ⟨ret_int hwp.out.symm, b1⟩

set_option maxHeartbeats 1000000 in
theorem bestL_any (l : List Int) (hm : l.length ≤ 17592186044415) (A : Option Addr) (c : Nat) (w : World) (ha : Ints .i64 w w.heap.size A l) :
    Calls Try.prog 16 #[.slice A l.length c] w (IntQ (bestLTo l 5).1 w) := by
  go_enter Try.func16, Try.ntmps16
  go_wp2_with fail
  go_loopw [3, 4, 5, 6, 7, 8] (fun bv lv ov _ _ _ wr => (∃ k : Nat, k ≤ 5 ∧ ov = .int .i64 k ∧ bv = .int .i64 (bestLTo l k).1 ∧ lv = .int .i64 (bestLTo l k).2) ∧ Below w.heap.size w wr) (fun _ _ ov _ _ _ _ => 5 - (intOf ov).toNat)
  case atStart => exact ⟨⟨0, by omega, rfl, rfl, rfl⟩, brefl w⟩
  case round =>
    obtain ⟨⟨k, hk, rfl, rfl, rfl⟩, hbl⟩ := hrel
    have hbA := Lib.hid hbl
    by_cases hlt : k < 5
    · have hI : (k : Int) ≤ 4 := by omega
      have hsu : Hid (bestLTo l (k + 1) = bestLS l (bestLTo l k) k) := rfl
      generalize hst : bestLTo l k = st at hsu ⊢
      clear hst
      have hln := @restP_len l k
      by_cases h : (restP l k).2 = 0
      · have he : ((restP l k).2 != 0) = false := by simp [h]
        have hwp := Lib.hid (show wsum (restP l k).1 k (restP l k).1.length = weightP l k from by unfold weightP; rw [if_pos h])
        have hs : Hid (bestLS l st k = if st.2 < 0 then (↑k, weightP l k) else if weightP l k < st.2 then (↑k, weightP l k) else st) := by show _ = _; unfold bestLS; rw [if_pos h]
        clear h
        by_cases h1 : st.2 < 0
        · go_wp2_with fail
          (with_reducible refine (restL_any l k hm _ _ _ ((ha.below hbA.out).more hbA.out.size)).mono ?_); rintro e w1 ⟨A1, c1, rfl, ho1, b1⟩
          go_wp2_with fail
          (with_reducible refine (weigh_any (restP l k).1 _ rfl (by omega) k (by omega) hI _ _ _ _ (own_ints ho1)).mono ?_); rintro e w' ⟨rfl, rfl⟩
          rw [hwp.out]
          go_wp2_with fail
          go_roundw
          case rel => exact ⟨⟨k + 1, by omega, by go_num, by rw [hsu.out, hs.out, if_pos h1], by rw [hsu.out, hs.out, if_pos h1]⟩, bth hbA.out b1⟩
          case measure => simp [intOf]; omega
        · by_cases h2 : weightP l k < st.2
          · go_wp2_with fail
            (with_reducible refine (restL_any l k hm _ _ _ ((ha.below hbA.out).more hbA.out.size)).mono ?_); rintro e w1 ⟨A1, c1, rfl, ho1, b1⟩
            go_wp2_with fail
            (with_reducible refine (weigh_any (restP l k).1 _ rfl (by omega) k (by omega) hI _ _ _ _ (own_ints ho1)).mono ?_); rintro e w' ⟨rfl, rfl⟩
            rw [hwp.out]
            go_wp2_with fail
            go_roundw
            case rel => exact ⟨⟨k + 1, by omega, by go_num, by rw [hsu.out, hs.out, if_neg (by omega), if_pos h2], by rw [hsu.out, hs.out, if_neg (by omega), if_pos h2]⟩, bth hbA.out b1⟩
            case measure => simp [intOf]; omega
          · go_wp2_with fail
            (with_reducible refine (restL_any l k hm _ _ _ ((ha.below hbA.out).more hbA.out.size)).mono ?_); rintro e w1 ⟨A1, c1, rfl, ho1, b1⟩
            go_wp2_with fail
            (with_reducible refine (weigh_any (restP l k).1 _ rfl (by omega) k (by omega) hI _ _ _ _ (own_ints ho1)).mono ?_); rintro e w' ⟨rfl, rfl⟩
            rw [hwp.out]
            go_wp2_with fail
            go_roundw
            case rel => exact ⟨⟨k + 1, by omega, by go_num, by rw [hsu.out, hs.out, if_neg (by omega), if_neg (by omega)], by rw [hsu.out, hs.out, if_neg (by omega), if_neg (by omega)]⟩, bth hbA.out b1⟩
            case measure => simp [intOf]; omega
      · have he : ((restP l k).2 != 0) = true := by simp [h]
        have hs : Hid (bestLS l st k = st) := by show _ = _; unfold bestLS; rw [if_neg h]
        clear h
        go_wp2_with fail
        (with_reducible refine (restL_any l k hm _ _ _ ((ha.below hbA.out).more hbA.out.size)).mono ?_); rintro e w1 ⟨A1, c1, rfl, ho1, b1⟩
        go_wp2_with fail
        go_roundw
        case rel => exact ⟨⟨k + 1, by omega, by go_num, by rw [hsu.out, hs.out], by rw [hsu.out, hs.out]⟩, bth hbA.out b1⟩
        case measure => simp [intOf]; omega
    · have e : k = 5 := by omega
      subst e
      go_wp2_with fail
      go_ret
      exact ⟨rfl, hbl⟩

set_option maxHeartbeats 1000000 in
theorem bestR_any (l : List Int) (hm : l.length ≤ 17592186044415) (A : Option Addr) (c : Nat) (w : World) (ha : Ints .i64 w w.heap.size A l) :
    Calls Try.prog 17 #[.slice A l.length c] w (IntQ (max (bestRTo l 5).1 0) w) := by
  go_enter Try.func17, Try.ntmps17
  go_wp2_with fail
  go_loopw [3, 4, 5, 6, 7, 8] (fun bv lv ov _ _ _ wr => (∃ k : Nat, k ≤ 5 ∧ ov = .int .i64 k ∧ bv = .int .i64 (bestRTo l k).1 ∧ lv = .int .i64 (bestRTo l k).2) ∧ Below w.heap.size w wr) (fun _ _ ov _ _ _ _ => 5 - (intOf ov).toNat)
  case atStart => exact ⟨⟨0, by omega, rfl, rfl, rfl⟩, brefl w⟩
  case round =>
    obtain ⟨⟨k, hk, rfl, rfl, rfl⟩, hbl⟩ := hrel
    have hbA := Lib.hid hbl
    by_cases hlt : k < 5
    · have hI : (k : Int) < 5 := by omega
      have hsu : Hid (bestRTo l (k + 1) = bestRS l (bestRTo l k) k) := rfl
      generalize hst : bestRTo l k = st at hsu ⊢
      clear hst
      by_cases h : (restP l k).2 = 0
      · have he : ((restP l k).2 == 0) = true := by simp [h]
        have hs : Hid (bestRS l st k = if st.1 < 0 then (↑k, weightP l k) else if weightP l k < st.2 then (↑k, weightP l k) else st) := by show _ = _; unfold bestRS; rw [if_pos h]
        clear h
        by_cases h1 : st.1 < 0
        · go_wp2_with fail
          (with_reducible refine (restR_any l k hm _ _ _ ((ha.below hbA.out).more hbA.out.size)).mono ?_); rintro e w1 ⟨A1, c1, rfl, ho1, b1⟩
          have hb1 := Lib.hid (bth hbA.out b1)
          clear b1
          go_wp2_with fail
          (with_reducible refine (weightR_any l k hm _ _ _ ((ha.below hb1.out).more hb1.out.size)).mono ?_); rintro e w2 ⟨rfl, b2⟩
          go_wp2_with fail
          go_roundw
          case rel => exact ⟨⟨k + 1, by omega, by go_num, by rw [hsu.out, hs.out, if_pos h1], by rw [hsu.out, hs.out, if_pos h1]⟩, bth hb1.out b2⟩
          case measure => simp [intOf]; omega
        · by_cases h2 : weightP l k < st.2
          · go_wp2_with fail
            (with_reducible refine (restR_any l k hm _ _ _ ((ha.below hbA.out).more hbA.out.size)).mono ?_); rintro e w1 ⟨A1, c1, rfl, ho1, b1⟩
            have hb1 := Lib.hid (bth hbA.out b1)
            clear b1
            go_wp2_with fail
            (with_reducible refine (weightR_any l k hm _ _ _ ((ha.below hb1.out).more hb1.out.size)).mono ?_); rintro e w2 ⟨rfl, b2⟩
            go_wp2_with fail
            go_roundw
            case rel => exact ⟨⟨k + 1, by omega, by go_num, by rw [hsu.out, hs.out, if_neg (by omega), if_pos h2], by rw [hsu.out, hs.out, if_neg (by omega), if_pos h2]⟩, bth hb1.out b2⟩
            case measure => simp [intOf]; omega
          · go_wp2_with fail
            (with_reducible refine (restR_any l k hm _ _ _ ((ha.below hbA.out).more hbA.out.size)).mono ?_); rintro e w1 ⟨A1, c1, rfl, ho1, b1⟩
            have hb1 := Lib.hid (bth hbA.out b1)
            clear b1
            go_wp2_with fail
            (with_reducible refine (weightR_any l k hm _ _ _ ((ha.below hb1.out).more hb1.out.size)).mono ?_); rintro e w2 ⟨rfl, b2⟩
            go_wp2_with fail
            go_roundw
            case rel => exact ⟨⟨k + 1, by omega, by go_num, by rw [hsu.out, hs.out, if_neg (by omega), if_neg (by omega)], by rw [hsu.out, hs.out, if_neg (by omega), if_neg (by omega)]⟩, bth hb1.out b2⟩
            case measure => simp [intOf]; omega
      · have he : ((restP l k).2 == 0) = false := by simp [h]
        have hs : Hid (bestRS l st k = st) := by show _ = _; unfold bestRS; rw [if_neg h]
        clear h
        go_wp2_with fail
        (with_reducible refine (restR_any l k hm _ _ _ ((ha.below hbA.out).more hbA.out.size)).mono ?_); rintro e w1 ⟨A1, c1, rfl, ho1, b1⟩
        have hb1 := Lib.hid (bth hbA.out b1)
        clear b1
        go_wp2_with fail
        (with_reducible refine (weightR_any l k hm _ _ _ ((ha.below hb1.out).more hb1.out.size)).mono ?_); rintro e w2 ⟨rfl, b2⟩
        go_wp2_with fail
        go_roundw
        case rel => exact ⟨⟨k + 1, by omega, by go_num, by rw [hsu.out, hs.out], by rw [hsu.out, hs.out]⟩, bth hb1.out b2⟩
        case measure => simp [intOf]; omega
    · have e : k = 5 := by omega
      subst e
      go_wp2_with fail
      all_goals go_ret
      all_goals exact ⟨ret_int (by omega), hbl⟩
end Go.Proofs.Ytbigocjodclbhaa
