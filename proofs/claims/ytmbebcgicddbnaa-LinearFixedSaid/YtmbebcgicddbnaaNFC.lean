/-
  fixed.wide, fixed.Rest (the seat of linear).
-/
import Derived.Test.YtmbebcgicddbnaaProg
import Derived.Test.YtmbebcgicddbnaaNFD
import Derived.Test.YtmbebcgicddbnaaR2
import Derived.Deep.LoopGhost
import Derived.Deep.DeepCutAuto
import Derived.Deep.CutBlock
namespace Go.Proofs.Ytmbebcgicddbnaa
open Go.RowKit

theorem int_info : (Try.prog.info? 3).map (fun i => (i.zero, i.size, i.bytes)) = some (some (.int .i64 0), 1, 8) := by kernel_rfl

theorem fwide_any (xs : List Int) (n : Nat) (hn : n = xs.length) (hm : n ≤ 140737488355328) (A : Option Addr) (b c : Nat) (w : World) (ha : Ints .i64 w b A xs) :
    Calls Try.prog 35 #[.slice A n c] w fun e w' => e = .returned (.bool (allWideB xs)) ∧ w = w' := by
  subst hn
  go_enter Try.func35, Try.ntmps35
  go_wp2
  go_loop [4, 7] (fun _ i => ∃ k : Nat, k ≤ xs.length ∧ i = .int .i64 k ∧ ∀ j, j < k → wideB (ix xs j) = true) (fun _ i => xs.length - (intOf i).toNat)
  case atStart => exact ⟨0, Nat.zero_le _, rfl, fun j h => absurd h (by omega)⟩
  case round =>
    obtain ⟨k, hk, rfl, hj⟩ := hrel
    have Hj := Lib.hid hj
    clear hj
    by_cases hlt : k < xs.length
    · obtain ⟨b1, o1, rfl, hc1⟩ := ha.at_ hlt
      by_cases hw1 : ix xs k < -1073741824
      · have hn : Hid (wideB (ix xs k) = false) := by show _ = _; simp [wideB]; omega
        go_wp2
        go_ret
        exact ⟨ret_bool (allWideB_false hlt hn.out).symm, rfl⟩
      · by_cases hw2 : 1073741824 ≤ ix xs k
        · have hn : Hid (wideB (ix xs k) = false) := by show _ = _; simp [wideB]; omega
          go_wp2
          go_ret
          exact ⟨ret_bool (allWideB_false hlt hn.out).symm, rfl⟩
        · have hn : Hid (wideB (ix xs k) = true) := by show _ = _; simp [wideB]; omega
          go_wp2
          go_round
          case rel =>
            refine ⟨k + 1, by omega, by go_num, fun j h => ?_⟩
            by_cases e : j = k
            · subst e; exact hn.out
            · exact Hj.out j (by omega)
          case measure => simp [intOf]; omega
    · go_wp2
      go_ret
      exact ⟨ret_bool (allWideB_true.2 fun j hj => Hj.out j (by omega)).symm, rfl⟩

def PairQ (B : Nat) (r : List Int × Int) (w : World) (e : Ending) (w' : World) : Prop :=
  ∃ A c, e = .returned (.tuple #[.slice A r.1.length c, .int .i64 r.2]) ∧ w'.ownsRow B 3 1 (.slice A r.1.length c) r.1.length (r.1.map (.int .i64)) ∧ Below w.heap.size w w'
theorem pair_err {B : Nat} {x : Int} {w w' : World} (hb : Below w.heap.size w w') : PairQ B ([], x) w (.returned (.tuple #[.slice none 0 0, .int .i64 x])) w' := ⟨none, 0, rfl, World.ownsRow_nil _ _ _ _, hb⟩

theorem fxL_bad (l : List Int) (o : Int) (hm : l.length ≤ 9223372036854775807) (h : okOrder l o = false) (A : Option Addr) (c : Nat) (w : World) :
    Calls Try.prog 23 #[.slice A l.length c, .int .i64 o] w (PairQ w.heap.size (restP l o) w) := by
  rw [restP_bad h]
  have hn : ¬ (0 ≤ o ∧ o ≤ 4 ∧ o ≤ l.length) := by rw [← okOrder_true, h]; simp
  by_cases h1 : o < 0
  · clear hn
    go_enter Try.func23, Try.ntmps23
    go_wp2_with fail
    go_ret2
    exact pair_err (brefl w)
  · by_cases h2 : 4 < o
    · clear hn
      go_enter Try.func23, Try.ntmps23
      go_wp2_with fail
      go_ret2
      exact pair_err (brefl w)
    · have h3 : (l.length : Int) < o := by omega
      clear hn
      go_enter Try.func23, Try.ntmps23
      go_wp2_with fail
      go_ret2
      exact pair_err (brefl w)

set_option maxHeartbeats 1000000 in
theorem fxL_ok (l : List Int) (o : Nat) (ho : o ≤ 4) (hol : o ≤ l.length) (hm : l.length ≤ 17592186044415) (A : Option Addr) (c : Nat) (w : World) (ha : Ints .i64 w w.heap.size A l) :
    Calls Try.prog 23 #[.slice A l.length c, .int .i64 (o : Int)] w (PairQ w.heap.size (restP l o) w) := by
  have hok := Lib.hid (okOrder_true (l := l) (o := (o : Int)) |>.2 ⟨by omega, by omega, by omega⟩)
  have e1 : (0 : Int) ≤ (o : Int) := by omega
  have e2 : (o : Int) ≤ 4 := by omega
  have e3 : (o : Int) ≤ (l.length : Int) := by omega
  cases hw : allWideB l with
  | false =>
    have Hw := Lib.hid hw
    clear hw
    go_enter Try.func23, Try.ntmps23
    go_wp2_with fail
    (with_reducible refine (fwide_any l _ rfl (by omega) _ _ _ _ ha).mono ?_); rintro e w' ⟨rfl, rfl⟩
    rw [Hw.out]
    go_wp2_with fail
    go_ret2
    rw [restP_far hok.out Hw.out]
    exact pair_err (brefl w)
  | true =>
    have Hw := Lib.hid hw
    clear hw
    obtain ⟨i0, hi0, hz0, hz1, hz2⟩ := info_parts int_info
    go_enter Try.func23, Try.ntmps23
    go_wp2_with fail
    (with_reducible refine (fwide_any l _ rfl (by omega) _ _ _ _ ha).mono ?_); rintro e w' ⟨rfl, rfl⟩
    rw [Hw.out]
    go_wp2_with (at_builtin; refine wpList_app _ rfl (.const (.slice none 0 0)) (.tmp 23) 22 rfl w.heap.size 3 i0 _ 1 8 Try.underlying22 hi0 hz0 hz1 hz2 rfl (by omega) (.slice none 0 0) 0 [] rfl (World.ownsRow_nil _ _ _ _) w.heap.size A l.length c (l.map (Value.int .i64)) rfl (by simp) ha (oneCell_ints _ _) (by simp only [maxLen]; omega) (by omega) (Nat.le_refl _) ?_; intro A1 k1 w1 ho1 hg1 hat1)
    have hb1 : Hid (Below w.heap.size w w1) := below_app (brefl w) (World.ownsRow_nil w w.heap.size 3 1) hg1 (Nat.le_refl _)
    rw [Nat.zero_add, List.nil_append] at ho1
    have ho1 := Lib.hid ho1
    clear hg1 hat1
    go_loopw [6, 7, 26] (fun ov _ jv wr => (∃ (j m : Nat) (A : Option Addr) (c : Nat), j ≤ o ∧ m + j = l.length ∧ jv = .int .i64 j ∧ ov = .slice A m c ∧ wr.ownsRow w.heap.size 3 1 (.slice A m c) m ((diffN l j).map (.int .i64))) ∧ Below w.heap.size w wr) (fun _ _ jv _ => o - (intOf jv).toNat)
    case atStart => exact ⟨⟨0, l.length, A1, k1, Nat.zero_le _, rfl, rfl, rfl, ho1.out⟩, hb1.out⟩
    case round =>
      obtain ⟨⟨j, m, A2, c2, hj, hmj, rfl, rfl, ho2⟩, hbl⟩ := hrel
      obtain ⟨wo, rfl⟩ : ∃ wo : World, wo = wr := ⟨_, rfl⟩
      have hml := own_len ho2
      obtain ⟨xs, hxs⟩ : ∃ xs, xs = diffN l j := ⟨_, rfl⟩
      rw [← hxs] at ho2 hml
      have Hxs := Lib.hid hxs
      clear hxs
      obtain ⟨hcap1, hcap2⟩ := own_cap ho2
      by_cases hlt : j < o
      · have hm1 : 1 ≤ m := by omega
        go_wp2_with fail
        go_loopw [7] (fun iv wi => (∃ i : Nat, i + 1 ≤ m ∧ iv = .int .i64 i ∧ wi.ownsRow w.heap.size 3 1 (.slice A2 m c2) m ((inTo xs i).map (.int .i64))) ∧ Below w.heap.size w wi) (fun iv _ => m - (intOf iv).toNat)
        case atStart => exact ⟨⟨0, by omega, rfl, by rw [inTo_zero]; exact ho2⟩, hbl⟩
        case round =>
          obtain ⟨⟨i, hi, rfl, ho3⟩, hbi⟩ := hrel
          clear ho2 hbl
          by_cases hlt2 : i + 1 < m
          · obtain ⟨g, rfl, hBg, hgs⟩ := own_addr ho3 (by omega)
            have d1 := own_cell ho3 (i := i) (by omega)
            rw [inTo_ix (by omega), if_neg (by omega)] at d1
            have d2 := own_cell ho3 (i := i + 1) hlt2
            rw [inTo_ix (by omega), if_neg (by omega)] at d2
            have d3 := World.ownsRow.frozenAt ho3 i
            have hset := Lib.hid (inTo_set (l := xs) (k := i) (by omega))
            have hO := Lib.hid ho3
            have hI2 : ((i : Int) + 1 < (m : Int)) := by omega
            go_wp2_with fail
            have t1 := IntWalk.i64_in ((i : Int) + 1) (by omega)
            have t2 : (0 : Int) ≤ (i : Int) + 1 := by omega
            have t3 : ((i : Int) + 1).toNat = i + 1 := by omega
            have t4 : (i : Int) < (m : Int) := by omega
            have t5 : (i : Int).toNat = i := by omega
            go_still_tail 13, (by kernel_rfl)
            go_wp2_with fail
            go_roundw
            case rel =>
              refine ⟨⟨i + 1, by omega, by go_num, ?_⟩, (hbi.setCell (p := ⟨g, i, none⟩) hBg _).drew⟩
              rw [← hset.out]
              exact own_set hO.out i _
            case measure => simp [intOf]; omega
          · have e : i = m - 1 := by omega
            subst e
            have hd := Lib.hid (inTo_done xs)
            have hc := own_cut ho3 (m := m - 1) (by omega)
            have hI3 : (m : Int) ≤ ((m - 1 : Nat) : Int) + 1 := by omega
            have he : Hid ((inTo xs (m - 1)).take (m - 1) = diffN l (j + 1)) := by
              have := hd.out
              rw [hml] at this
              show _ = _
              rw [this, Hxs.out]; rfl
            rw [← List.map_take, he.out] at hc
            have hC := Lib.hid hc
            clear hc
            go_wp2_with fail
            go_roundw
            case rel => exact ⟨⟨j + 1, m - 1, A2, c2, by omega, by omega, by go_num, rfl, hC.out⟩, hbi⟩
            case measure => simp [intOf]; omega
      · have e : j = o := by omega
        subst e
        go_wp2_with fail
        (with_reducible refine (fwide_any xs _ (by omega) (by omega) _ _ _ _ (own_ints ho2)).mono ?_); rintro e w' ⟨rfl, rfl⟩
        cases hq : allWideB xs with
        | true =>
          have Hq := Lib.hid hq
          clear hq
          go_wp2_with fail
          go_ret2
          rw [restP_ok hok.out Hw.out (by rw [Int.toNat_natCast, ← Hxs.out]; exact Hq.out), Int.toNat_natCast, ← Hxs.out]
          subst hml
          exact ⟨A2, c2, rfl, ho2, hbl⟩
        | false =>
          have Hq := Lib.hid hq
          clear hq
          go_wp2_with fail
          go_ret2
          rw [restP_out hok.out Hw.out (by rw [Int.toNat_natCast, ← Hxs.out]; exact Hq.out)]
          exact pair_err hbl
end Go.Proofs.Ytmbebcgicddbnaa
