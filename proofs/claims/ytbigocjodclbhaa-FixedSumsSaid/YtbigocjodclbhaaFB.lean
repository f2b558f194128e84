/-
  The reference's FixedRest.
-/
import Derived.Test.YtbigocjodclbhaaProg
import Derived.Test.YtbigocjodclbhaaFA
namespace Go.Proofs.Ytbigocjodclbhaa
open Go.RowKit

theorem restL_any (l : List Int) (o : Int) (hm : l.length ≤ 17592186044415) (A : Option Addr) (c : Nat) (w : World) (ha : Ints .i64 w w.heap.size A l) :
    Calls Try.prog 11 #[.slice A l.length c, .int .i64 o] w (PairQ w.heap.size (restP l o) w) := by
  cases h : okOrder l o with
  | false => exact restL_bad l o (by omega) h A c w
  | true =>
    obtain ⟨h1, h2, h3⟩ := okOrder_true.1 h
    obtain ⟨n, rfl⟩ : ∃ n : Nat, o = (n : Int) := ⟨o.toNat, by omega⟩
    exact restL_ok l n (by omega) (by omega) hm A c w ha

theorem restR_bad (l : List Int) (o : Int) (hm : l.length ≤ 9223372036854775807) (h : okOrder l o = false) (A : Option Addr) (c : Nat) (w : World) :
    Calls Try.prog 12 #[.slice A l.length c, .int .i64 o] w (PairQ w.heap.size (restP l o) w) := by
  rw [restP_bad h]
  have hn : ¬ (0 ≤ o ∧ o ≤ 4 ∧ o ≤ l.length) := by rw [← okOrder_true, h]; simp
  by_cases h1 : o < 0
  · clear hn
    go_enter Try.func12, Try.ntmps12
    go_wp2_with fail
    go_ret2
    exact pair_err (brefl w)
  · by_cases h2 : 4 < o
    · clear hn
      go_enter Try.func12, Try.ntmps12
      go_wp2_with fail
      go_ret2
      exact pair_err (brefl w)
    · have h3 : (l.length : Int) < o := by omega
      clear hn
      go_enter Try.func12, Try.ntmps12
      go_wp2_with fail
      go_ret2
      exact pair_err (brefl w)

theorem rdiff_take_succ {l : List Int} {k : Nat} (h : k + 1 < l.length) : (rdiff l).take (k + 1) = (rdiff l).take k ++ [wrap64 (ix l (k + 1) - ix l k)] := by
  rw [take_succ_ix (by rw [rdiff_len]; omega), rdiff_ix (by omega)]

set_option maxHeartbeats 1000000 in
theorem restR_ok (l : List Int) (o : Nat) (ho : o ≤ 4) (hol : o ≤ l.length) (hm : l.length ≤ 17592186044415) (A : Option Addr) (c : Nat) (w : World) (ha : Ints .i64 w w.heap.size A l) :
    Calls Try.prog 12 #[.slice A l.length c, .int .i64 (o : Int)] w (PairQ w.heap.size (restP l o) w) := by
  have hok := Lib.hid (okOrder_true (l := l) (o := (o : Int)) |>.2 ⟨by omega, by omega, by omega⟩)
  have e1 : (0 : Int) ≤ (o : Int) := by omega
  have e2 : (o : Int) ≤ 4 := by omega
  have e3 : (o : Int) ≤ (l.length : Int) := by omega
  obtain ⟨i0, hi0, hz0, hz1, hz2⟩ := info_parts int_info
  go_enter Try.func12, Try.ntmps12
  go_wp2_with (at_builtin; refine wpList_app _ rfl (.tmp 22) (.tmp 23) 22 rfl w.heap.size 3 i0 _ 1 8 Try.underlying22 hi0 hz0 hz1 hz2 rfl (by omega) (.slice (some ⟨w.heap.size, 0, none⟩) 0 0) 0 [] rfl (own_empty w _ _) w.heap.size A l.length c (l.map (Value.int .i64)) rfl (by simp) (ha.below (bal (brefl w) _)) (oneCell_ints _ _) (by simp only [maxLen]; omega) (by omega) (by simp) ?_; intro A1 k1 w1 ho1 hg1 hat1)
  have hb1 : Hid (Below w.heap.size w w1) := below_app (bal (brefl w) _) (own_empty w 3 1) hg1 (by simp)
  rw [Nat.zero_add, List.nil_append] at ho1
  have ho1' := Lib.hid ho1
  clear hg1 hat1 ho1
  go_loopg [6, 7, 8, 9] o (fun gh ov jv _ _ wr => (∃ (j m : Nat) (A : Option Addr) (c : Nat), j + gh = o ∧ m + j = l.length ∧ jv = .int .i64 j ∧ ov = .slice A m c ∧ wr.ownsRow w.heap.size 3 1 (.slice A m c) m ((diffN l j).map (.int .i64))) ∧ Below w.heap.size w wr)
  case atStart => exact ⟨⟨0, l.length, A1, k1, by omega, rfl, rfl, rfl, ho1'.out⟩, hb1.out⟩
  case round =>
    obtain ⟨⟨j, m, A2, c2, hj, hmj, rfl, rfl, ho2⟩, hbl⟩ := hrel
    obtain ⟨wo, rfl⟩ : ∃ wo : World, wo = wr := ⟨_, rfl⟩
    have hml := own_len ho2
    obtain ⟨xs, hxs⟩ : ∃ xs, xs = diffN l j := ⟨_, rfl⟩
    rw [← hxs] at ho2 hml
    have Hxs := Lib.hid hxs
    clear hxs
    obtain ⟨hcap1, hcap2⟩ := own_cap ho2
    by_cases hlt : j < o
    · have hm1 : 1 ≤ m := by omega
      go_wp2_with fail
      have hb2 : Hid (Below w.heap.size w wo) := hbl
      have ho2' := Lib.hid ho2
      go_loopg [8, 9] (m - 1) (fun gi nv kv wi => (∃ (k : Nat) (A : Option Addr) (c : Nat), k + gi = m - 1 ∧ kv = .int .i64 ((k : Int) + 1) ∧ nv = .slice A k c ∧ wi.ownsRow wo.heap.size 3 1 (.slice A k c) k (((rdiff xs).take k).map (.int .i64))) ∧ Below wo.heap.size wo wi)
      case atStart => exact ⟨⟨0, none, 0, by omega, rfl, rfl, by simp [World.ownsRow_nil]⟩, brefl wo⟩
      case round =>
        obtain ⟨⟨k, A3, c3, hk, rfl, rfl, ho3⟩, hbi⟩ := hrel
        have hbi' : Hid (Below wo.heap.size wo wr) := hbi
        obtain ⟨g, rfl, hBg, hgs⟩ := own_addr ho2 (by omega)
        by_cases hlt2 : k + 1 < m
        · have d1' := Lib.hid (own_cell ho2 (i := k) (by omega))
          have d2' := Lib.hid (own_cell ho2 (i := k + 1) hlt2)
          have d1 := later hbi d1'.out
          have d2 := later hbi d2'.out
          have hO := Lib.hid ho3
          clear ho2 ho3 hbl
          have hI2 : ((k : Int) + 1 < (m : Int)) := by omega
          have t1 := IntWalk.i64_in (k : Int) (by omega)
          have t2 : (0 : Int) ≤ (k : Int) + 1 := by omega
          have t3 : ((k : Int) + 1).toNat = k + 1 := by omega
          have t4 : (k : Int) < (m : Int) := by omega
          go_upto_block 3 with fail
          go_cut [8] (fun s8 wx => (∃ (A : Option Addr) (c : Nat), s8 = .slice A (k + 1) c ∧ wx.ownsRow wo.heap.size 3 1 (.slice A (k + 1) c) (k + 1) (((rdiff xs).take (k + 1)).map (.int .i64))) ∧ Below wo.heap.size wo wx)
          case first =>
            go_wp2_with fail
            go_region_held3 (fun w' => w'.cell? ⟨g, k, none⟩ = some (.int .i64 (ix xs k)) ∧ w'.cell? ⟨g, k + 1, none⟩ = some (.int .i64 (ix xs (k + 1)))) (first | (go_keep; done) | exact ⟨later hb4 d1'.out, later hb4 d2'.out⟩)
              (first | (refine step_app _ rfl (.tmp 36) (.tmp 47) 22 rfl wo.heap.size 3 i0 _ 1 8 Try.underlying22 hi0 hz0 hz1 hz2 rfl (by omega) (.slice A3 k c3) k _ rfl (hO.out.alloc _) _ _ 1 1 _ rfl rfl (rd_new1d _ _ _) (by simp [Value.oneCell']) (by simp only [maxLen]; omega) (by omega) (by have := hbi'.out.size; simp; omega) ?_; intro A4 k4 w4 ho4 hg4 hat4; have hb4 := below_app ((bal hbi'.out _).drew) (World.ownsRow.drew (hO.out.alloc _)) hg4 (by have := hbi'.out.size; simp; omega)))
            all_goals go_wp2_with fail
            all_goals go_meet
            refine ⟨⟨A4, k4, rfl, ?_⟩, hb4⟩
            rw [rdiff_take_succ (by omega), List.map_append, ← IntWalk.i64_left]
            exact ho4
          case rest =>
            obtain ⟨⟨A4, k4, rfl, ho4⟩, hb4⟩ := hcut
            go_wp2_with fail
            go_roundg (m - 1 - (k + 1))
            case measure => omega
            case rel => exact ⟨⟨k + 1, A4, k4, by omega, by go_num, rfl, ho4⟩, hb4⟩
        · have e : k = m - 1 := by omega
          subst e
          have hI3 : (m : Int) ≤ ((m - 1 : Nat) : Int) + 1 := by omega
          have he : Hid ((rdiff xs).take (m - 1) = diffN l (j + 1)) := by
            show _ = _
            rw [List.take_of_length_le (by rw [rdiff_len]; omega), Hxs.out]; rfl
          rw [he.out] at ho3
          have hO := Lib.hid (own_base ho3 hb2.out.size)
          clear ho3 ho2 hbl
          go_wp2_with fail
          go_roundg (o - (j + 1))
          case measure => omega
          case rel => exact ⟨⟨j + 1, m - 1, A3, c3, by omega, by omega, by go_num, rfl, hO.out⟩, bth hb2.out hbi'.out⟩
    · have e : j = o := by omega
      subst e
      go_wp2_with fail
      (with_reducible refine (allWide2_any l _ rfl (by omega) _ _ _ _ (ha.below hbl)).mono ?_); rintro e w' ⟨rfl, rfl⟩
      cases hw : allWideB l with
      | false =>
        have Hw := Lib.hid hw
        clear hw
        go_wp2_with fail
        go_ret2
        rw [restP_far hok.out Hw.out]
        exact pair_err hbl
      | true =>
        have Hw := Lib.hid hw
        clear hw
        go_wp2_with fail
        (with_reducible refine (allWide2_any xs _ (by omega) (by omega) _ _ _ _ (own_ints ho2)).mono ?_); rintro e w' ⟨rfl, rfl⟩
        cases hq : allWideB xs with
        | true =>
          have Hq := Lib.hid hq
          clear hq
          go_wp2_with fail
          go_ret2
          rw [restP_ok hok.out Hw.out (by rw [Int.toNat_natCast, ← Hxs.out]; exact Hq.out), Int.toNat_natCast, ← Hxs.out]
          subst hml
          exact ⟨A2, c2, rfl, ho2, hbl⟩
        | false =>
          have Hq := Lib.hid hq
          clear hq
          go_wp2_with fail
          go_ret2
          rw [restP_out hok.out Hw.out (by rw [Int.toNat_natCast, ← Hxs.out]; exact Hq.out)]
          exact pair_err hbl

theorem restR_any (l : List Int) (o : Int) (hm : l.length ≤ 17592186044415) (A : Option Addr) (c : Nat) (w : World) (ha : Ints .i64 w w.heap.size A l) :
    Calls Try.prog 12 #[.slice A l.length c, .int .i64 o] w (PairQ w.heap.size (restP l o) w) := by
  cases h : okOrder l o with
  | false => exact restR_bad l o (by omega) h A c w
  | true =>
    obtain ⟨h1, h2, h3⟩ := okOrder_true.1 h
    obtain ⟨n, rfl⟩ : ∃ n : Nat, o = (n : Int) := ⟨o.toNat, by omega⟩
    exact restR_ok l n (by omega) (by omega) hm A c w ha
end Go.Proofs.Ytbigocjodclbhaa
