/-
  The reference's LinearRound.
-/
import Derived.Test.YtmbebcgicddbnaaProg
import Derived.Test.YtmbebcgicddbnaaND
namespace Go.Proofs.Ytmbebcgicddbnaa
open Go.RowKit

set_option maxHeartbeats 1000000 in
theorem roundR_any (cs : List Int) (n : Nat) (hn : n = cs.length) (hn1 : n ≤ 60000) (b : Int) (A : Option Addr) (c : Nat) (w : World) (ha : Ints .i64 w w.heap.size A cs) :
    Calls Try.prog 19 #[.slice A n c, .int .i64 b] w (Ints3Q (roundP cs b) w) := by
  have Hn := Lib.hid hn
  by_cases h1 : n < 1
  · have hI : (n : Int) < 1 := by omega
    have hr := Lib.hid (roundP_bad (okRound_no (cs := cs) (b := b) (by omega)))
    clear h1 hn
    go_enter Try.func19, Try.ntmps19
    go_wp2_with fail
    go_ret3
    rw [hr.out]
    exact ints3_none (brefl w)
  have i1 : (1 : Int) ≤ (n : Int) := by omega
  by_cases h2 : 32 < n
  · have hI : (32 : Int) < (n : Int) := by omega
    have hr := Lib.hid (roundP_bad (okRound_no (cs := cs) (b := b) (by omega)))
    clear h1 hn h2
    go_enter Try.func19, Try.ntmps19
    go_wp2_with fail
    go_ret3
    rw [hr.out]
    exact ints3_none (brefl w)
  have i2 : (n : Int) ≤ 32 := by omega
  by_cases h3 : b < 2
  · have hr := Lib.hid (roundP_bad (okRound_no (cs := cs) (b := b) (by omega)))
    clear h1 hn h2
    go_enter Try.func19, Try.ntmps19
    go_wp2_with fail
    go_ret3
    rw [hr.out]
    exact ints3_none (brefl w)
  by_cases h4 : 16 < b
  · have hr := Lib.hid (roundP_bad (okRound_no (cs := cs) (b := b) (by omega)))
    clear h1 hn h2
    go_enter Try.func19, Try.ntmps19
    go_wp2_with fail
    go_ret3
    rw [hr.out]
    exact ints3_none (brefl w)
  have Hno : Hid (∀ k, k < n → bigB (ix cs k) = false → roundP cs b = ([], 0, 1)) := fun k hk h => roundP_bad (okRound_no fun h' => by rw [allBigB_true.1 h'.2.2.2.2 k (by omega)] at h; cases h)
  have n32 : n ≤ 32 := by omega
  have Hyes : Hid (allBigB cs = true → okRound cs b = true) := fun h => okRound_true.2 ⟨by omega, by omega, by omega, by omega, h⟩
  clear h1 h2 hn
  go_enter Try.func19, Try.ntmps19
  go_wp2_with fail
  go_loop [7] (fun i => ∃ k : Nat, k ≤ n ∧ i = .int .i64 k ∧ ∀ j, j < k → bigB (ix cs j) = true) (fun i => n - (intOf i).toNat)
  case atStart => exact ⟨0, Nat.zero_le _, rfl, fun j h => absurd h (by omega)⟩
  case round =>
    obtain ⟨k, hk, rfl, hj⟩ := hrel
    have Hj := Lib.hid hj
    clear hj
    by_cases hlt : k < n
    · obtain ⟨b1, o1, rfl, hc1⟩ := ha.at_ (i := k) (by rw [← Hn.out]; exact hlt)
      by_cases hw1 : ix cs k < -35184372088832
      · have hn : Hid (bigB (ix cs k) = false) := by show _ = _; simp [bigB]; omega
        go_wp2_with fail
        go_ret3
        rw [Hno.out k hlt hn.out]
        exact ints3_none (brefl w)
      · by_cases hw2 : 35184372088832 < ix cs k
        · have hn : Hid (bigB (ix cs k) = false) := by show _ = _; simp [bigB]; omega
          go_wp2_with fail
          go_ret3
          rw [Hno.out k hlt hn.out]
          exact ints3_none (brefl w)
        · have hn : Hid (bigB (ix cs k) = true) := by show _ = _; simp [bigB]; omega
          go_wp2_with fail
          go_round
          case rel =>
            refine ⟨k + 1, by omega, by go_num, fun j h => ?_⟩
            by_cases e : j = k
            · subst e; exact hn.out
            · exact Hj.out j (by omega)
          case measure => simp [intOf]; omega
    · have hall : Hid (allBigB cs = true) := allBigB_true.2 fun j hj => Hj.out j (by have := Hn.out; omega)
      have hok := Lib.hid (Hyes.out hall.out)
      go_wp2_with fail
      go_loopw [8, 9, 10, 11, 12, 13] (fun sv _ _ _ _ _ wr => (∃ s : Nat, s ≤ 15 ∧ sv = .int .i64 s ∧ findS cs b s (15 - s) = findS cs b 0 15) ∧ Below w.heap.size w wr) (fun sv _ _ _ _ _ _ => 15 - (intOf sv).toNat)
      case atStart => exact ⟨⟨0, Nat.zero_le _, rfl, rfl⟩, brefl w⟩
      case round =>
        obtain ⟨⟨s, hs, rfl, hfs⟩, hbl⟩ := hrel
        obtain ⟨wo, rfl⟩ : ∃ wo : World, wo = wr := ⟨_, rfl⟩
        have hb' := Lib.hid hbl
        have Hfs := Lib.hid hfs
        clear hbl hfs
        by_cases hlt : s ≤ 14
        · have sI : (s : Int) ≤ 14 := by omega
          go_upto_if 53 with fail
          go_cut [9, 54, 55, 56, 57] (fun s9 _ _ _ _ wx => s9 = .int .i64 (halfN s) ∧ wo = wx)
          case first =>
            by_cases h0 : s = 0
            · subst h0
              go_wp2_with fail
              go_meet
              exact ⟨rfl, rfl⟩
            · obtain ⟨t, ht⟩ : ∃ t : Nat, s = t + 1 := ⟨s - 1, by omega⟩
              have e1 : (s : Int) - 1 = (t : Int) := by omega
              have s1 : (0 : Int) < (s : Int) := by omega
              have tI : (t : Int) ≤ 13 := by omega
              have hp := p30 (k := t) (by omega)
              have hu : IntKind.u64.wrap (t : Int) = (t : Int) := by rw [IntKind.wrap_u64]; omega
              have Ht := Lib.hid ht
              clear ht h0
              go_wp2_with fail
              go_meet
              exact ⟨by rw [Ht.out]; rfl, rfl⟩
          case rest =>
            obtain ⟨rfl, rfl⟩ := hcut
            obtain ⟨hh1, hh2⟩ := half_b hlt
            obtain ⟨hv, hhv⟩ : ∃ hv, hv = halfN s := ⟨_, rfl⟩
            have Hhv := Lib.hid hhv
            rw [← hhv] at hh1 hh2 ⊢
            obtain ⟨ys, hys⟩ : ∃ ys, ys = roundAt cs s := ⟨_, rfl⟩
            have Hys := Lib.hid hys
            have hyl : Hid (ys.length = n) := by show _ = _; rw [hys, roundAt_len, Hn.out]
            clear hhv hys
            go_wp2_with fail
            go_loopw [10, 11, 12, 13] (fun ov okv iv _ wr => (∃ (k : Nat) (ok : Bool) (A' : Option Addr) (c' : Nat), k ≤ n ∧ iv = .int .i64 k ∧ okv = .bool ok ∧ ov = .slice A' k c' ∧ OwnZ wr w.heap.size A' k c' (ys.take k) ∧ (ok = true → ∀ j, j < k → fitsB (ix ys j) b = true) ∧ (ok = false → fitAll ys b = false)) ∧ Below w.heap.size w wr) (fun _ _ iv _ _ => n - (intOf iv).toNat)
            case atStart => exact ⟨⟨0, true, _, _, Nat.zero_le _, rfl, rfl, rfl, by simpa using OwnZ.nil _ _, fun _ j h => absurd h (by omega), fun h => by cases h⟩, hb'.out⟩
            case round =>
              obtain ⟨⟨k, ok, A2, c2, hk, rfl, rfl, rfl, ho, hj, hj2⟩, hbl⟩ := hrel
              obtain ⟨wi, rfl⟩ : ∃ wi : World, wi = wr := ⟨_, rfl⟩
              have ho' := Lib.hid ho
              have hbi := Lib.hid hbl
              have Hj := Lib.hid hj
              have Hj2 := Lib.hid hj2
              clear ho hbl hj hj2
              by_cases hlt2 : k < n
              · obtain ⟨b1, o1, rfl, hc1⟩ := (ha.below hbi.out).at_ (i := k) (by rw [← Hn.out]; exact hlt2)
                obtain ⟨hc2, hc3⟩ := bigB_true.1 (allBigB_true.1 hall.out k (by rw [← Hn.out]; exact hlt2))
                obtain ⟨x, hx⟩ : ∃ x, x = ix ys k := ⟨_, rfl⟩
                have Hx := Lib.hid hx
                have hxe : Hid ((ix cs k + hv) / 2 ^ s = x) := by show _ = _; rw [hx, Hys.out, roundAt_ix (by rw [← Hn.out]; exact hlt2), Hhv.out]
                have hts : Hid (ys.take (k + 1) = ys.take k ++ [x]) := by show _ = _; rw [hx]; exact take_succ_ix (by rw [hyl.out]; exact hlt2)
                have hu : IntKind.u64.wrap (s : Int) = (s : Int) := by rw [IntKind.wrap_u64]; omega
                have hxe2 := hxe.out
                clear hx
                cases ok with
                | true =>
                  go_wp2_with (first | (at_builtin; refine app_z _ rfl (.tmp 73) (.tmp 75) rfl w _ _ _ _ rfl (ho'.out.alloc _) _ _ 1 1 [x] rfl rfl (rd_new1 _ _ _) (by omega) (bal hbi.out _) ?_; intro A4 c4 w4 ho4 hb4) | ((with_reducible refine (fitsR_any _ _ _).mono ?_); rintro e w' ⟨rfl, rfl⟩))
                  have ho4' := Lib.hid ho4
                  have hb4' := Lib.hid hb4
                  clear ho4 hb4
                  go_roundw
                  case rel =>
                    refine ⟨⟨k + 1, _, A4, c4, by omega, by go_num, rfl, rfl, ?_, fun h i hi => ?_, fun h => ?_⟩, hb4'.out⟩
                    · rw [hts.out]; exact ho4'.out
                    · by_cases e : i = k
                      · subst e; rw [← Hx.out]; exact h
                      · exact Hj.out (by first | rfl | trivial) i (by omega)
                    · exact fitAll_false (by rw [hyl.out]; exact hlt2) (by rw [← Hx.out]; exact h)
                  case measure => simp [intOf]; omega
                | false =>
                  go_wp2_with (first | (at_builtin; refine app_z _ rfl (.tmp 73) (.tmp 75) rfl w _ _ _ _ rfl (ho'.out.alloc _) _ _ 1 1 [x] rfl rfl (rd_new1 _ _ _) (by omega) (bal hbi.out _) ?_; intro A4 c4 w4 ho4 hb4) | ((with_reducible refine (fitsR_any _ _ _).mono ?_); rintro e w' ⟨rfl, rfl⟩))
                  have ho4' := Lib.hid ho4
                  have hb4' := Lib.hid hb4
                  clear ho4 hb4
                  go_roundw
                  case rel =>
                    refine ⟨⟨k + 1, false, A4, c4, by omega, by go_num, rfl, rfl, ?_, (fun h => by cases h), fun _ => Hj2.out (by first | rfl | trivial)⟩, hb4'.out⟩
                    rw [hts.out]; exact ho4'.out
                  case measure => simp [intOf]; omega
              · have e : k = n := by omega
                subst e
                cases ok with
                | true =>
                  have hfit : Hid (fitAll (roundAt cs s) b = true) := fitAll_true.2 fun j hj => by rw [← Hys.out] at hj ⊢; exact Hj.out (by first | rfl | trivial) j (by rw [← hyl.out]; exact hj)
                  have hL : Hid (ys.take k = ys) := by show _ = _; rw [← hyl.out, List.take_length]
                  have hr : Hid (roundP cs b = (ys, 14 - (s : Int), 0)) := by
                    show _ = _
                    rw [Hys.out]
                    refine roundP_some hok.out ?_
                    rw [← Hfs.out, show 15 - s = (14 - s) + 1 by omega, findS_yes hfit.out]
                  go_wp2_with fail
                  go_ret3
                  rw [hr.out]
                  exact ints3_of (by have := ho'.out; rw [hL.out] at this; exact this) hbi.out
                | false =>
                  have hno : Hid (fitAll (roundAt cs s) b = false) := by show _ = _; rw [← Hys.out]; exact Hj2.out (by first | rfl | trivial)
                  go_wp2_with fail
                  go_roundw
                  case rel =>
                    refine ⟨⟨s + 1, by omega, by go_num, ?_⟩, hbi.out⟩
                    rw [← Hfs.out, show 15 - s = (14 - s) + 1 by omega, findS_no hno.out, show 15 - (s + 1) = 14 - s by omega]
                  case measure => simp [intOf]; omega
        · have e : s = 15 := by omega
          subst e
          have hr : Hid (roundP cs b = ([], 0, 6)) := roundP_none hok.out (by rw [← Hfs.out]; rfl)
          go_wp2_with fail
          go_ret3
          rw [hr.out]
          exact ints3_none hb'.out
end Go.Proofs.Ytmbebcgicddbnaa
