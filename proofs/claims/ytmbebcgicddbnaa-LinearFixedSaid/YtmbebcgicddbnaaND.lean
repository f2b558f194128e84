/-
  linear.Round and the reference's LinearRound.
-/
import Derived.Test.YtmbebcgicddbnaaProg
import Derived.Test.YtmbebcgicddbnaaNC
import Derived.Test.YtmbebcgicddbnaaNQ
namespace Go.Proofs.Ytmbebcgicddbnaa
open Go.RowKit

def Ints3Q (r : List Int × Int × Int) (w : World) (e : Ending) (w' : World) : Prop := ∃ A c, e = .returned (.tuple #[.slice A r.1.length c, .int .i64 r.2.1, .int .i64 r.2.2]) ∧ OwnZ w' w.heap.size A r.1.length c r.1 ∧ Below w.heap.size w w'
theorem ints3_none {x : Int} {w w' : World} (h : Below w.heap.size w w') : Ints3Q ([], 0, x) w (.returned (.tuple #[.slice none 0 0, .int .i64 0, .int .i64 x])) w' := ⟨none, 0, rfl, OwnZ.nil _ _, h⟩
theorem ints3_of {x y : Int} {l : List Int} {n c : Nat} {A : Option Addr} {w w' : World} (ho : OwnZ w' w.heap.size A n c l) (h : Below w.heap.size w w') : Ints3Q (l, x, y) w (.returned (.tuple #[.slice A n c, .int .i64 x, .int .i64 y])) w' := by
  have e := ho.len
  subst e
  exact ⟨A, c, rfl, ho, h⟩
theorem half_succ (t : Nat) : halfN (t + 1) = 2 ^ t := rfl

set_option maxHeartbeats 1000000 in
theorem roundL_any (cs : List Int) (n : Nat) (hn : n = cs.length) (hn1 : n ≤ 60000) (b : Int) (A : Option Addr) (c : Nat) (w : World) (ha : Ints .i64 w w.heap.size A cs) :
    Calls Try.prog 18 #[.slice A n c, .int .i64 b] w (Ints3Q (roundP cs b) w) := by
  have Hn := Lib.hid hn
  by_cases h1 : n < 1
  · have hI : (n : Int) < 1 := by omega
    have hr := Lib.hid (roundP_bad (okRound_no (cs := cs) (b := b) (by omega)))
    clear h1 hn
    go_enter Try.func18, Try.ntmps18
    go_wp2_with fail
    go_ret3
    rw [hr.out]
    exact ints3_none (brefl w)
  have i1 : (1 : Int) ≤ (n : Int) := by omega
  by_cases h2 : 32 < n
  · have hI : (32 : Int) < (n : Int) := by omega
    have hr := Lib.hid (roundP_bad (okRound_no (cs := cs) (b := b) (by omega)))
    clear h1 hn h2
    go_enter Try.func18, Try.ntmps18
    go_wp2_with fail
    go_ret3
    rw [hr.out]
    exact ints3_none (brefl w)
  have i2 : (n : Int) ≤ 32 := by omega
  by_cases h3 : b < 2
  · have hr := Lib.hid (roundP_bad (okRound_no (cs := cs) (b := b) (by omega)))
    clear h1 hn h2
    go_enter Try.func18, Try.ntmps18
    go_wp2_with fail
    go_ret3
    rw [hr.out]
    exact ints3_none (brefl w)
  by_cases h4 : 16 < b
  · have hr := Lib.hid (roundP_bad (okRound_no (cs := cs) (b := b) (by omega)))
    clear h1 hn h2
    go_enter Try.func18, Try.ntmps18
    go_wp2_with fail
    go_ret3
    rw [hr.out]
    exact ints3_none (brefl w)
  have Hno : Hid (∀ k, k < n → bigB (ix cs k) = false → roundP cs b = ([], 0, 1)) := fun k hk h => roundP_bad (okRound_no fun h' => by rw [allBigB_true.1 h'.2.2.2.2 k (by omega)] at h; cases h)
  have n32 : n ≤ 32 := by omega
  have Hyes : Hid (allBigB cs = true → okRound cs b = true) := fun h => okRound_true.2 ⟨by omega, by omega, by omega, by omega, h⟩
  clear h1 h2 hn
  go_enter Try.func18, Try.ntmps18
  go_wp2_with fail
  go_loop [8, 33] (fun _ i => ∃ k : Nat, k ≤ n ∧ i = .int .i64 k ∧ ∀ j, j < k → bigB (ix cs j) = true) (fun _ i => n - (intOf i).toNat)
  case atStart => exact ⟨0, Nat.zero_le _, rfl, fun j h => absurd h (by omega)⟩
  case round =>
    obtain ⟨k, hk, rfl, hj⟩ := hrel
    have Hj := Lib.hid hj
    clear hj
    by_cases hlt : k < n
    · obtain ⟨b1, o1, rfl, hc1⟩ := ha.at_ (i := k) (by rw [← Hn.out]; exact hlt)
      by_cases hw1 : ix cs k < -35184372088832
      · have hn : Hid (bigB (ix cs k) = false) := by show _ = _; simp [bigB]; omega
        go_wp2_with fail
        go_ret3
        rw [Hno.out k hlt hn.out]
        exact ints3_none (brefl w)
      · by_cases hw2 : 35184372088832 < ix cs k
        · have hn : Hid (bigB (ix cs k) = false) := by show _ = _; simp [bigB]; omega
          go_wp2_with fail
          go_ret3
          rw [Hno.out k hlt hn.out]
          exact ints3_none (brefl w)
        · have hn : Hid (bigB (ix cs k) = true) := by show _ = _; simp [bigB]; omega
          go_wp2_with fail
          go_round
          case rel =>
            refine ⟨k + 1, by omega, by go_num, fun j h => ?_⟩
            by_cases e : j = k
            · subst e; exact hn.out
            · exact Hj.out j (by omega)
          case measure => simp [intOf]; omega
    · have hall : Hid (allBigB cs = true) := allBigB_true.2 fun j hj => Hj.out j (by have := Hn.out; omega)
      have hok := Lib.hid (Hyes.out hall.out)
      have hmk := run_mk0 n (by omega)
      go_wp2_with fail
      go_loopw [9, 10, 11, 13, 14, 58] (fun sv _ _ _ _ _ wr => (∃ s : Nat, s ≤ 15 ∧ sv = .int .i64 s ∧ findS cs b s (15 - s) = findS cs b 0 15) ∧ Below w.heap.size w wr) (fun sv _ _ _ _ _ _ => 15 - (intOf sv).toNat)
      case atStart => exact ⟨⟨0, Nat.zero_le _, rfl, rfl⟩, brefl w⟩
      case round =>
        obtain ⟨⟨s, hs, rfl, hfs⟩, hbl⟩ := hrel
        obtain ⟨wo, rfl⟩ : ∃ wo : World, wo = wr := ⟨_, rfl⟩
        have hb' := Lib.hid hbl
        have Hfs := Lib.hid hfs
        clear hbl hfs
        by_cases hlt : s ≤ 14
        · have sI : (s : Int) ≤ 14 := by omega
          go_upto_if 49 with fail
          go_cut [10, 50, 51, 52] (fun s10 _ _ _ wx => s10 = .int .i64 (halfN s) ∧ wo = wx)
          case first =>
            by_cases h0 : s = 0
            · subst h0
              go_wp2_with fail
              go_meet
              exact ⟨rfl, rfl⟩
            · obtain ⟨t, ht⟩ : ∃ t : Nat, s = t + 1 := ⟨s - 1, by omega⟩
              have e1 : (s : Int) - 1 = (t : Int) := by omega
              have s1 : (0 : Int) < (s : Int) := by omega
              have tI : (t : Int) ≤ 13 := by omega
              have hp := p30 (k := t) (by omega)
              have Ht := Lib.hid ht
              clear ht h0
              go_wp2_with fail
              go_meet
              exact ⟨by rw [Ht.out]; rfl, rfl⟩
          case rest =>
            obtain ⟨rfl, rfl⟩ := hcut
            obtain ⟨hh1, hh2⟩ := half_b hlt
            obtain ⟨hv, hhv⟩ : ∃ hv, hv = halfN s := ⟨_, rfl⟩
            have Hhv := Lib.hid hhv
            rw [← hhv] at hh1 hh2 ⊢
            obtain ⟨ys, hys⟩ : ∃ ys, ys = roundAt cs s := ⟨_, rfl⟩
            have Hys := Lib.hid hys
            have hyl : Hid (ys.length = n) := by show _ = _; rw [hys, roundAt_len, Hn.out]
            clear hhv hys
            go_wp2_with fail
            have ho1 := Lib.hid (own_mk0 wo n (by omega))
            have hb1 := Lib.hid (bal hb'.out (zobj n))
            have Hbk := Lib.hid hb'.out.size
            go_loopw [11, 13, 14, 58] (fun ov _ _ iv wr => (∃ (k : Nat) (A' : Option Addr) (c' : Nat), k ≤ n ∧ iv = .int .i64 k ∧ ov = .slice A' k c' ∧ OwnZ wr w.heap.size A' k c' (ys.take k) ∧ ∀ j, j < k → fitsB (ix ys j) b = true) ∧ Below w.heap.size w wr) (fun _ _ _ iv _ => n - (intOf iv).toNat)
            case atStart => exact ⟨⟨0, _, _, Nat.zero_le _, rfl, rfl, ho1.out.base Hbk.out, fun j h => absurd h (by omega)⟩, hb1.out⟩
            case round =>
              obtain ⟨⟨k, A2, c2, hk, rfl, rfl, ho, hj⟩, hbl⟩ := hrel
              obtain ⟨wi, rfl⟩ : ∃ wi : World, wi = wr := ⟨_, rfl⟩
              have ho' := Lib.hid ho
              have hbi := Lib.hid hbl
              have Hj := Lib.hid hj
              clear ho hbl hj
              by_cases hlt2 : k < n
              · obtain ⟨b1, o1, rfl, hc1⟩ := (ha.below hbi.out).at_ (i := k) (by rw [← Hn.out]; exact hlt2)
                obtain ⟨hc2, hc3⟩ := bigB_true.1 (allBigB_true.1 hall.out k (by rw [← Hn.out]; exact hlt2))
                obtain ⟨x, hx⟩ : ∃ x, x = ix ys k := ⟨_, rfl⟩
                have Hx := Lib.hid hx
                have hxe : Hid ((ix cs k + hv) / 2 ^ s = x) := by show _ = _; rw [hx, Hys.out, roundAt_ix (by rw [← Hn.out]; exact hlt2), Hhv.out]
                have hts : Hid (ys.take (k + 1) = ys.take k ++ [x]) := by show _ = _; rw [hx]; exact take_succ_ix (by rw [hyl.out]; exact hlt2)
                clear hx
                go_wp2_with fail
                rw [hxe.out]
                (with_reducible refine (fitsL_any _ _ _).mono ?_); rintro e w' ⟨rfl, rfl⟩
                cases hy : fitsB x b with
                | false =>
                  have hno : Hid (fitAll (roundAt cs s) b = false) := by show _ = _; rw [← Hys.out]; exact fitAll_false (by rw [hyl.out]; exact hlt2) (by rw [← Hx.out]; exact hy)
                  have Hy := Lib.hid hy
                  have hne : ((k : Int) == (n : Int)) = false := by simp; omega
                  clear hy
                  go_wp2_with fail
                  go_roundw
                  case rel =>
                    refine ⟨⟨s + 1, by omega, by go_num, ?_⟩, hbi.out⟩
                    rw [← Hfs.out, show 15 - s = (14 - s) + 1 by omega, findS_no hno.out, show 15 - (s + 1) = 14 - s by omega]
                  case measure => simp [intOf]; omega
                | true =>
                  have Hy := Lib.hid hy
                  clear hy
                  go_wp2_with (at_builtin; refine app_z _ rfl (.tmp 71) (.tmp 73) rfl w _ _ _ _ rfl (ho'.out.alloc _) _ _ 1 1 [x] rfl rfl (rd_new1 _ _ _) (by omega) (bal hbi.out _) ?_; intro A4 c4 w4 ho4 hb4)
                  have ho4' := Lib.hid ho4
                  have hb4' := Lib.hid hb4
                  clear ho4 hb4
                  go_roundw
                  case rel =>
                    refine ⟨⟨k + 1, A4, c4, by omega, by go_num, rfl, ?_, fun i hi => ?_⟩, hb4'.out⟩
                    · rw [hts.out]; exact ho4'.out
                    · by_cases e : i = k
                      · subst e; rw [← Hx.out]; exact Hy.out
                      · exact Hj.out i (by omega)
                  case measure => simp [intOf]; omega
              · have e : k = n := by omega
                subst e
                have hfit : Hid (fitAll (roundAt cs s) b = true) := fitAll_true.2 fun j hj => by rw [← Hys.out] at hj ⊢; exact Hj.out j (by rw [← hyl.out]; exact hj)
                have hL : Hid (ys.take k = ys) := by show _ = _; rw [← hyl.out, List.take_length]
                have hr : Hid (roundP cs b = (ys, 14 - (s : Int), 0)) := by
                  show _ = _
                  rw [Hys.out]
                  refine roundP_some hok.out ?_
                  rw [← Hfs.out, show 15 - s = (14 - s) + 1 by omega, findS_yes hfit.out]
                go_wp2_with fail
                go_ret3
                rw [hr.out]
                exact ints3_of (by have := ho'.out; rw [hL.out] at this; exact this) hbi.out
        · have e : s = 15 := by omega
          subst e
          have hr : Hid (roundP cs b = ([], 0, 6)) := roundP_none hok.out (by rw [← Hfs.out]; rfl)
          go_wp2_with fail
          go_ret3
          rw [hr.out]
          exact ints3_none hb'.out
end Go.Proofs.Ytmbebcgicddbnaa
