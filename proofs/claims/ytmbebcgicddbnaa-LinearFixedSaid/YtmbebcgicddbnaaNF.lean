/-
  linear.Climb and the reference's LinearClimb.
-/
import Derived.Test.YtmbebcgicddbnaaProg
import Derived.Test.YtmbebcgicddbnaaNC
import Derived.Test.YtmbebcgicddbnaaNQ
import Derived.Test.YtmbebcgicddbnaaNS
namespace Go.Proofs.Ytmbebcgicddbnaa
open Go.RowKit

theorem nextTo_step {cs : List Int} {k j n : Nat} {kk : Int} (hn : n = cs.length) (hk : k = n) : nextTo cs kk (j + 1) = nextTo cs kk j ++ [wrap64 (ix cs j - wrap64 (kk * ix cs (k - 1 - j)) / 16384)] := by
  subst hk; subst hn; exact nextTo_succ cs kk j

set_option maxHeartbeats 1000000 in
theorem climbL_any (ks : List Int) (n : Nat) (hn : n = ks.length) (hn1 : n ≤ 60000) (A : Option Addr) (c : Nat) (w : World) (ha : Ints .i64 w w.heap.size A ks) :
    Calls Try.prog 16 #[.slice A n c] w (IntsQ (climbP ks) w) := by
  have Hn := Lib.hid hn
  by_cases h1 : n < 1
  · have hI : (n : Int) < 1 := by omega
    have hr := Lib.hid (climbP_bad (okClimb_no (ks := ks) (by omega)))
    clear h1 hn
    go_enter Try.func16, Try.ntmps16
    go_wp2_with fail
    go_ret2
    rw [hr.out]
    exact ints_none (brefl w)
  have i1 : (1 : Int) ≤ (n : Int) := by omega
  by_cases h2 : 32 < n
  · have hI : (32 : Int) < (n : Int) := by omega
    have hr := Lib.hid (climbP_bad (okClimb_no (ks := ks) (by omega)))
    clear h1 hn h2
    go_enter Try.func16, Try.ntmps16
    go_wp2_with fail
    go_ret2
    rw [hr.out]
    exact ints_none (brefl w)
  have i2 : (n : Int) ≤ 32 := by omega
  have Hno : Hid (∀ k, k < n → kB (ix ks k) = false → climbP ks = ([], 1)) := fun k hk h => climbP_bad (okClimb_no fun h' => by rw [allKB_true.1 h'.2.2 k (by omega)] at h; cases h)
  have n32 : n ≤ 32 := by omega
  have Hyes : Hid (allKB ks = true → okClimb ks = true) := fun h => okClimb_true.2 ⟨by omega, by omega, h⟩
  clear h1 h2 hn
  go_enter Try.func16, Try.ntmps16
  go_wp2_with fail
  go_loop [5, 22] (fun _ i => ∃ k : Nat, k ≤ n ∧ i = .int .i64 k ∧ ∀ j, j < k → kB (ix ks j) = true) (fun _ i => n - (intOf i).toNat)
  case atStart => exact ⟨0, Nat.zero_le _, rfl, fun j h => absurd h (by omega)⟩
  case round =>
    obtain ⟨k, hk, rfl, hj⟩ := hrel
    have Hj := Lib.hid hj
    clear hj
    by_cases hlt : k < n
    · obtain ⟨b1, o1, rfl, hc1⟩ := ha.at_ (i := k) (by rw [← Hn.out]; exact hlt)
      by_cases hw1 : ix ks k < -16383
      · have hn : Hid (kB (ix ks k) = false) := by show _ = _; simp [kB]; omega
        go_wp2_with fail
        go_ret2
        rw [Hno.out k hlt hn.out]
        exact ints_none (brefl w)
      · by_cases hw2 : 16383 < ix ks k
        · have hn : Hid (kB (ix ks k) = false) := by show _ = _; simp [kB]; omega
          go_wp2_with fail
          go_ret2
          rw [Hno.out k hlt hn.out]
          exact ints_none (brefl w)
        · have hn : Hid (kB (ix ks k) = true) := by show _ = _; simp [kB]; omega
          go_wp2_with fail
          go_round
          case rel =>
            refine ⟨k + 1, by omega, by go_num, fun j h => ?_⟩
            by_cases e : j = k
            · subst e; exact hn.out
            · exact Hj.out j (by omega)
          case measure => simp [intOf]; omega
    · have hall : Hid (allKB ks = true) := allKB_true.2 fun j hj => Hj.out j (by have := Hn.out; omega)
      have hok := Lib.hid (Hyes.out hall.out)
      go_wp2_with fail
      have ho0 := Lib.hid (own_emptyZ w)
      have hb0 := Lib.hid (bal (brefl w) (.cells #[] 3))
      go_loopw [6, 7, 8, 9, 10, 11, 36, 46] (fun cv _ _ _ _ _ iv _ wr => (∃ (k : Nat) (A' : Option Addr) (c' : Nat), k ≤ n ∧ iv = .int .i64 k ∧ cv = .slice A' k c' ∧ OwnZ wr w.heap.size A' k c' (climbTo ks k)) ∧ Below w.heap.size w wr) (fun _ _ _ _ _ _ iv _ _ => n - (intOf iv).toNat)
      case atStart => exact ⟨⟨0, _, _, Nat.zero_le _, rfl, rfl, ho0.out⟩, hb0.out⟩
      case round =>
        obtain ⟨⟨k, A2, c2, hk, rfl, rfl, ho⟩, hbl⟩ := hrel
        obtain ⟨wo, rfl⟩ : ∃ wo : World, wo = wr := ⟨_, rfl⟩
        have ho' := Lib.hid ho
        have hb' := Lib.hid hbl
        clear ho hbl
        by_cases hlt2 : k < n
        · obtain ⟨b1, o1, rfl, hc1⟩ := (ha.below hb'.out).at_ (i := k) (by rw [← Hn.out]; exact hlt2)
          obtain ⟨kk, hkk⟩ : ∃ kk, kk = ix ks k := ⟨_, rfl⟩
          have Hkk := Lib.hid hkk
          rw [← hkk] at hc1
          obtain ⟨cs, hcs⟩ : ∃ cs, cs = climbTo ks k := ⟨_, rfl⟩
          have Hcs := Lib.hid hcs
          rw [← hcs] at ho'
          have hcl := Lib.hid ho'.out.len
          have hci := OwnZ.ints ho'.out
          obtain ⟨q, hq⟩ : ∃ q : Nat, q = k + 1 := ⟨_, rfl⟩
          have e1 : (k : Int) + 1 = (q : Int) := by omega
          have hq1 : q ≤ 65536 := by omega
          have hmk := run_mk0 q hq1
          clear hkk hcs hq
          go_wp2_with fail
          have ho1 := Lib.hid (own_mk0 wo q hq1)
          have hb1 := Lib.hid (bal (brefl wo) (zobj q))
          clear hmk e1
          go_loopw [9, 10, 11, 46] (fun nv _ _ iv wr => (∃ (j : Nat) (A' : Option Addr) (c' : Nat), j ≤ k ∧ iv = .int .i64 j ∧ nv = .slice A' j c' ∧ OwnZ wr wo.heap.size A' j c' (nextTo cs kk j)) ∧ Below wo.heap.size wo wr) (fun _ _ _ iv _ => k - (intOf iv).toNat)
          case atStart => exact ⟨⟨0, _, _, Nat.zero_le _, rfl, rfl, ho1.out⟩, hb1.out⟩
          case round =>
            obtain ⟨⟨j, A3, c3, hj, rfl, rfl, ho⟩, hbl⟩ := hrel
            obtain ⟨wi, rfl⟩ : ∃ wi : World, wi = wr := ⟨_, rfl⟩
            have hoi := Lib.hid ho
            have hbi := Lib.hid hbl
            clear ho hbl
            by_cases hlt3 : j < k
            · obtain ⟨b2, o2, rfl, hd1⟩ := (hci.below hbi.out).at_ (i := j) (by rw [hcl.out]; exact hlt3)
              obtain ⟨b3, o3, hbo, hd2⟩ := (hci.below hbi.out).at_ (i := k - 1 - j) (by rw [hcl.out]; omega)
              simp only [Option.some.injEq, Addr.mk.injEq, and_true] at hbo
              obtain ⟨rfl, rfl⟩ := hbo
              have t1 : (k : Int) - 1 - (j : Int) < (k : Int) := by omega
              have t2 : ((k : Int) - 1 - (j : Int)).toNat = k - 1 - j := by omega
              have t3 : (j : Int) ≤ (k : Int) - 1 := by omega
              have hns := Lib.hid (nextTo_step (cs := cs) (kk := kk) (j := j) hcl.out.symm rfl)
              go_wp2_with (at_builtin; refine app_z _ rfl (.tmp 51) (.tmp 64) rfl wo _ _ _ _ rfl (hoi.out.alloc _) _ _ 1 1 [wrap64 (ix cs j - wrap64 (kk * ix cs (k - 1 - j)) / 16384)] rfl rfl (rd_new1 _ _ _) (by omega) (bal hbi.out _) ?_; intro A4 c4 w4 ho4 hb4)
              have ho4' := Lib.hid ho4
              have hb4' := Lib.hid hb4
              clear ho4 hb4
              go_roundw
              case rel => exact ⟨⟨j + 1, A4, c4, by omega, by go_num, rfl, by rw [hns.out]; exact ho4'.out⟩, hb4'.out⟩
              case measure => simp [intOf]; omega
            · have e : j = k := by omega
              subst e
              go_wp2_with (at_builtin; refine app_z _ rfl (.tmp 67) (.tmp 69) rfl wo _ _ _ _ rfl (hoi.out.alloc _) _ _ 1 1 [kk] rfl rfl (rd_new1 _ _ _) (by omega) (bal hbi.out _) ?_; intro A4 c4 w4 ho4 hb4)
              have ho4' := Lib.hid ho4
              have hb4' := Lib.hid hb4
              clear ho4 hb4
              go_roundw
              case rel =>
                refine ⟨⟨j + 1, A4, c4, by omega, by go_num, rfl, ?_⟩, hb'.out.trans (hb4'.out.mono hb'.out.size)⟩
                rw [climbTo_succ (by rw [← Hn.out]; exact hlt2), ← Hcs.out, ← Hkk.out, climbS_next, hcl.out]
                exact ho4'.out.base hb'.out.size
              case measure => simp [intOf]; omega
        · have e : k = n := by omega
          subst e
          have hr : Hid (climbP ks = (climbTo ks k, 0)) := by show _ = _; rw [Hn.out]; exact climbP_ok hok.out
          go_wp2_with fail
          go_ret2
          rw [hr.out]
          exact ints_of ho'.out hb'.out

set_option maxHeartbeats 1000000 in
theorem climbR_any (ks : List Int) (n : Nat) (hn : n = ks.length) (hn1 : n ≤ 60000) (A : Option Addr) (c : Nat) (w : World) (ha : Ints .i64 w w.heap.size A ks) :
    Calls Try.prog 17 #[.slice A n c] w (IntsQ (climbP ks) w) := by
  have Hn := Lib.hid hn
  by_cases h1 : n < 1
  · have hI : (n : Int) < 1 := by omega
    have hr := Lib.hid (climbP_bad (okClimb_no (ks := ks) (by omega)))
    clear h1 hn
    go_enter Try.func17, Try.ntmps17
    go_wp2_with fail
    go_ret2
    rw [hr.out]
    exact ints_none (brefl w)
  have i1 : (1 : Int) ≤ (n : Int) := by omega
  by_cases h2 : 32 < n
  · have hI : (32 : Int) < (n : Int) := by omega
    have hr := Lib.hid (climbP_bad (okClimb_no (ks := ks) (by omega)))
    clear h1 hn h2
    go_enter Try.func17, Try.ntmps17
    go_wp2_with fail
    go_ret2
    rw [hr.out]
    exact ints_none (brefl w)
  have i2 : (n : Int) ≤ 32 := by omega
  have Hno : Hid (∀ k, k < n → kB (ix ks k) = false → climbP ks = ([], 1)) := fun k hk h => climbP_bad (okClimb_no fun h' => by rw [allKB_true.1 h'.2.2 k (by omega)] at h; cases h)
  have n32 : n ≤ 32 := by omega
  have Hyes : Hid (allKB ks = true → okClimb ks = true) := fun h => okClimb_true.2 ⟨by omega, by omega, h⟩
  clear h1 h2 hn
  go_enter Try.func17, Try.ntmps17
  go_wp2_with fail
  go_loop [4] (fun i => ∃ k : Nat, k ≤ n ∧ i = .int .i64 k ∧ ∀ j, j < k → kB (ix ks j) = true) (fun i => n - (intOf i).toNat)
  case atStart => exact ⟨0, Nat.zero_le _, rfl, fun j h => absurd h (by omega)⟩
  case round =>
    obtain ⟨k, hk, rfl, hj⟩ := hrel
    have Hj := Lib.hid hj
    clear hj
    by_cases hlt : k < n
    · obtain ⟨b1, o1, rfl, hc1⟩ := ha.at_ (i := k) (by rw [← Hn.out]; exact hlt)
      by_cases hw1 : ix ks k ≤ -16384
      · have hn : Hid (kB (ix ks k) = false) := by show _ = _; simp [kB]; omega
        go_wp2_with fail
        go_ret2
        rw [Hno.out k hlt hn.out]
        exact ints_none (brefl w)
      · by_cases hw2 : 16384 ≤ ix ks k
        · have hn : Hid (kB (ix ks k) = false) := by show _ = _; simp [kB]; omega
          go_wp2_with fail
          go_ret2
          rw [Hno.out k hlt hn.out]
          exact ints_none (brefl w)
        · have hn : Hid (kB (ix ks k) = true) := by show _ = _; simp [kB]; omega
          go_wp2_with fail
          go_round
          case rel =>
            refine ⟨k + 1, by omega, by go_num, fun j h => ?_⟩
            by_cases e : j = k
            · subst e; exact hn.out
            · exact Hj.out j (by omega)
          case measure => simp [intOf]; omega
    · have hall : Hid (allKB ks = true) := allKB_true.2 fun j hj => Hj.out j (by have := Hn.out; omega)
      have hok := Lib.hid (Hyes.out hall.out)
      go_wp2_with fail
      go_loopw [5, 6, 7, 8] (fun cv iv _ _ wr => (∃ (k : Nat) (A' : Option Addr) (c' : Nat), k ≤ n ∧ iv = .int .i64 k ∧ cv = .slice A' k c' ∧ OwnZ wr w.heap.size A' k c' (climbTo ks k)) ∧ Below w.heap.size w wr) (fun _ iv _ _ _ => n - (intOf iv).toNat)
      case atStart => exact ⟨⟨0, none, 0, Nat.zero_le _, rfl, rfl, OwnZ.nil _ _⟩, brefl w⟩
      case round =>
        obtain ⟨⟨k, A2, c2, hk, rfl, rfl, ho⟩, hbl⟩ := hrel
        obtain ⟨wo, rfl⟩ : ∃ wo : World, wo = wr := ⟨_, rfl⟩
        have ho' := Lib.hid ho
        have hb' := Lib.hid hbl
        clear ho hbl
        by_cases hlt2 : k < n
        · obtain ⟨kk, hkk⟩ : ∃ kk, kk = ix ks k := ⟨_, rfl⟩
          have Hkk := Lib.hid hkk
          obtain ⟨cs, hcs⟩ : ∃ cs, cs = climbTo ks k := ⟨_, rfl⟩
          have Hcs := Lib.hid hcs
          rw [← hcs] at ho'
          have hcl := Lib.hid ho'.out.len
          have hci := OwnZ.ints ho'.out
          clear hkk hcs
          have hb1 := Lib.hid (bal (brefl wo) (.cells #[] 3))
          go_wp2_with (at_builtin; refine app_z0 _ rfl (.tmp 41) (.tmp 42) rfl wo _ _ rfl (own_emptyZ wo) _ _ k c2 cs rfl hcl.out (hci.below hb1.out) (by omega) hb1.out ?_; intro A3 c3 w3 ho3 hb3)
          have how := Lib.hid ho3
          have hbw := Lib.hid hb3
          have hoo := Lib.hid (OwnZ.below ho'.out hb3 (Nat.le_refl _))
          have hnl : Hid ((nextTo cs kk k).length = cs.length) := by show _ = _; rw [nextTo_len, hcl.out]
          clear ho3 hb3
          go_loopw [8] (fun iv wr => (∃ j : Nat, j ≤ k ∧ iv = .int .i64 j ∧ OwnZ wr w.heap.size A2 k c2 (mixTo cs (nextTo cs kk k) j) ∧ OwnZ wr wo.heap.size A3 k c3 cs) ∧ Below w.heap.size w wr) (fun iv _ => k - (intOf iv).toNat)
          case atStart => exact ⟨⟨0, Nat.zero_le _, rfl, by rw [mixTo_zero]; exact hoo.out, how.out⟩, hb'.out.trans (hbw.out.mono hb'.out.size)⟩
          case round =>
            obtain ⟨⟨j, hj, rfl, ho, hw3⟩, hbl⟩ := hrel
            obtain ⟨wi, rfl⟩ : ∃ wi : World, wi = wr := ⟨_, rfl⟩
            have hoi := Lib.hid ho
            have hwi := Lib.hid hw3
            have hbi := Lib.hid hbl
            clear ho hbl hw3
            by_cases hlt3 : j < k
            · obtain ⟨g, rfl, hBg, hgs⟩ := own_addr ho'.out (by omega)
              obtain ⟨g2, rfl, hBg2, hgs2⟩ := own_addr hwi.out (by omega)
              obtain ⟨b1, o1, rfl, hc1⟩ := (ha.below hbi.out).at_ (i := k) (by rw [← Hn.out]; exact hlt2)
              rw [← Hkk.out] at hc1
              have d1 := own_cell hwi.out (i := j) hlt3
              have d2 := own_cell hwi.out (i := k - 1 - j) (by omega)
              have d3 := World.ownsRow.frozenAt hoi.out j
              have d4 := own_cell hoi.out hlt3
              have t1 : (k : Int) - 1 - (j : Int) < (k : Int) := by omega
              have t2 : ((k : Int) - 1 - (j : Int)).toNat = k - 1 - j := by omega
              have t3 : (j : Int) ≤ (k : Int) - 1 := by omega
              have t4 : (j : Int) < (k : Int) := by omega
              have t5 : (0 : Int) ≤ (j : Int) := by omega
              have t6 : (0 : Int) ≤ (k : Int) := by omega
              have t7 : (k : Int) < (n : Int) := by omega
              have t8 : (0 : Int) ≤ (k : Int) - 1 - (j : Int) := by omega
              have t9 := IntWalk.i64_in ((k : Int) - 1) (by omega)
              have t10 := IntWalk.i64_in ((k : Int) - 1 - (j : Int)) (by omega)
              have hset : Hid ((mixTo cs (nextTo cs kk k) j).set j (wrap64 (ix cs j - wrap64 (kk * ix cs (k - 1 - j)) / 16384)) = mixTo cs (nextTo cs kk k) (j + 1)) := by
                show _ = _
                rw [← mixTo_set (by rw [hcl.out]; exact hlt3), nextTo_ix hlt3, hcl.out]
              have hne : g ≠ g2 := by omega
              go_wp2_with fail
              go_still_tail 21, (by kernel_rfl)
              go_wp2_with fail
              go_roundw
              case rel =>
                refine ⟨⟨j + 1, by omega, by go_num, ?_, ?_⟩, (hbi.out.setCell (p := ⟨g, j, none⟩) hBg _).drew⟩
                · rw [← hset.out]; exact own_set hoi.out j _
                · exact own_of_block hwi.out fun q hq => by simp [Value.ownBlock] at hq; subst hq; exact Below.heap_setCell _ _ _ _ hne.symm
              case measure => simp [intOf]; omega
            · have e : j = k := by omega
              subst e
              obtain ⟨b1, o1, rfl, hc1⟩ := (ha.below hbi.out).at_ (i := j) (by rw [← Hn.out]; exact hlt2)
              rw [← Hkk.out] at hc1
              have hoi' : OwnZ wi w.heap.size A2 j c2 (nextTo cs kk j) := by
                have := hoi.out
                rwa [mixTo_all hnl.out (by rw [hcl.out]; exact Nat.le_refl _)] at this
              have Hoi := Lib.hid hoi'
              clear hoi'
              go_wp2_with (at_builtin; refine app_z _ rfl (.tmp 70) (.tmp 75) rfl w _ _ _ _ rfl (Hoi.out.alloc _) _ _ 1 1 [kk] rfl rfl (rd_new1 _ _ _) (by omega) (bal hbi.out _) ?_; intro A4 c4 w4 ho4 hb4)
              have ho4' := Lib.hid ho4
              have hb4' := Lib.hid hb4
              clear ho4 hb4
              go_roundw
              case rel =>
                refine ⟨⟨j + 1, A4, c4, by omega, by go_num, rfl, ?_⟩, hb4'.out⟩
                rw [climbTo_succ (by rw [← Hn.out]; exact hlt2), ← Hcs.out, ← Hkk.out, climbS_next, hcl.out]
                exact ho4'.out
              case measure => simp [intOf]; omega
        · have e : k = n := by omega
          subst e
          have hr : Hid (climbP ks = (climbTo ks k, 0)) := by show _ = _; rw [Hn.out]; exact climbP_ok hok.out
          go_wp2_with fail
          go_ret2
          rw [hr.out]
          exact ints_of ho'.out hb'.out
end Go.Proofs.Ytmbebcgicddbnaa
