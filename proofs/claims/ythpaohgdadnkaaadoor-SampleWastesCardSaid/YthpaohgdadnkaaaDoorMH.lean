/-
  sample: Down of the program; Up of the reference.
-/
import Derived.Test.YthpaohgdadnkaaaDoorProg
import Derived.Test.YthpaohgdadnkaaaDoorMG
namespace Go.Proofs.YthpaohgdadnkaaaDoor
open Go.RowKit

def downB (k : Nat) (x : Int) : Bool := wideB x && !(x.tmod (2 ^ k) != 0)
def downR (l : List Int) (n : Int) : List Int × Int := if 0 ≤ n ∧ n ≤ 30 then (if l.all (downB n.toNat) = true then (l.map (· / 2 ^ n.toNat), 0) else ([], 6)) else ([], 1)

set_option maxHeartbeats 1000000 in
theorem downL_any (l : List Int) (m : Nat) (hn : m = l.length) (hm : m ≤ 1000) (n : Int) (A : Option Addr) (c : Nat) (w : World) (ha : Ints .i64 w w.heap.size A l) :
    Calls Tryd.prog 22 #[.slice A m c, .int .i64 n] w (IntsQ (downR l n) w) := by
  by_cases h1 : n < 0
  · have hr := Lib.hid (show downR l n = ([], 1) from if_neg (by omega))
    go_enter Tryd.func22, Tryd.ntmps22
    go_wp2
    go_ret2
    rw [hr.out]
    exact ints_none (brefl w)
  by_cases h2 : 30 < n
  · have hr := Lib.hid (show downR l n = ([], 1) from if_neg (by omega))
    go_enter Tryd.func22, Tryd.ntmps22
    go_wp2
    go_ret2
    rw [hr.out]
    exact ints_none (brefl w)
  obtain ⟨s, rfl⟩ := Int.eq_ofNat_of_zero_le (show 0 ≤ n by omega)
  have s30 : s ≤ 30 := by omega
  have s30I : (s : Int) ≤ 30 := by omega
  have hd : Hid (downR l (s : Int) = if l.all (downB s) = true then (l.map (· / 2 ^ s), 0) else ([], 6)) := by show _ = _; rw [downR, if_pos ⟨by omega, by omega⟩, Int.toNat_natCast]
  have Hn := Lib.hid hn
  clear hn h1 h2
  go_enter Tryd.func22, Tryd.ntmps22
  go_wp2
  go_loopw [6, 17] (fun v i wr => (∃ (k : Nat) (A' : Option Addr) (c' : Nat), k ≤ m ∧ i = .int .i64 k ∧ v = .slice A' k c' ∧ OwnZ wr w.heap.size A' k c' ((l.take k).map (· / 2 ^ s)) ∧ ∀ j, j < k → downB s (ix l j) = true) ∧ Below w.heap.size w wr) (fun _ i _ => m - (intOf i).toNat)
  case atStart => exact ⟨⟨0, none, 0, Nat.zero_le _, rfl, rfl, by simpa using OwnZ.nil _ _, fun j h => absurd h (by omega)⟩, brefl w⟩
  case round =>
    obtain ⟨⟨k, A2, c2, hk, rfl, rfl, ho, hj⟩, hb⟩ := hrel
    obtain ⟨wo, rfl⟩ : ∃ wo : World, wo = wr := ⟨_, rfl⟩
    have ho' := Lib.hid ho
    have hb' := Lib.hid hb
    have Hj := Lib.hid hj
    clear ho hb hj
    by_cases hlt : k < m
    · have hkl : k < l.length := by have := Hn.out; omega
      obtain ⟨b1, o1, rfl, hc1⟩ := (ha.below hb'.out).at_ hkl
      have hst := Lib.hid (map_step (f := (· / 2 ^ s)) hkl)
      have Hno : Hid (downB s (ix l k) = false → downR l (s : Int) = ([], 6)) := fun h => by rw [hd.out, all_no hkl h]; rfl
      obtain ⟨x, hx⟩ : ∃ x, x = ix l k := ⟨_, rfl⟩
      have Hx := Lib.hid hx
      rw [← hx] at hst hc1 Hno
      clear hx
      cases hf : wideB x with
      | false =>
        have hr := Lib.hid (Hno.out (by simp [downB, hf]))
        go_wp2_with ((with_reducible refine (wideL_any _ _).mono ?_); rintro e w' ⟨rfl, rfl⟩)
        go_ret2
        rw [hr.out]
        exact ints_none hb'.out
      | true =>
        have hps := p30 s30I
        have hw := IntWalk.wrap64_in (2 ^ s) (by omega)
        obtain ⟨y, hy⟩ : ∃ y, x / 2 ^ s = y := ⟨_, rfl⟩
        cases hg : (x.tmod (2 ^ s) != 0) with
        | true =>
          have hr := Lib.hid (Hno.out (by simp only [downB, hf, hg]; rfl))
          clear hy
          go_wp2_with ((with_reducible refine (wideL_any _ _).mono ?_); rintro e w' ⟨rfl, rfl⟩)
          go_ret2
          rw [hr.out]
          exact ints_none hb'.out
        | false =>
          have hyes : Hid (downB s (ix l k) = true) := by show _ = _; rw [← Hx.out]; simp only [downB, hf, hg]; rfl
          have Hy := Lib.hid hy
          go_wp2_with (first | (at_builtin; refine app_z _ rfl (.tmp 31) (.tmp 35) rfl w _ _ _ _ rfl (ho'.out.alloc _) _ _ 1 1 [y] rfl rfl (rd_new1 _ _ _) (by omega) (bal hb'.out _) ?_; intro A4 c4 w4 ho4 hb4) | ((with_reducible refine (wideL_any _ _).mono ?_); rintro e w' ⟨rfl, rfl⟩))
          have ho4' := Lib.hid ho4
          have hb4' := Lib.hid hb4
          clear ho4 hb4
          go_roundw
          case rel =>
            refine ⟨⟨k + 1, A4, c4, by omega, by go_num, rfl, ?_, fun i hi => ?_⟩, hb4'.out⟩
            · rw [hst.out, Hy.out]; exact ho4'.out
            · by_cases e : i = k
              · subst e; exact hyes.out
              · exact Hj.out i (by omega)
          case measure => simp [intOf]; omega
    · have e : k = m := by omega
      subst e
      have hr : Hid (downR l (s : Int) = (l.map (· / 2 ^ s), 0)) := by show _ = _; rw [hd.out, if_pos (all_yes fun j hj => Hj.out j (by have := Hn.out; omega))]
      have hL : Hid ((l.take k).map (· / 2 ^ s) = l.map (· / 2 ^ s) ∧ (l.map (· / 2 ^ s)).length = k) := by show _ ∧ _; rw [Hn.out, List.take_length]; exact ⟨rfl, by simp⟩
      go_wp2_with fail
      go_ret2
      rw [hr.out]
      refine ⟨A2, c2, ?_, ?_, hb'.out⟩
      · rw [hL.out.2]; rfl
      · rw [hL.out.2]; have := ho'.out; rw [hL.out.1] at this; exact this

-- UPR
end Go.Proofs.YthpaohgdadnkaaaDoor
