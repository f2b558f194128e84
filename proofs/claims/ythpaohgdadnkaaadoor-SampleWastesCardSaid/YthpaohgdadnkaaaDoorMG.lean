/-
  sample: wide, Up and Down of the program.
-/
import Derived.Test.YthpaohgdadnkaaaDoorProg
import Derived.Test.YthpaohgdadnkaaaDoorME
namespace Go.Proofs.YthpaohgdadnkaaaDoor
open Go.RowKit

def wideB (x : Int) : Bool := decide (-1073741824 ≤ x) && decide (x < 1073741824)
theorem wideB_true {x : Int} : wideB x = true ↔ -1073741824 ≤ x ∧ x < 1073741824 := by simp [wideB]
theorem wideL_any (x : Int) (w : World) : Calls Tryd.prog 29 #[.int .i64 x] w fun e w' => e = .returned (.bool (wideB x)) ∧ w' = w := by
  by_cases h : -1073741824 ≤ x
  · have hd : Hid (wideB x = decide (x < 1073741824)) := by show _ = _; simp [wideB, h]
    go_enter Tryd.func29, Tryd.ntmps29
    go_wp2
    go_ret
    exact ⟨by rw [hd.out]; rfl, rfl⟩
  · have hd : Hid (wideB x = false) := by show _ = _; simp [wideB]; omega
    go_enter Tryd.func29, Tryd.ntmps29
    go_wp2
    go_ret
    exact ⟨by rw [hd.out]; rfl, rfl⟩
theorem wideR_any (x : Int) (w : World) : Calls Tryd.prog 31 #[.int .i64 x] w fun e w' => e = .returned (.bool (wideB x)) ∧ w' = w := by
  by_cases h : -1073741824 ≤ x
  · have hd : Hid (wideB x = decide (x < 1073741824)) := by show _ = _; simp [wideB, h]
    go_enter Tryd.func31, Tryd.ntmps31
    go_wp2
    go_ret
    exact ⟨by rw [hd.out]; rfl, rfl⟩
  · have hd : Hid (wideB x = false) := by show _ = _; simp [wideB]; omega
    go_enter Tryd.func31, Tryd.ntmps31
    go_wp2
    go_ret
    exact ⟨by rw [hd.out]; rfl, rfl⟩
def upB (k : Nat) (x : Int) : Bool := wideB x && wideB (x * 2 ^ k)
def upR (l : List Int) (n : Int) : List Int × Int := if 0 ≤ n ∧ n ≤ 30 then (if l.all (upB n.toNat) = true then (l.map (· * 2 ^ n.toNat), 0) else ([], 6)) else ([], 1)
theorem all_no {f : Int → Bool} {l : List Int} {k : Nat} (hk : k < l.length) (h : f (ix l k) = false) : l.all f = false := by
  cases e : l.all f with
  | false => rfl
  | true =>
    have := List.all_eq_true.1 e (ix l k) (by rw [ix_eq hk]; exact List.getElem_mem _)
    rw [h] at this; cases this
theorem all_yes {f : Int → Bool} {l : List Int} (h : ∀ j, j < l.length → f (ix l j) = true) : l.all f = true := List.all_eq_true.2 fun x hx => by
  obtain ⟨i, hi, rfl⟩ := mem_ix hx
  exact h i hi
theorem map_step {f : Int → Int} {l : List Int} {k : Nat} (h : k < l.length) : (l.take (k + 1)).map f = (l.take k).map f ++ [f (ix l k)] := by
  rw [List.take_add_one, List.getElem?_eq_getElem h, ← ix_eq h]; simp
theorem wide_shift {x : Int} {k : Nat} (hk : k ≤ 30) (hx : wideB x = true) : -9223372036854775808 ≤ x * 2 ^ k ∧ x * 2 ^ k ≤ 9223372036854775807 := by
  have h := wideB_true.1 hx
  have hp := p30 (k := k) (by omega)
  have h1 : x * 2 ^ k ≤ 1073741824 * 2 ^ k := Int.mul_le_mul_of_nonneg_right (by omega) (by omega)
  have h2 : -1073741824 * 2 ^ k ≤ x * 2 ^ k := Int.mul_le_mul_of_nonneg_right (by omega) (by omega)
  omega

set_option maxHeartbeats 1000000 in
theorem upL_any (l : List Int) (m : Nat) (hn : m = l.length) (hm : m ≤ 1000) (n : Int) (A : Option Addr) (c : Nat) (w : World) (ha : Ints .i64 w w.heap.size A l) :
    Calls Tryd.prog 24 #[.slice A m c, .int .i64 n] w (IntsQ (upR l n) w) := by
  by_cases h1 : n < 0
  · have hr := Lib.hid (show upR l n = ([], 1) from if_neg (by omega))
    go_enter Tryd.func24, Tryd.ntmps24
    go_wp2
    go_ret2
    rw [hr.out]
    exact ints_none (brefl w)
  by_cases h2 : 30 < n
  · have hr := Lib.hid (show upR l n = ([], 1) from if_neg (by omega))
    go_enter Tryd.func24, Tryd.ntmps24
    go_wp2
    go_ret2
    rw [hr.out]
    exact ints_none (brefl w)
  obtain ⟨s, rfl⟩ := Int.eq_ofNat_of_zero_le (show 0 ≤ n by omega)
  have s30 : s ≤ 30 := by omega
  have s30I : (s : Int) ≤ 30 := by omega
  have hd : Hid (upR l (s : Int) = if l.all (upB s) = true then (l.map (· * 2 ^ s), 0) else ([], 6)) := by show _ = _; rw [upR, if_pos ⟨by omega, by omega⟩, Int.toNat_natCast]
  have Hn := Lib.hid hn
  clear hn h1 h2
  go_enter Tryd.func24, Tryd.ntmps24
  go_wp2
  go_loopw [6, 17] (fun v i wr => (∃ (k : Nat) (A' : Option Addr) (c' : Nat), k ≤ m ∧ i = .int .i64 k ∧ v = .slice A' k c' ∧ OwnZ wr w.heap.size A' k c' ((l.take k).map (· * 2 ^ s)) ∧ ∀ j, j < k → upB s (ix l j) = true) ∧ Below w.heap.size w wr) (fun _ i _ => m - (intOf i).toNat)
  case atStart => exact ⟨⟨0, none, 0, Nat.zero_le _, rfl, rfl, by simpa using OwnZ.nil _ _, fun j h => absurd h (by omega)⟩, brefl w⟩
  case round =>
    obtain ⟨⟨k, A2, c2, hk, rfl, rfl, ho, hj⟩, hb⟩ := hrel
    obtain ⟨wo, rfl⟩ : ∃ wo : World, wo = wr := ⟨_, rfl⟩
    have ho' := Lib.hid ho
    have hb' := Lib.hid hb
    have Hj := Lib.hid hj
    clear ho hb hj
    by_cases hlt : k < m
    · have hkl : k < l.length := by have := Hn.out; omega
      obtain ⟨b1, o1, rfl, hc1⟩ := (ha.below hb'.out).at_ hkl
      have hst := Lib.hid (map_step (f := (· * 2 ^ s)) hkl)
      have Hno : Hid (upB s (ix l k) = false → upR l (s : Int) = ([], 6)) := fun h => by rw [hd.out, all_no hkl h]; rfl
      obtain ⟨x, hx⟩ : ∃ x, x = ix l k := ⟨_, rfl⟩
      have Hx := Lib.hid hx
      rw [← hx] at hst hc1 Hno
      clear hx
      cases hf : wideB x with
      | false =>
        have hr := Lib.hid (Hno.out (by simp [upB, hf]))
        go_wp2_with ((with_reducible refine (wideL_any _ _).mono ?_); rintro e w' ⟨rfl, rfl⟩)
        go_ret2
        rw [hr.out]
        exact ints_none hb'.out
      | true =>
        have hw := IntWalk.wrap64_in (x * 2 ^ s) (wide_shift s30 hf)
        obtain ⟨y, hy⟩ : ∃ y, x * 2 ^ s = y := ⟨_, rfl⟩
        cases hg : wideB y with
        | false =>
          have hr := Lib.hid (Hno.out (by simp [upB, hy, hg]))
          rw [hy] at hw
          go_wp2_with ((with_reducible refine (wideL_any _ _).mono ?_); rintro e w' ⟨rfl, rfl⟩)
          go_ret2
          rw [hr.out]
          exact ints_none hb'.out
        | true =>
          have hyes : Hid (upB s (ix l k) = true) := by show _ = _; rw [← Hx.out]; simp [upB, hf, hy, hg]
          have Hy := Lib.hid hy
          rw [hy] at hw
          go_wp2_with (first | (at_builtin; refine app_z _ rfl (.tmp 31) (.tmp 35) rfl w _ _ _ _ rfl (ho'.out.alloc _) _ _ 1 1 [y] rfl rfl (rd_new1 _ _ _) (by omega) (bal hb'.out _) ?_; intro A4 c4 w4 ho4 hb4) | ((with_reducible refine (wideL_any _ _).mono ?_); rintro e w' ⟨rfl, rfl⟩))
          have ho4' := Lib.hid ho4
          have hb4' := Lib.hid hb4
          clear ho4 hb4
          go_roundw
          case rel =>
            refine ⟨⟨k + 1, A4, c4, by omega, by go_num, rfl, ?_, fun i hi => ?_⟩, hb4'.out⟩
            · rw [hst.out, Hy.out]; exact ho4'.out
            · by_cases e : i = k
              · subst e; exact hyes.out
              · exact Hj.out i (by omega)
          case measure => simp [intOf]; omega
    · have e : k = m := by omega
      subst e
      have hr : Hid (upR l (s : Int) = (l.map (· * 2 ^ s), 0)) := by show _ = _; rw [hd.out, if_pos (all_yes fun j hj => Hj.out j (by have := Hn.out; omega))]
      have hL : Hid ((l.take k).map (· * 2 ^ s) = l.map (· * 2 ^ s) ∧ (l.map (· * 2 ^ s)).length = k) := by show _ ∧ _; rw [Hn.out, List.take_length]; exact ⟨rfl, by simp⟩
      go_wp2_with fail
      go_ret2
      rw [hr.out]
      refine ⟨A2, c2, ?_, ?_, hb'.out⟩
      · rw [hL.out.2]; rfl
      · rw [hL.out.2]; have := ho'.out; rw [hL.out.1] at this; exact this
end Go.Proofs.YthpaohgdadnkaaaDoor
