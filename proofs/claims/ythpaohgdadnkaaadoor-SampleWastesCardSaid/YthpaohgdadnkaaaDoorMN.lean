/-
  sample: Down of the reference.
-/
import Derived.Test.YthpaohgdadnkaaaDoorProg
import Derived.Test.YthpaohgdadnkaaaDoorMK
namespace Go.Proofs.YthpaohgdadnkaaaDoor
open Go.RowKit

theorem downB_iff {k : Nat} {x : Int} : downB k x = true ↔ wideB x = true ∧ x % ((2 ^ k : Nat) : Int) = 0 := by
  have e : (2 : Int) ^ k = ((2 ^ k : Nat) : Int) := by simp
  unfold downB
  rw [Bool.and_eq_true, e]
  have : (!(x.tmod ((2 ^ k : Nat) : Int) != 0)) = true ↔ x % ((2 ^ k : Nat) : Int) = 0 := by
    constructor
    · intro h
      have h1 : x.tmod ((2 ^ k : Nat) : Int) = 0 := by simpa using h
      exact Int.emod_eq_zero_of_dvd (Int.dvd_of_tmod_eq_zero h1)
    · intro h
      have h1 : x.tmod ((2 ^ k : Nat) : Int) = 0 := Int.tmod_eq_zero_of_dvd (Int.dvd_of_emod_eq_zero h)
      rw [h1]; rfl
  rw [this]
theorem down_case {l : List Int} {s : Nat} (hs : s ≤ 30) :
    (l.all wideB = false ∧ downR l (s : Int) = ([], 6)) ∨ (l.all wideB = true ∧ wasteI (orTo l) < (s : Int) ∧ l.all (· == 0) = false ∧ downR l (s : Int) = ([], 6)) ∨
    (l.all wideB = true ∧ ((s : Int) ≤ wasteI (orTo l) ∨ (wasteI (orTo l) < (s : Int) ∧ l.all (· == 0) = true)) ∧ downR l (s : Int) = (l.map (· / 2 ^ s), 0)) := by
  have hd : downR l (s : Int) = if l.all (downB s) = true then (l.map (· / 2 ^ s), 0) else ([], 6) := by rw [downR, if_pos ⟨by omega, by omega⟩, Int.toNat_natCast]
  have hall : l.all (downB s) = true ↔ l.all wideB = true ∧ orTo l % ((2 ^ s : Nat) : Int) = 0 := by
    rw [orTo_dvd l (by omega), List.all_eq_true, List.all_eq_true]
    constructor
    · intro h; exact ⟨fun x hx => (downB_iff.1 (h x hx)).1, fun x hx => (downB_iff.1 (h x hx)).2⟩
    · rintro ⟨h1, h2⟩ x hx; exact downB_iff.2 ⟨h1 x hx, h2 x hx⟩
  cases hW : l.all wideB with
  | false => exact Or.inl ⟨rfl, by rw [hd, if_neg (by rw [hall, hW]; simp)]⟩
  | true =>
    right
    have hz := orTo_zero (l := l) (List.all_eq_true.1 hW)
    by_cases h0 : orTo l = 0
    · have hZ : l.all (· == 0) = true := List.all_eq_true.2 fun x hx => by simp [hz.1 h0 x hx]
      right
      refine ⟨rfl, ?_, by rw [hd, if_pos (hall.2 ⟨hW, by rw [h0]; simp⟩)]⟩
      by_cases h : (s : Int) ≤ wasteI (orTo l)
      · exact Or.inl h
      · exact Or.inr ⟨by omega, hZ⟩
    · have hw := waste_dvd h0 (or_range l) hs
      by_cases h : (s : Int) ≤ wasteI (orTo l)
      · exact Or.inr ⟨rfl, Or.inl h, by rw [hd, if_pos (hall.2 ⟨hW, hw.1 h⟩)]⟩
      · left
        refine ⟨rfl, by omega, ?_, by rw [hd, if_neg (fun h2 => h (hw.2 (hall.1 h2).2))]⟩
        cases e : l.all (· == 0) with
        | false => rfl
        | true => exact absurd (hz.2 fun x hx => by simpa using List.all_eq_true.1 e x hx) h0

set_option maxHeartbeats 1000000 in
theorem downRf_any (l : List Int) (m : Nat) (hn : m = l.length) (hm : m ≤ 1000) (n : Int) (A : Option Addr) (c : Nat) (w : World) (ha : Ints .i64 w w.heap.size A l) :
    Calls Tryd.prog 23 #[.slice A m c, .int .i64 n] w (IntsQ (downR l n) w) := by
  by_cases h1 : n < 0
  · have hr := Lib.hid (show downR l n = ([], 1) from if_neg (by omega))
    go_enter Tryd.func23, Tryd.ntmps23
    go_wp2
    go_ret2
    rw [hr.out]
    exact ints_none (brefl w)
  by_cases h2 : 30 < n
  · have hr := Lib.hid (show downR l n = ([], 1) from if_neg (by omega))
    go_enter Tryd.func23, Tryd.ntmps23
    go_wp2
    go_ret2
    rw [hr.out]
    exact ints_none (brefl w)
  obtain ⟨s, rfl⟩ := Int.eq_ofNat_of_zero_le (show 0 ≤ n by omega)
  have s30 : s ≤ 30 := by omega
  have s30I : (s : Int) ≤ 30 := by omega
  have Hn := Lib.hid hn
  clear hn h1 h2
  rcases down_case (l := l) s30 with ⟨hW, hr⟩ | ⟨hW, hlt, hZ, hr⟩ | ⟨hW, hok, hd⟩
  · have hr := Lib.hid hr
    go_enter Tryd.func23, Tryd.ntmps23
    go_wp2_with ((with_reducible refine (allwideR_any l _ Hn.out (by omega) _ _ _ _ ha).mono ?_); rintro e w' ⟨rfl, rfl⟩)
    go_ret2
    rw [hr.out]
    exact ints_none (brefl _)
  · have hr := Lib.hid hr
    go_enter Tryd.func23, Tryd.ntmps23
    go_wp2_with fail
    (with_reducible refine (allwideR_any l _ Hn.out (by omega) _ _ _ _ ha).mono ?_); rintro e w' ⟨rfl, rfl⟩
    go_wp2_with fail
    (with_reducible refine (wastedR_any l _ Hn.out (by omega) _ _ _ _ ha).mono ?_); rintro e w' ⟨rfl, rfl⟩
    go_wp2_with fail
    (with_reducible refine (zeroR_any l _ Hn.out (by omega) _ _ _ _ ha).mono ?_); rintro e w' ⟨rfl, rfl⟩
    go_wp2_with fail
    go_ret2
    rw [hr.out]
    exact ints_none (brefl _)
  have hd := Lib.hid hd
  go_enter Tryd.func23, Tryd.ntmps23
  go_wp2_with fail
  (with_reducible refine (allwideR_any l _ Hn.out (by omega) _ _ _ _ ha).mono ?_); rintro e w' ⟨rfl, rfl⟩
  go_wp2_with fail
  (with_reducible refine (wastedR_any l _ Hn.out (by omega) _ _ _ _ ha).mono ?_); rintro e w' ⟨rfl, rfl⟩
  rcases hok with hge | ⟨hlt, hZ⟩
  · go_wp2_with fail
    go_loopw [6, 7] (fun v i wr => (∃ (k : Nat) (A' : Option Addr) (c' : Nat), k ≤ m ∧ i = .int .i64 k ∧ v = .slice A' k c' ∧ OwnZ wr w'.heap.size A' k c' ((l.take k).map (· / 2 ^ s))) ∧ Below w'.heap.size w' wr) (fun _ i _ => m - (intOf i).toNat)
    case atStart => exact ⟨⟨0, none, 0, Nat.zero_le _, rfl, rfl, by simpa using OwnZ.nil _ _⟩, brefl w'⟩
    case round =>
      obtain ⟨⟨k, A2, c2, hk, rfl, rfl, ho⟩, hb⟩ := hrel
      obtain ⟨wo, rfl⟩ : ∃ wo : World, wo = wr := ⟨_, rfl⟩
      have ho' := Lib.hid ho
      have hb' := Lib.hid hb
      clear ho hb
      by_cases hlt : k < m
      · have hkl : k < l.length := by have := Hn.out; omega
        obtain ⟨b1, o1, rfl, hc1⟩ := (ha.below hb'.out).at_ hkl
        have hst := Lib.hid (map_step (f := (· / 2 ^ s)) hkl)
        obtain ⟨x, hx⟩ : ∃ x, x = ix l k := ⟨_, rfl⟩
        rw [← hx] at hst hc1
        clear hx
        obtain ⟨y, hy⟩ : ∃ y, x / 2 ^ s = y := ⟨_, rfl⟩
        have Hy := Lib.hid hy
        go_wp2_with (at_builtin; refine app_z _ rfl (.tmp 34) (.tmp 42) rfl w' _ _ _ _ rfl (ho'.out.alloc _) _ _ 1 1 [y] rfl rfl (rd_new1 _ _ _) (by omega) (bal hb'.out _) ?_; intro A4 c4 w4 ho4 hb4)
        have ho4' := Lib.hid ho4
        have hb4' := Lib.hid hb4
        clear ho4 hb4
        go_roundw
        case rel =>
          refine ⟨⟨k + 1, A4, c4, by omega, by go_num, rfl, ?_⟩, hb4'.out⟩
          rw [hst.out, Hy.out]; exact ho4'.out
        case measure => simp [intOf]; omega
      · have e : k = m := by omega
        subst e
        have hr : Hid (downR l (s : Int) = (l.map (· / 2 ^ s), 0)) := by show _ = _; exact hd.out
        have hL : Hid ((l.take k).map (· / 2 ^ s) = l.map (· / 2 ^ s) ∧ (l.map (· / 2 ^ s)).length = k) := by show _ ∧ _; rw [Hn.out, List.take_length]; exact ⟨rfl, by simp⟩
        go_wp2_with fail
        go_ret2
        try rw [hr.out]
        refine ⟨A2, c2, ?_, ?_, hb'.out⟩
        · rw [hL.out.2]; rfl
        · rw [hL.out.2]; have := ho'.out; rw [hL.out.1] at this; exact this
  · go_wp2_with fail
    (with_reducible refine (zeroR_any l _ Hn.out (by omega) _ _ _ _ ha).mono ?_); rintro e w' ⟨rfl, rfl⟩
    go_wp2_with fail
    go_loopw [6, 7] (fun v i wr => (∃ (k : Nat) (A' : Option Addr) (c' : Nat), k ≤ m ∧ i = .int .i64 k ∧ v = .slice A' k c' ∧ OwnZ wr w'.heap.size A' k c' ((l.take k).map (· / 2 ^ s))) ∧ Below w'.heap.size w' wr) (fun _ i _ => m - (intOf i).toNat)
    case atStart => exact ⟨⟨0, none, 0, Nat.zero_le _, rfl, rfl, by simpa using OwnZ.nil _ _⟩, brefl w'⟩
    case round =>
      obtain ⟨⟨k, A2, c2, hk, rfl, rfl, ho⟩, hb⟩ := hrel
      obtain ⟨wo, rfl⟩ : ∃ wo : World, wo = wr := ⟨_, rfl⟩
      have ho' := Lib.hid ho
      have hb' := Lib.hid hb
      clear ho hb
      by_cases hlt : k < m
      · have hkl : k < l.length := by have := Hn.out; omega
        obtain ⟨b1, o1, rfl, hc1⟩ := (ha.below hb'.out).at_ hkl
        have hst := Lib.hid (map_step (f := (· / 2 ^ s)) hkl)
        obtain ⟨x, hx⟩ : ∃ x, x = ix l k := ⟨_, rfl⟩
        rw [← hx] at hst hc1
        clear hx
        obtain ⟨y, hy⟩ : ∃ y, x / 2 ^ s = y := ⟨_, rfl⟩
        have Hy := Lib.hid hy
        go_wp2_with (at_builtin; refine app_z _ rfl (.tmp 34) (.tmp 42) rfl w' _ _ _ _ rfl (ho'.out.alloc _) _ _ 1 1 [y] rfl rfl (rd_new1 _ _ _) (by omega) (bal hb'.out _) ?_; intro A4 c4 w4 ho4 hb4)
        have ho4' := Lib.hid ho4
        have hb4' := Lib.hid hb4
        clear ho4 hb4
        go_roundw
        case rel =>
          refine ⟨⟨k + 1, A4, c4, by omega, by go_num, rfl, ?_⟩, hb4'.out⟩
          rw [hst.out, Hy.out]; exact ho4'.out
        case measure => simp [intOf]; omega
      · have e : k = m := by omega
        subst e
        have hr : Hid (downR l (s : Int) = (l.map (· / 2 ^ s), 0)) := by show _ = _; exact hd.out
        have hL : Hid ((l.take k).map (· / 2 ^ s) = l.map (· / 2 ^ s) ∧ (l.map (· / 2 ^ s)).length = k) := by show _ ∧ _; rw [Hn.out, List.take_length]; exact ⟨rfl, by simp⟩
        go_wp2_with fail
        go_ret2
        try rw [hr.out]
        refine ⟨A2, c2, ?_, ?_, hb'.out⟩
        · rw [hL.out.2]; rfl
        · rw [hL.out.2]; have := ho'.out; rw [hL.out.1] at this; exact this
end Go.Proofs.YthpaohgdadnkaaaDoor
