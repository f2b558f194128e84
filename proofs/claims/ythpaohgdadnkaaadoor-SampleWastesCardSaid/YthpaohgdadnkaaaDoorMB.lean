/-
  sample: Width of both.
-/
import Derived.Test.YthpaohgdadnkaaaDoorProg
import Derived.Test.YthpaohgdadnkaaaDoorMA
namespace Go.Proofs.YthpaohgdadnkaaaDoor
open Go.RowKit

/-- from w bits on: the least number of bits for x; 32: none has. -/
def grow (x : Int) : Nat → Nat → Nat
  | 0, w => w
  | f + 1, w => if x ≠ 0 ∧ w < 32 ∧ fitsB x (w : Int) = false then grow x f (w + 1) else w
def need (x : Int) (w : Nat) : Nat := grow x 33 w
theorem grow_le (x : Int) : ∀ f w, w ≤ 32 → grow x f w ≤ 32 ∧ w ≤ grow x f w
  | 0, w, h => ⟨h, Nat.le_refl _⟩
  | f + 1, w, h => by
    unfold grow; split
    · rename_i q; have := grow_le x f (w + 1) (by omega); omega
    · omega
theorem grow_more (x : Int) : ∀ f w, w ≤ 32 → 32 < w + f → grow x (f + 1) w = grow x f w
  | 0, w, h, h2 => by omega
  | f + 1, w, h, h2 => by
    rw [grow]; conv => rhs; rw [grow]
    split
    · rename_i q; exact grow_more x f (w + 1) (by omega) (by omega)
    · rfl
theorem grow_any (x : Int) (f g w : Nat) (h : w ≤ 32) (h2 : 32 < w + f) : grow x (f + g) w = grow x f w := by
  induction g with
  | zero => rfl
  | succ g ih => rw [← Nat.add_assoc, grow_more x (f + g) w h (by omega), ih]
theorem need_step {x : Int} {w : Nat} (h : x ≠ 0) (hw : w < 32) (hf : fitsB x (w : Int) = false) : need x (w + 1) = need x w := by
  unfold need
  conv => rhs; rw [grow, if_pos ⟨h, hw, hf⟩]
  exact grow_any x 32 1 (w + 1) (by omega) (by omega)
theorem need_stop {x : Int} {w : Nat} (h : ¬ (x ≠ 0 ∧ w < 32 ∧ fitsB x (w : Int) = false)) : need x w = w := by
  unfold need; rw [grow, if_neg h]
theorem need_le {x : Int} {w : Nat} (h : w ≤ 32) : need x w ≤ 32 ∧ w ≤ need x w := grow_le x 33 w h
def widthN (l : List Int) : Nat := l.foldl (fun w x => need x w) 0
theorem widthN_le (l : List Int) : widthN l ≤ 32 := by
  have : ∀ (l : List Int) w, w ≤ 32 → l.foldl (fun w x => need x w) w ≤ 32 := by
    intro l
    induction l with
    | nil => intro w h; exact h
    | cons x l ih => intro w h; exact ih _ (need_le h).1
  exact this l 0 (by omega)
theorem width_take {l : List Int} {k : Nat} (h : k < l.length) : widthN (l.take (k + 1)) = need (ix l k) (widthN (l.take k)) := by
  rw [List.take_add_one, List.getElem?_eq_getElem h, ← ix_eq h]
  simp [widthN]

set_option maxHeartbeats 1000000 in
theorem widthL_any (l : List Int) (n : Nat) (hn : n = l.length) (hm : n ≤ 140737488355328) (A : Option Addr) (b c : Nat) (w : World) (ha : Ints .i64 w b A l) :
    Calls Tryd.prog 16 #[.slice A n c] w fun e w' => e = .returned (.int .i64 (widthN l : Int)) ∧ ∃ m, w' = w.drewN m := by
  subst hn
  go_enter Tryd.func16, Tryd.ntmps16
  go_wp2
  go_loopw [3, 8] (fun v i wr => (∃ k : Nat, k ≤ l.length ∧ i = .int .i64 k ∧ v = .int .i64 (widthN (l.take k) : Int)) ∧ ∃ m, wr = w.drewN m) (fun _ i _ => l.length - (intOf i).toNat)
  case atStart => exact ⟨⟨0, Nat.zero_le _, rfl, rfl⟩, 0, rfl⟩
  case round =>
    obtain ⟨⟨k, hk, rfl, rfl⟩, n, rfl⟩ := hrel
    by_cases hlt : k < l.length
    · obtain ⟨b1, o1, rfl, hc1⟩ := ha.at_ hlt
      have hws := Lib.hid (width_take hlt)
      have hw0 := widthN_le (l.take k)
      obtain ⟨v, hv⟩ : ∃ v, v = widthN (l.take k) := ⟨_, rfl⟩
      obtain ⟨x, hx⟩ : ∃ x, x = ix l k := ⟨_, rfl⟩
      rw [← hx, ← hv] at hws
      rw [← hv] at hw0
      rw [← hx] at hc1
      rw [← hv]
      clear hx hv
      go_wp2
      obtain ⟨wo, hwo⟩ : ∃ wo, wo = w.drewN n := ⟨_, rfl⟩
      rw [← hwo]
      have Hwo := Lib.hid hwo
      clear hwo hc1
      go_loopw [3] (fun v' wr => (∃ u : Nat, u ≤ 32 ∧ v' = .int .i64 u ∧ need x u = need x v) ∧ ∃ m, wr = wo.drewN m) (fun v' _ => 32 - (intOf v').toNat)
      case atStart => exact ⟨⟨v, hw0, rfl, rfl⟩, 0, rfl⟩
      case round =>
        obtain ⟨⟨u, hu, rfl, hun⟩, n2, rfl⟩ := hrel
        have Hun := Lib.hid hun
        clear hun
        by_cases hx0 : x = 0
        · have hxb : (x != 0) = false := by simp [hx0]
          have hns := Lib.hid (need_stop (x := x) (w := u) (by simp [hx0]))
          clear hx0
          go_wp2
          constructor
          · exact ⟨⟨k + 1, by omega, by go_num, by rw [hws.out, ← Hun.out, hns.out]⟩, n + n2, by rw [Hwo.out, World.drewN_drewN]⟩
          · simp [intOf]; omega
        · have hxb : (x != 0) = true := by simp [hx0]
          by_cases hu2 : u < 32
          · have huI : (u : Int) < 32 := by omega
            cases hf : fitsB x (u : Int) with
            | true =>
              have hns := Lib.hid (need_stop (x := x) (w := u) (by simp [hf]))
              clear hx0
              go_wp2_with ((with_reducible refine (fitsL_any _ _ _).mono ?_); rintro e w' ⟨rfl, rfl⟩)
              constructor
              · exact ⟨⟨k + 1, by omega, by go_num, by rw [hws.out, ← Hun.out, hns.out]⟩, n + n2, by rw [Hwo.out, World.drewN_drewN]⟩
              · simp [intOf]; omega
            | false =>
              have hns := Lib.hid (need_step hx0 hu2 hf)
              clear hx0
              go_wp2_with ((with_reducible refine (fitsL_any _ _ _).mono ?_); rintro e w' ⟨rfl, rfl⟩)
              go_roundw
              case rel => exact ⟨⟨u + 1, by omega, by go_num, by rw [hns.out, Hun.out]⟩, n2, rfl⟩
              case measure => simp [intOf]; omega
          · have huI : (32 : Int) ≤ (u : Int) := by omega
            have hns := Lib.hid (need_stop (x := x) (w := u) (by omega))
            clear hx0
            go_wp2
            constructor
            · exact ⟨⟨k + 1, by omega, by go_num, by rw [hws.out, ← Hun.out, hns.out]⟩, n + n2, by rw [Hwo.out, World.drewN_drewN]⟩
            · simp [intOf]; omega
    · have e : k = l.length := by omega
      subst e
      rw [List.take_length]
      go_wp2
      go_ret
      exact ⟨rfl, n, rfl⟩
set_option maxHeartbeats 1000000 in
theorem widthR_any (l : List Int) (n : Nat) (hn : n = l.length) (hm : n ≤ 140737488355328) (A : Option Addr) (b c : Nat) (w : World) (ha : Ints .i64 w b A l) :
    Calls Tryd.prog 17 #[.slice A n c] w fun e w' => e = .returned (.int .i64 (widthN l : Int)) ∧ ∃ m, w' = w.drewN m := by
  subst hn
  go_enter Tryd.func17, Tryd.ntmps17
  go_wp2
  go_loopw [3, 4] (fun v i wr => (∃ k : Nat, k ≤ l.length ∧ i = .int .i64 k ∧ v = .int .i64 (widthN (l.take k) : Int)) ∧ ∃ m, wr = w.drewN m) (fun _ i _ => l.length - (intOf i).toNat)
  case atStart => exact ⟨⟨0, Nat.zero_le _, rfl, rfl⟩, 0, rfl⟩
  case round =>
    obtain ⟨⟨k, hk, rfl, rfl⟩, n, rfl⟩ := hrel
    by_cases hlt : k < l.length
    · obtain ⟨b1, o1, rfl, hc1⟩ := ha.at_ hlt
      have hws := Lib.hid (width_take hlt)
      have hw0 := widthN_le (l.take k)
      obtain ⟨v, hv⟩ : ∃ v, v = widthN (l.take k) := ⟨_, rfl⟩
      obtain ⟨x, hx⟩ : ∃ x, x = ix l k := ⟨_, rfl⟩
      rw [← hx, ← hv] at hws
      rw [← hv] at hw0
      rw [← hx] at hc1
      rw [← hv]
      clear hx hv
      go_wp2
      obtain ⟨wo, hwo⟩ : ∃ wo, wo = w.drewN n := ⟨_, rfl⟩
      rw [← hwo]
      have hc1 : wo.cell? ⟨b1, o1 + k, none⟩ = some (.int .i64 x) := by rw [hwo]; exact hc1
      have Hwo := Lib.hid hwo
      clear hwo
      go_loopw [3] (fun v' wr => (∃ u : Nat, u ≤ 32 ∧ v' = .int .i64 u ∧ need x u = need x v) ∧ ∃ m, wr = wo.drewN m) (fun v' _ => 32 - (intOf v').toNat)
      case atStart => exact ⟨⟨v, hw0, rfl, rfl⟩, 0, rfl⟩
      case round =>
        obtain ⟨⟨u, hu, rfl, hun⟩, n2, rfl⟩ := hrel
        have Hun := Lib.hid hun
        clear hun
        by_cases hx0 : x = 0
        · have hxb : (x != 0) = false := by simp [hx0]
          have hns := Lib.hid (need_stop (x := x) (w := u) (by simp [hx0]))
          clear hx0
          go_wp2
          all_goals
            constructor
            · exact ⟨⟨k + 1, by omega, by go_num, by rw [hws.out, ← Hun.out, hns.out]⟩, n + n2, by rw [Hwo.out, World.drewN_drewN]⟩
            · simp [intOf]; omega
        · have hxb : (x != 0) = true := by simp [hx0]
          by_cases hu2 : u < 32
          · have huI : (u : Int) < 32 := by omega
            cases hf : fitsB x (u : Int) with
            | true =>
              have hns := Lib.hid (need_stop (x := x) (w := u) (by simp [hf]))
              clear hx0
              go_wp2_with ((with_reducible refine (fitsR_any _ _ _).mono ?_); rintro e w' ⟨rfl, rfl⟩)
              constructor
              · exact ⟨⟨k + 1, by omega, by go_num, by rw [hws.out, ← Hun.out, hns.out]⟩, n + n2, by rw [Hwo.out, World.drewN_drewN]⟩
              · simp [intOf]; omega
            | false =>
              have hns := Lib.hid (need_step hx0 hu2 hf)
              clear hx0
              go_wp2_with ((with_reducible refine (fitsR_any _ _ _).mono ?_); rintro e w' ⟨rfl, rfl⟩)
              go_roundw
              case rel => exact ⟨⟨u + 1, by omega, by go_num, by rw [hns.out, Hun.out]⟩, n2, rfl⟩
              case measure => simp [intOf]; omega
          · have huI : (32 : Int) ≤ (u : Int) := by omega
            have hns := Lib.hid (need_stop (x := x) (w := u) (by omega))
            clear hx0
            go_wp2
            constructor
            · exact ⟨⟨k + 1, by omega, by go_num, by rw [hws.out, ← Hun.out, hns.out]⟩, n + n2, by rw [Hwo.out, World.drewN_drewN]⟩
            · simp [intOf]; omega
    · have e : k = l.length := by omega
      subst e
      rw [List.take_length]
      go_wp2
      go_ret
      exact ⟨rfl, n, rfl⟩
end Go.Proofs.YthpaohgdadnkaaaDoor
