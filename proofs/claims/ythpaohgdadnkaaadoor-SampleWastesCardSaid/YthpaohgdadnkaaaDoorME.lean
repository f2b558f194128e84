/-
  sample: TrailingZeros64 out of the laid table; Wasted.
-/
import Derived.Test.YthpaohgdadnkaaaDoorProg
import Derived.Test.YthpaohgdadnkaaaDoorMD
import Derived.Shelf.Spec.TrailingZeros
namespace Go.Proofs.YthpaohgdadnkaaaDoor
open Go.RowKit

/-- the table of the library lies in its variable. -/
def Tab (w : World) : Prop := ∀ j, j < Lib.deBruijn64tab.length → w.cell? ⟨0, j, none⟩ = some (.int .u8 (Lib.deBruijn64tab.getD j 0))
theorem Tab.pos {w : World} (h : Tab w) : 0 < w.heap.size := block_lt_of_cell (h 0 (by decide))
theorem Tab.below {w w' : World} (h : Tab w) (hb : Below w.heap.size w w') : Tab w' := fun j hj => (hb.cell (p := ⟨0, j, none⟩) h.pos).trans (h j hj)
theorem Tab.drewN {w : World} (h : Tab w) (n : Nat) : Tab (w.drewN n) := h

theorem tz_core (x k idx : Nat) (w : World) (hx0 : ((x : Int) == 0) = false)
    (key : IntKind.u64.wrap (bits BinOp.and IntKind.u64 (x : Int) (IntKind.u64.wrap (-(x : Int))) * 285870213051353865) / 288230376151711744 = (idx : Int))
    (hi : idx < 64) (hk : k < 64) (hcell : w.cell? ⟨0, idx, none⟩ = some (.int .u8 k)) :
    Calls Tryd.prog 32 #[.int .u64 x] w fun e w' => e = .returned (.int .i64 k) ∧ w' = w := by
  go_enter Tryd.func32, Tryd.ntmps32
  go_wp2_with (simp only [key])
  go_ret
  exact ⟨rfl, rfl⟩
theorem tz_any (x : Nat) (hx : x < 18446744073709551616) (hx0 : x ≠ 0) (w : World) (hT : Tab w) :
    Calls Tryd.prog 32 #[.int .u64 x] w fun e w' => e = .returned (.int .i64 (Lib.ctz 64 x)) ∧ w' = w := by
  obtain ⟨hlow, hk⟩ := Lib.lowest_bit 64 x hx0 hx
  obtain ⟨hi, htab⟩ := Lib.deBruijn64_at _ hk
  have hcell := hT _ hi
  rw [htab] at hcell
  exact tz_core x _ _ w (by simp; omega) (tz64_key x _ hx hx0 hlow) hi hk hcell

def orTo (l : List Int) : Int := l.foldl (fun a x => bits .or .i64 a x) 0
theorem or_take {l : List Int} {k : Nat} (h : k < l.length) : orTo (l.take (k + 1)) = bits .or .i64 (orTo (l.take k)) (ix l k) := by
  rw [List.take_add_one, List.getElem?_eq_getElem h, ← ix_eq h]
  simp [orTo]
theorem or_b (a x : Int) : -9223372036854775808 ≤ bits .or .i64 a x ∧ bits .or .i64 a x < 9223372036854775808 := by
  show _ ≤ IntKind.i64.wrap _ ∧ IntKind.i64.wrap _ < _
  simp [IntKind.wrap, IntKind.signed, IntKind.bits]
  omega
theorem or_range (l : List Int) : -9223372036854775808 ≤ orTo l ∧ orTo l < 9223372036854775808 := by
  rcases List.eq_nil_or_concat l with rfl | ⟨l', x, rfl⟩
  · simp [orTo]
  · have : orTo (l'.concat x) = bits .or .i64 (orTo l') x := by simp [orTo]
    rw [this]
    exact or_b _ _
def uN (x : Int) : Nat := (x % 18446744073709551616).toNat
def wasteI (a : Int) : Int := if a = 0 then 0 else if (30 : Int) < (Lib.ctz 64 (uN a) : Int) then 30 else (Lib.ctz 64 (uN a) : Int)

set_option maxHeartbeats 1000000 in
theorem wastedL_any (l : List Int) (n : Nat) (hn : n = l.length) (hm : n ≤ 140737488355328) (A : Option Addr) (b c : Nat) (w : World) (hT : Tab w) (ha : Ints .i64 w b A l) :
    Calls Tryd.prog 26 #[.slice A n c] w fun e w' => e = .returned (.int .i64 (wasteI (orTo l))) ∧ w' = w := by
  subst hn
  have HT := Lib.hid hT
  clear hT
  go_enter Tryd.func26, Tryd.ntmps26
  go_wp2
  go_loopw [3, 8] (fun v i wr => (∃ k : Nat, k ≤ l.length ∧ i = .int .i64 k ∧ v = .int .i64 (orTo (l.take k))) ∧ wr = w) (fun _ i _ => l.length - (intOf i).toNat)
  case atStart => exact ⟨⟨0, Nat.zero_le _, rfl, rfl⟩, rfl⟩
  case round =>
    obtain ⟨⟨k, hk, rfl, rfl⟩, rfl⟩ := hrel
    by_cases hlt : k < l.length
    · obtain ⟨b1, o1, rfl, hc1⟩ := ha.at_ hlt
      have hst := Lib.hid (or_take hlt)
      go_wp2_with fail
      go_roundw
      case rel => exact ⟨⟨k + 1, by omega, by go_num, by rw [hst.out]⟩, trivial⟩
      case measure => simp [intOf]; omega
    · have e : k = l.length := by omega
      subst e
      rw [List.take_length]
      have hrg := or_range l
      obtain ⟨a, haa⟩ : ∃ a, a = orTo l := ⟨_, rfl⟩
      rw [← haa] at hrg ⊢
      have Haa := Lib.hid haa
      clear haa
      by_cases h0 : a = 0
      · have h0b : (a == 0) = true := by simp [h0]
        have hr : Hid (wasteI a = 0) := by show _ = _; rw [wasteI, if_pos h0]
        clear h0
        go_wp2_with fail
        go_ret
        exact ⟨by rw [← Haa.out, hr.out]; rfl, rfl⟩
      · have h0b : (a == 0) = false := by simp [h0]
        obtain ⟨X, hX⟩ : ∃ X, X = uN a := ⟨_, rfl⟩
        have hr : Hid (wasteI a = if (30 : Int) < (Lib.ctz 64 X : Int) then 30 else (Lib.ctz 64 X : Int)) := by show _ = _; rw [wasteI, if_neg h0, hX]
        have hw : IntKind.u64.wrap a = (X : Int) := by rw [IntKind.wrap_u64, hX, uN]; omega
        have hX1 : X < 18446744073709551616 := by rw [hX, uN]; omega
        have hX0 : Hid (X ≠ 0) := by
          show X ≠ 0
          rw [hX, uN]
          omega
        have HX1 := Lib.hid hX1
        clear h0 hX hX1 hrg
        go_wp2_with ((with_reducible refine (tz_any _ HX1.out hX0.out _ HT.out).mono ?_); rintro e w' ⟨rfl, rfl⟩)
        all_goals
          go_ret
          refine ⟨?_, rfl⟩
          rw [← Haa.out, hr.out]
          first
            | (rw [if_neg (by omega)]; rfl)
            | (rw [if_pos (by omega)]; rfl)
end Go.Proofs.YthpaohgdadnkaaaDoor
