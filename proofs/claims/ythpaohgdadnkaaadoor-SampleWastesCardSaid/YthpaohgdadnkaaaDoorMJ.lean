/-
  sample: Wasted of the reference.
-/
import Derived.Test.YthpaohgdadnkaaaDoorProg
import Derived.Test.YthpaohgdadnkaaaDoorMI
namespace Go.Proofs.YthpaohgdadnkaaaDoor
open Go.RowKit

theorem and1 (n : Int) : bits .and .i64 n 1 = n % 2 := i64_mask n 1 (by omega) 1 (by decide)
theorem bit_at {a z : Int} {X t m n : Nat} (ha : a = (X : Int) + 2 ^ 64 * z) (hX : X = 2 ^ t * (2 * m + 1)) (hn : n ≤ t) (h64 : n < 64) : (a / 2 ^ n) % 2 = if n < t then 0 else 1 := by
  obtain ⟨d, rfl⟩ : ∃ d, t = n + d := ⟨t - n, by omega⟩
  obtain ⟨e, he⟩ : ∃ e, 64 = n + (e + 1) := ⟨63 - n, by omega⟩
  have h1 : a = 2 ^ n * (2 ^ d * (2 * (m : Int) + 1) + 2 * (2 ^ e * z)) := by
    rw [ha, hX, he]
    simp only [Int.natCast_mul, Int.natCast_pow, Int.natCast_add, Int.pow_add, Int.pow_succ]
    have e1 : ((1 : Nat) : Int) = 1 := rfl
    have e2 : ((2 : Nat) : Int) = 2 := rfl
    rw [e1, e2]
    grind
  have hp : (2 : Int) ^ n ≠ 0 := by rw [p2]; have := Nat.two_pow_pos n; omega
  rw [h1, Int.mul_ediv_cancel_left _ hp]
  generalize 2 ^ e * z = y
  cases d with
  | zero => rw [if_neg (by omega)]; simp; try omega
  | succ d =>
    rw [if_pos (by omega), Int.pow_succ]
    have : (2 : Int) ^ d * 2 * (2 * (m : Int) + 1) = 2 * (2 ^ d * (2 * (m : Int) + 1)) := by grind
    rw [this]; omega
/-- the bits of a number that is not 0, up to where it begins. -/
theorem waste_bit {a : Int} (h0 : a ≠ 0) (hr : -9223372036854775808 ≤ a ∧ a < 9223372036854775808) : ∃ t : Nat, wasteI a = (if (30 : Int) < (t : Int) then 30 else (t : Int)) ∧ ∀ n : Nat, n ≤ t → n < 30 → (a / 2 ^ n) % 2 = if n < t then 0 else 1 := by
  have hX0 : uN a ≠ 0 := by unfold uN; omega
  have hX1 : uN a < 2 ^ 64 := by unfold uN; omega
  obtain ⟨m, hm, hk⟩ := Lib.ctzFrom_spec 64 (uN a) (by omega) hX1
  have e : Lib.ctz 64 (uN a) = Lib.ctzFrom 64 (uN a) := by simp [Lib.ctz, hX0]
  refine ⟨Lib.ctz 64 (uN a), by rw [wasteI, if_neg h0], fun n hn h30 => ?_⟩
  rw [← e] at hm
  exact bit_at (z := a / 18446744073709551616) (by unfold uN; omega) hm hn (by omega)

set_option maxHeartbeats 1000000 in
theorem wastedR_any (l : List Int) (n : Nat) (hn : n = l.length) (hm : n ≤ 140737488355328) (A : Option Addr) (b c : Nat) (w : World) (ha : Ints .i64 w b A l) :
    Calls Tryd.prog 27 #[.slice A n c] w fun e w' => e = .returned (.int .i64 (wasteI (orTo l))) ∧ w' = w := by
  subst hn
  go_enter Tryd.func27, Tryd.ntmps27
  go_wp2
  go_loopw [3, 4] (fun v i wr => (∃ k : Nat, k ≤ l.length ∧ i = .int .i64 k ∧ v = .int .i64 (orTo (l.take k))) ∧ wr = w) (fun _ i _ => l.length - (intOf i).toNat)
  case atStart => exact ⟨⟨0, Nat.zero_le _, rfl, rfl⟩, rfl⟩
  case round =>
    obtain ⟨⟨k, hk, rfl, rfl⟩, rfl⟩ := hrel
    by_cases hlt : k < l.length
    · obtain ⟨b1, o1, rfl, hc1⟩ := ha.at_ hlt
      have hst := Lib.hid (or_take hlt)
      go_wp2_with fail
      constructor
      · exact ⟨⟨k + 1, by omega, by go_num, by rw [hst.out]⟩, trivial⟩
      · simp [intOf]; omega
    · have e : k = l.length := by omega
      subst e
      rw [List.take_length]
      have hrg := or_range l
      obtain ⟨a, haa⟩ : ∃ a, a = orTo l := ⟨_, rfl⟩
      rw [← haa] at hrg ⊢
      have Haa := Lib.hid haa
      clear haa
      by_cases h0 : a = 0
      · have hr : Hid (wasteI a = 0) := by show _ = _; rw [wasteI, if_pos h0]
        have h0b : (a != 0) = false := by simp [h0]
        clear h0 hrg
        go_wp2_with fail
        go_loopw [5] (fun v wq => v = .int .i64 0 ∧ wq = wr) (fun _ _ => 0)
        case atStart => exact ⟨rfl, rfl⟩
        case round =>
          obtain ⟨rfl, rfl⟩ := hrel
          go_wp2_with fail
          go_ret
          exact ⟨by rw [← Haa.out, hr.out]; rfl, rfl⟩
      · obtain ⟨t, ht, hbit⟩ := waste_bit h0 hrg
        have h0b : (a != 0) = true := by simp [h0]
        have Ht := Lib.hid ht
        have Hbit := Lib.hid hbit
        clear h0 hrg ht hbit
        go_wp2_with fail
        go_loopw [5] (fun v wq => (∃ q : Nat, q ≤ t ∧ q ≤ 30 ∧ v = .int .i64 q) ∧ wq = wr) (fun v _ => 30 - (intOf v).toNat)
        case atStart => exact ⟨⟨0, by omega, by omega, rfl⟩, rfl⟩
        case round =>
          obtain ⟨⟨q, hq, hq30, rfl⟩, rfl⟩ := hrel
          by_cases h30 : q < 30
          · have hb := and1 (a / 2 ^ q)
            rw [Hbit.out q hq h30] at hb
            by_cases hqt : q < t
            · rw [if_pos hqt] at hb
              go_wp2_with fail
              go_roundw
              case rel => exact ⟨⟨q + 1, by omega, by omega, by go_num⟩, trivial⟩
              case measure => simp [intOf]; omega
            · rw [if_neg hqt] at hb
              have hr : Hid (wasteI a = (q : Int)) := by show _ = _; rw [Ht.out, if_neg (by omega)]; omega
              go_wp2_with fail
              go_ret
              exact ⟨by rw [← Haa.out, hr.out]; rfl, rfl⟩
          · have e : q = 30 := by omega
            subst e
            have hr : Hid (wasteI a = 30) := by show _ = _; rw [Ht.out]; split <;> omega
            go_wp2_with fail
            go_ret
            exact ⟨by rw [← Haa.out, hr.out]; rfl, rfl⟩
end Go.Proofs.YthpaohgdadnkaaaDoor
