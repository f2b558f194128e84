/-
  The hash: times, the reference's Print, Power and Join of both.
-/
import Derived.Test.YtfdkodcnbjmlbaaProg
import Derived.Test.YtfdkodcnbjmlbaaSD
namespace Go.Proofs.Ytfdkodcnbjmlbaa
open Go.RowKit

theorem times_0 {P a b j : Nat} {PI : Int} (hP : PI = (P : Int)) (h : b / 2 ^ j % 2 = 0) : (((a * (b / 2 ^ (j + 1)) % P : Nat) : Int) + ((a * (b / 2 ^ (j + 1)) % P : Nat) : Int)) % PI = ((a * (b / 2 ^ j) % P : Nat) : Int) := by
  have e : b / 2 ^ j = 2 * (b / 2 ^ (j + 1)) := by rw [Nat.pow_succ, ← Nat.div_div_eq_div_mul]; omega
  rw [e, hP, ← Int.natCast_add, ← Int.natCast_emod]
  congr 1
  rw [Nat.mod_add_mod, Nat.add_mod_mod]
  congr 1
  generalize b / 2 ^ (j + 1) = t
  grind
theorem times_1 {P a b j : Nat} {PI : Int} (hP : PI = (P : Int)) (h : b / 2 ^ j % 2 = 1) : ((((a * (b / 2 ^ (j + 1)) % P : Nat) : Int) + ((a * (b / 2 ^ (j + 1)) % P : Nat) : Int)) % PI + (a : Int)) % PI = ((a * (b / 2 ^ j) % P : Nat) : Int) := by
  have e : b / 2 ^ j = 2 * (b / 2 ^ (j + 1)) + 1 := by rw [Nat.pow_succ, ← Nat.div_div_eq_div_mul]; omega
  rw [e, hP, ← Int.natCast_add, ← Int.natCast_emod, ← Int.natCast_add, ← Int.natCast_emod]
  congr 1
  rw [Nat.mod_add_mod, Nat.add_assoc, Nat.mod_add_mod, ← Nat.add_assoc, Nat.add_comm (a * (b / 2 ^ (j + 1))), Nat.add_assoc, Nat.mod_add_mod]
  congr 1
  generalize b / 2 ^ (j + 1) = t
  grind
theorem bit_u64 {b j : Nat} (hb : b < 18446744073709551616) : bits .and .u64 ((b : Int) / 2 ^ j) 1 = ((b / 2 ^ j % 2 : Nat) : Int) := by
  have h2 : (b : Int) / 2 ^ j = ((b / 2 ^ j : Nat) : Int) := by rw [Int.natCast_ediv]; simp
  have h3 : b / 2 ^ j ≤ b := Nat.div_le_self _ _
  rw [h2]
  generalize b / 2 ^ j = q at *
  rw [u64_and _ _ (by omega) (by omega) (by omega) (by omega)]
  show ((q &&& 1 : Nat) : Int) = _
  rw [Nat.and_one_is_mod]

set_option maxHeartbeats 1000000 in
theorem times_any (a b : Nat) (ha : a < 2305843009213693951) (hb : b < 2305843009213693951) (w : World) :
    Calls Try.prog 29 #[.int .u64 a, .int .u64 b] w fun e w' => e = .returned (.int .u64 ((a * b % 2305843009213693951 : Nat) : Int)) ∧ w = w' := by
  have hP : (2305843009213693951 : Int) = ((2305843009213693951 : Nat) : Int) := rfl
  have HP := Lib.hid hP
  clear hP
  have hs : Hid (a * (b / 2 ^ 61) % 2305843009213693951 = 0) := by
    show _ = _
    rw [Nat.div_eq_of_lt (by omega), Nat.mul_zero, Nat.zero_mod]
  go_enter Try.func29, Try.ntmps29
  go_wp2_with fail
  go_loop [5, 6] (fun s i => ∃ k : Nat, k ≤ 61 ∧ i = .int .i64 ((k : Int) - 1) ∧ s = .int .u64 ((a * (b / 2 ^ k) % 2305843009213693951 : Nat) : Int)) (fun _ i => (intOf i + 1).toNat)
  case atStart => exact ⟨61, by omega, rfl, by rw [hs.out]; rfl⟩
  case round =>
    obtain ⟨k, hk, rfl, rfl⟩ := hrel
    by_cases h0 : k = 0
    · subst h0
      go_wp2_with fail
      go_ret
      exact ⟨ret_int (by simp), rfl⟩
    · obtain ⟨j, rfl⟩ : ∃ j, k = j + 1 := ⟨k - 1, by omega⟩
      rw [show (((j + 1 : Nat) : Int) - 1) = (j : Int) by omega]
      obtain ⟨X, hX⟩ : ∃ X, X = a * (b / 2 ^ (j + 1)) % 2305843009213693951 := ⟨_, rfl⟩
      have hx : X < 2305843009213693951 := by rw [hX]; exact Nat.mod_lt _ (by omega)
      rw [← hX]
      have hb1 := bit_u64 (b := b) (j := j) (by omega)
      by_cases hbit : b / 2 ^ j % 2 = 1
      · have he := Lib.hid (times_1 (P := 2305843009213693951) (a := a) (b := b) (j := j) HP.out hbit)
        rw [← hX] at he
        rw [hbit, show ((1 : Nat) : Int) = 1 from rfl] at hb1
        clear hX hbit
        go_wp2_with fail
        (with_reducible refine (plus_any _ _ (by omega) (by omega) _).mono ?_); rintro e w' ⟨rfl, rfl⟩
        go_wp2_with fail
        (with_reducible refine (plus_any _ _ (by omega) (by omega) _).mono ?_); rintro e w' ⟨rfl, rfl⟩
        rw [he.out]
        clear hb1
        go_wp2_with fail
        go_round
        case rel => exact ⟨j, by omega, rfl, rfl⟩
        case measure => simp [intOf]
      · have hbit0 : b / 2 ^ j % 2 = 0 := by omega
        have he := Lib.hid (times_0 (P := 2305843009213693951) (a := a) (b := b) (j := j) HP.out hbit0)
        rw [← hX] at he
        rw [hbit0, show ((0 : Nat) : Int) = 0 from rfl] at hb1
        clear hX hbit hbit0
        go_wp2_with fail
        (with_reducible refine (plus_any _ _ (by omega) (by omega) _).mono ?_); rintro e w' ⟨rfl, rfl⟩
        rw [he.out]
        go_wp2_with fail
        go_round
        case rel => exact ⟨j, by omega, rfl, rfl⟩
        case measure => simp [intOf]

theorem times_I (a b : Int) (a0 : 0 ≤ a) (b0 : 0 ≤ b) (ha : a < 2305843009213693951) (hb : b < 2305843009213693951) (w : World) :
    Calls Try.prog 29 #[.int .u64 a, .int .u64 b] w fun e w' => e = .returned (.int .u64 ((a.toNat * b.toNat % 2305843009213693951 : Nat) : Int)) ∧ w = w' := by
  obtain ⟨x, rfl⟩ := Int.eq_ofNat_of_zero_le a0
  obtain ⟨y, rfl⟩ := Int.eq_ofNat_of_zero_le b0
  simp only [Int.toNat_natCast]
  exact times_any x y (by omega) (by omega) w

set_option maxHeartbeats 1000000 in
theorem printR_any (l : List Int) (hf : Byt l) (n : Nat) (hn : n = l.length) (hm : n ≤ 140737488355328) (A : Option Addr) (b c : Nat) (w : World) (ha : Ints .u8 w b A l) :
    Calls Try.prog 19 #[.slice A n c] w (U64Q (printN l) w) := by
  subst hn
  go_enter Try.func19, Try.ntmps19
  go_wp2_with fail
  go_loopw [3, 4] (fun s i wr => (∃ k : Nat, k ≤ l.length ∧ i = .int .i64 k ∧ s = .int .u64 (printN (l.take k) : Int)) ∧ ∃ m, wr = w.drewN m) (fun _ i _ => l.length - (intOf i).toNat)
  case atStart => exact ⟨⟨0, Nat.zero_le _, rfl, rfl⟩, 0, rfl⟩
  case round =>
    obtain ⟨⟨k, hk, rfl, rfl⟩, m, rfl⟩ := hrel
    by_cases hlt : k < l.length
    · obtain ⟨bb, oo, rfl, hc1⟩ := ha.at_ hlt
      obtain ⟨x0, x1⟩ := hf.ix_ hlt
      obtain ⟨wo, hwo⟩ : ∃ wo, wo = w.drewN m := ⟨_, rfl⟩
      have hc2 : wo.cell? ⟨bb, oo + k, none⟩ = some (.int .u8 (ix l k)) := by rw [hwo]; exact hc1
      rw [← hwo]
      have Hwo := Lib.hid hwo
      clear hwo hc1
      have hp := printN_lt (l.take k)
      obtain ⟨h, hh⟩ : ∃ h, h = printN (l.take k) := ⟨_, rfl⟩
      have hs := printN_snoc (l.take k) (ix l k)
      rw [← take_succ_ix hlt, ← hh] at hs
      rw [← hh] at hp ⊢
      have he : Hid (((h : Int) * 1000003 % 2305843009213693951 + (ix l k + 1)) % 2305843009213693951 = ((printN (l.take (k + 1)) : Nat) : Int)) := by
        show _ = _
        rw [hs]
        generalize printN (l.take (k + 1)) = r
        omega
      have Hh := Lib.hid hh
      clear hh hs
      have b1 : (0 : Int) ≤ (h : Int) := by omega
      have b2 : (h : Int) < 2305843009213693951 := by omega
      have cb : ∀ w, Calls Try.prog 28 #[.int .u64 h] w fun e w' => e = .returned (.int .u64 ((h : Int) * 1000003 % 2305843009213693951)) ∧ w' = w := fun w => (base_any h b1 b2 w).mono fun _ _ ⟨h1, h2⟩ => ⟨h1, h2.symm⟩
      have cp : ∀ w, Calls Try.prog 27 #[.int .u64 ((h : Int) * 1000003 % 2305843009213693951), .int .u64 (ix l k + 1)] w fun e w' => e = .returned (.int .u64 (((h : Int) * 1000003 % 2305843009213693951 + (ix l k + 1)) % 2305843009213693951)) ∧ w' = w := fun w => (plus_any _ _ (by omega) (by omega) w).mono fun _ _ ⟨h1, h2⟩ => ⟨h1, h2.symm⟩
      have Cb := Lib.hid cb
      have Cp := Lib.hid cp
      clear cb cp hp
      have t2 : (0 : Int) ≤ (k : Int) := by omega
      have t3 : (k : Int) < (l.length : Int) := by omega
      go_wp2_with fail
      have t4 : IntKind.u64.wrap (ix l k) = ix l k := by rw [IntKind.wrap_u64]; omega
      have t5 : IntKind.u64.wrap (ix l k + 1) = ix l k + 1 := by rw [IntKind.wrap_u64]; omega
      go_quiet ((first | (go_at_call 28; exact Calls.quiet_of_same (Cb.out _)) | (go_at_call 27; exact Calls.quiet_of_same (Cp.out _))))
      clear t4 t5
      go_wp2_with fail
      go_roundw
      case rel => exact ⟨⟨k + 1, by omega, by go_num, by rw [he.out]⟩, m + nq, by rw [Hwo.out]; exact World.drewN_drewN _ _ _⟩
      case measure => simp [intOf]; omega
    · have e : k = l.length := by omega
      subst e
      go_wp2_with fail
      go_ret
      exact ⟨ret_int (by rw [List.take_length]), m, rfl⟩
end Go.Proofs.Ytfdkodcnbjmlbaa
