/-
  sample: Low, High, Fits of both.
-/
import Derived.Test.YtfihbcpainlpcaaProg
import Derived.Test.YtfihbcpainlpcaaR2
namespace Go.Proofs.Ytfihbcpainlpcaa
open Go.RowKit
set_option linter.unusedVariables false
set_option linter.unusedSimpArgs false

def okb (b : Int) : Bool := decide (1 ≤ b) && decide (b ≤ 31)
def lowI (b : Int) : Int := if okb b = true then -(2 ^ (b - 1).toNat) else 0
def highI (b : Int) : Int := if okb b = true then 2 ^ (b - 1).toNat - 1 else 0
def fitsB (x b : Int) : Bool := okb b && decide (lowI b ≤ x) && decide (x ≤ highI b)
theorem okb_true {b : Int} : okb b = true ↔ 1 ≤ b ∧ b ≤ 31 := by simp [okb]
theorem okb_no {b : Int} (h : ¬ (1 ≤ b ∧ b ≤ 31)) : okb b = false := by
  cases e : okb b with
  | false => rfl
  | true => exact absurd (okb_true.1 e) h
theorem low_no {b : Int} (h : okb b = false) : lowI b = 0 := by simp [lowI, h]
theorem high_no {b : Int} (h : okb b = false) : highI b = 0 := by simp [highI, h]

theorem p30 {k : Nat} (h : (k : Int) ≤ 30) : (1 : Int) ≤ 2 ^ k ∧ (2 : Int) ^ k ≤ 1073741824 := by
  have h1 : (1 : Nat) ≤ 2 ^ k := Nat.one_le_two_pow
  have h2 : (2 : Nat) ^ k ≤ 2 ^ 30 := Nat.pow_le_pow_right (by omega) (by omega)
  have e : ((2 ^ k : Nat) : Int) = 2 ^ k := by simp
  omega
theorem low_ok {k : Nat} (h : (k : Int) ≤ 30) : lowI ((k : Int) + 1) = -(2 ^ k) := by
  rw [lowI, if_pos (okb_true.2 ⟨by omega, by omega⟩), show ((k : Int) + 1 - 1).toNat = k by omega]
theorem high_ok {k : Nat} (h : (k : Int) ≤ 30) : highI ((k : Int) + 1) = 2 ^ k - 1 := by
  rw [highI, if_pos (okb_true.2 ⟨by omega, by omega⟩), show ((k : Int) + 1 - 1).toNat = k by omega]
theorem low_b (b : Int) : -1073741824 ≤ lowI b ∧ lowI b ≤ 0 := by
  unfold lowI; split
  · rename_i h; have := okb_true.1 h; have := p30 (k := (b - 1).toNat) (by omega); omega
  · omega
theorem high_b (b : Int) : 0 ≤ highI b ∧ highI b ≤ 1073741823 := by
  unfold highI; split
  · rename_i h; have := okb_true.1 h; have := p30 (k := (b - 1).toNat) (by omega); omega
  · omega

theorem lowL_any (b : Int) (w : World) : Calls Try.prog 53 #[.int .i64 b] w fun e w' => e = .returned (.int .i64 (lowI b)) ∧ w' = w := by
  by_cases h1 : b < 1
  · have hn := Lib.hid (low_no (okb_no (b := b) (by omega)))
    go_enter Try.func53, Try.ntmps53
    go_wp2
    go_ret
    exact ⟨by rw [hn.out]; rfl, rfl⟩
  · by_cases h2 : 31 < b
    · have hn := Lib.hid (low_no (okb_no (b := b) (by omega)))
      go_enter Try.func53, Try.ntmps53
      go_wp2
      go_ret
      exact ⟨by rw [hn.out]; rfl, rfl⟩
    · obtain ⟨k, rfl⟩ : ∃ k : Nat, b = (k : Int) + 1 := ⟨(b - 1).toNat, by omega⟩
      have hk : (k : Int) ≤ 30 := by omega
      have e1 : (k : Int) + 1 - 1 = (k : Int) := by omega
      have hp := p30 hk
      have hz := Lib.hid (low_ok hk)
      clear h1 h2
      go_enter Try.func53, Try.ntmps53
      go_wp2
      go_ret
      refine ⟨?_, rfl⟩
      rw [hz.out]
      generalize (2 : Int) ^ k = x at *
      simp [wrap64]
      try omega

theorem lowR_any (b : Int) (w : World) : Calls Try.prog 55 #[.int .i64 b] w fun e w' => e = .returned (.int .i64 (lowI b)) ∧ w' = w := by
  by_cases h1 : b < 1
  · have hn := Lib.hid (low_no (okb_no (b := b) (by omega)))
    go_enter Try.func55, Try.ntmps55
    go_wp2
    go_ret
    exact ⟨by rw [hn.out]; rfl, rfl⟩
  · by_cases h2 : 31 < b
    · have hn := Lib.hid (low_no (okb_no (b := b) (by omega)))
      go_enter Try.func55, Try.ntmps55
      go_wp2
      go_ret
      exact ⟨by rw [hn.out]; rfl, rfl⟩
    · obtain ⟨k, rfl⟩ : ∃ k : Nat, b = (k : Int) + 1 := ⟨(b - 1).toNat, by omega⟩
      have hk : (k : Int) ≤ 30 := by omega
      have e1 : (k : Int) + 1 - 1 = (k : Int) := by omega
      have hp := p30 hk
      have hz := Lib.hid (low_ok hk)
      clear h1 h2
      go_enter Try.func55, Try.ntmps55
      go_wp2
      go_ret
      refine ⟨?_, rfl⟩
      rw [hz.out]
      generalize (2 : Int) ^ k = x at *
      simp [wrap64]
      try omega

theorem highL_any (b : Int) (w : World) : Calls Try.prog 54 #[.int .i64 b] w fun e w' => e = .returned (.int .i64 (highI b)) ∧ w' = w := by
  by_cases h1 : b < 1
  · have hn := Lib.hid (high_no (okb_no (b := b) (by omega)))
    go_enter Try.func54, Try.ntmps54
    go_wp2
    go_ret
    exact ⟨by rw [hn.out]; rfl, rfl⟩
  · by_cases h2 : 31 < b
    · have hn := Lib.hid (high_no (okb_no (b := b) (by omega)))
      go_enter Try.func54, Try.ntmps54
      go_wp2
      go_ret
      exact ⟨by rw [hn.out]; rfl, rfl⟩
    · obtain ⟨k, rfl⟩ : ∃ k : Nat, b = (k : Int) + 1 := ⟨(b - 1).toNat, by omega⟩
      have hk : (k : Int) ≤ 30 := by omega
      have e1 : (k : Int) + 1 - 1 = (k : Int) := by omega
      have hp := p30 hk
      have hz := Lib.hid (high_ok hk)
      clear h1 h2
      go_enter Try.func54, Try.ntmps54
      go_wp2
      go_ret
      refine ⟨?_, rfl⟩
      rw [hz.out]
      generalize (2 : Int) ^ k = x at *
      simp [wrap64]
      try omega

theorem highR_any (b : Int) (w : World) : Calls Try.prog 56 #[.int .i64 b] w fun e w' => e = .returned (.int .i64 (highI b)) ∧ w' = w := by
  by_cases h1 : b < 1
  · have hn := Lib.hid (high_no (okb_no (b := b) (by omega)))
    go_enter Try.func56, Try.ntmps56
    go_wp2
    go_ret
    exact ⟨by rw [hn.out]; rfl, rfl⟩
  · by_cases h2 : 31 < b
    · have hn := Lib.hid (high_no (okb_no (b := b) (by omega)))
      go_enter Try.func56, Try.ntmps56
      go_wp2
      go_ret
      exact ⟨by rw [hn.out]; rfl, rfl⟩
    · obtain ⟨k, rfl⟩ : ∃ k : Nat, b = (k : Int) + 1 := ⟨(b - 1).toNat, by omega⟩
      have hk : (k : Int) ≤ 30 := by omega
      have e1 : (k : Int) + 1 - 1 = (k : Int) := by omega
      have hp := p30 hk
      have hz := Lib.hid (high_ok hk)
      clear h1 h2
      go_enter Try.func56, Try.ntmps56
      go_wp2
      go_ret
      refine ⟨?_, rfl⟩
      rw [hz.out]
      generalize (2 : Int) ^ k = x at *
      simp [wrap64]
      try omega

theorem fitsL_any (x b : Int) (w : World) : Calls Try.prog 39 #[.int .i64 x, .int .i64 b] w fun e w' => e = .returned (.bool (fitsB x b)) ∧ w' = w := by
  by_cases h1 : 1 ≤ b
  · by_cases h2 : b ≤ 31
    · have hb := Lib.hid (okb_true.2 ⟨h1, h2⟩)
      go_enter Try.func39, Try.ntmps39
      by_cases h3 : lowI b ≤ x
      · by_cases h4 : x ≤ highI b
        all_goals
          go_wp2_with (first | ((with_reducible refine (lowL_any _ _).mono ?_); rintro e w' ⟨rfl, rfl⟩) | ((with_reducible refine (highL_any _ _).mono ?_); rintro e w' ⟨rfl, rfl⟩))
          go_ret
          refine ⟨?_, rfl⟩
          simp [fitsB, hb.out, *]
      · go_wp2_with (first | ((with_reducible refine (lowL_any _ _).mono ?_); rintro e w' ⟨rfl, rfl⟩) | ((with_reducible refine (highL_any _ _).mono ?_); rintro e w' ⟨rfl, rfl⟩))
        go_ret
        refine ⟨?_, rfl⟩
        have h5 : decide (lowI b ≤ x) = false := decide_eq_false (by omega)
        simp [fitsB, hb.out, h5]
    · have hb := Lib.hid (okb_no (b := b) (by omega))
      go_enter Try.func39, Try.ntmps39
      go_wp2
      go_ret
      refine ⟨?_, rfl⟩
      simp [fitsB, hb.out]
  · have hb := Lib.hid (okb_no (b := b) (by omega))
    go_enter Try.func39, Try.ntmps39
    go_wp2
    go_ret
    refine ⟨?_, rfl⟩
    simp [fitsB, hb.out]

theorem fitsR_any (x b : Int) (w : World) : Calls Try.prog 40 #[.int .i64 x, .int .i64 b] w fun e w' => e = .returned (.bool (fitsB x b)) ∧ w' = w := by
  by_cases h1 : 1 ≤ b
  · by_cases h2 : b ≤ 31
    · have hb := Lib.hid (okb_true.2 ⟨h1, h2⟩)
      go_enter Try.func40, Try.ntmps40
      by_cases h3 : lowI b ≤ x
      · by_cases h4 : x ≤ highI b
        all_goals
          go_wp2_with (first | ((with_reducible refine (lowR_any _ _).mono ?_); rintro e w' ⟨rfl, rfl⟩) | ((with_reducible refine (highR_any _ _).mono ?_); rintro e w' ⟨rfl, rfl⟩))
          go_ret
          refine ⟨?_, rfl⟩
          simp [fitsB, hb.out, *]
      · go_wp2_with (first | ((with_reducible refine (lowR_any _ _).mono ?_); rintro e w' ⟨rfl, rfl⟩) | ((with_reducible refine (highR_any _ _).mono ?_); rintro e w' ⟨rfl, rfl⟩))
        go_ret
        refine ⟨?_, rfl⟩
        have h5 : decide (lowI b ≤ x) = false := decide_eq_false (by omega)
        simp [fitsB, hb.out, h5]
    · have hb := Lib.hid (okb_no (b := b) (by omega))
      go_enter Try.func40, Try.ntmps40
      go_wp2
      go_ret
      refine ⟨?_, rfl⟩
      simp [fitsB, hb.out]
  · have hb := Lib.hid (okb_no (b := b) (by omega))
    go_enter Try.func40, Try.ntmps40
    go_wp2
    go_ret
    refine ⟨?_, rfl⟩
    simp [fitsB, hb.out]
end Go.Proofs.Ytfihbcpainlpcaa
