/-
  The hash: step, Print, Power, Join of package sums and of the reference.
-/
import Derived.Test.YtfihbcpainlpcaaProg
import Derived.Test.YtfihbcpainlpcaaQSA
import Derived.Test.YtfihbcpainlpcaaQSP
import Derived.Test.YtfihbcpainlpcaaAB
import Derived.Test.YtfihbcpainlpcaaMD
import Derived.Laws.BitsAllLaws
namespace Go.Proofs.Ytfihbcpainlpcaa
open Go.RowKit
set_option linter.unusedVariables false
set_option linter.unusedSimpArgs false

def bn (l : List Int) : List Nat := l.map Int.toNat
theorem bn_append (a b : List Int) : bn (a ++ b) = bn a ++ bn b := by simp [bn]
theorem bn_len (a : List Int) : (bn a).length = a.length := by simp [bn]
def printN (l : List Int) : Nat := prN 2305843009213693951 1000003 (bn l) 0
def powerN (n : Nat) : Nat := pwN 2305843009213693951 1000003 n
def joinP (a b n : Nat) : Nat := joinN 2305843009213693951 1000003 a b n
theorem printN_lt (l : List Int) : printN l < 2305843009213693951 := prN_lt (by omega) _ _ (by omega)
theorem powerN_lt (n : Nat) : powerN n < 2305843009213693951 := pwN_lt (by omega) _
theorem joinP_lt (a b n : Nat) : joinP a b n < 2305843009213693951 := joinN_lt (by omega) _ _ _
theorem printN_nil : printN [] = 0 := rfl
theorem printN_snoc (l : List Int) (x : Int) : printN (l ++ [x]) = (printN l * 1000003 + (x.toNat + 1)) % 2305843009213693951 := by
  unfold printN; rw [bn_append]; exact prN_snoc _ _
theorem printN_join (a b : List Int) : printN (a ++ b) = joinP (printN a) (printN b) b.length := by
  unfold printN joinP
  rw [bn_append, prN_join (by omega), bn_len]

/-- step at any three numbers. -/
theorem step_I (a b c : Int) (a0 : 0 ≤ a) (b0 : 0 ≤ b) (c0 : 0 ≤ c) (ha : a < 2305843009213693951) (hb : b < 2305843009213693951) (hc : c < 2305843009213693951) (w : World) :
    Calls Try.prog 51 #[.int .u64 a, .int .u64 b, .int .u64 c] w fun e w' => e = .returned (.int .u64 (((a.toNat * b.toNat + c.toNat) % 2305843009213693951 : Nat) : Int)) ∧ ∃ n, w' = w.drewN n := by
  obtain ⟨x, rfl⟩ := Int.eq_ofNat_of_zero_le a0
  obtain ⟨y, rfl⟩ := Int.eq_ofNat_of_zero_le b0
  obtain ⟨z, rfl⟩ := Int.eq_ofNat_of_zero_le c0
  simp only [Int.toNat_natCast]
  exact step_any x y z (by omega) (by omega) (by omega) w

def U64Q (r : Nat) (w : World) (e : Ending) (w' : World) : Prop := e = .returned (.int .u64 (r : Int)) ∧ ∃ n, w' = w.drewN n

set_option maxHeartbeats 1000000 in
set_option maxRecDepth 100000 in
theorem printL_any (l : List Int) (hf : Byt l) (n : Nat) (hn : n = l.length) (hm : n ≤ 140737488355328) (A : Option Addr) (b c : Nat) (w : World) (ha : Ints .u8 w b A l) :
    Calls Try.prog 49 #[.slice A n c] w (U64Q (printN l) w) := by
  subst hn
  go_enter Try.func49, Try.ntmps49
  go_wp2_with fail
  go_loopw [3, 8] (fun s i wr => (∃ k : Nat, k ≤ l.length ∧ i = .int .i64 k ∧ s = .int .u64 (printN (l.take k) : Int)) ∧ ∃ m, wr = w.drewN m) (fun _ i _ => l.length - (intOf i).toNat)
  case atStart => exact ⟨⟨0, Nat.zero_le _, rfl, rfl⟩, 0, rfl⟩
  case round =>
    obtain ⟨⟨k, hk, rfl, rfl⟩, m, rfl⟩ := hrel
    by_cases hlt : k < l.length
    · obtain ⟨bb, oo, rfl, hc1⟩ := ha.at_ hlt
      obtain ⟨x0, x1⟩ := hf.ix_ hlt
      have hp := printN_lt (l.take k)
      have hp' : ((printN (l.take k) : Nat) : Int) < 2305843009213693951 := by omega
      have hs := Lib.hid (printN_snoc (l.take k) (ix l k))
      have ht := Lib.hid (take_succ_ix hlt)
      clear hp
      go_wp2_with fail
      (with_reducible refine (step_I _ _ _ (by omega) (by omega) (by omega) (by omega) (by omega) (by omega) _).mono ?_); rintro e w' ⟨rfl, q, rfl⟩
      have he : Hid ((((printN (l.take k) : Nat) : Int).toNat * (1000003 : Int).toNat + (ix l k + 1).toNat) % 2305843009213693951 = printN (l.take (k + 1))) := by
        show _ = _
        rw [ht.out, hs.out, Int.toNat_natCast, show (ix l k + 1).toNat = (ix l k).toNat + 1 by omega, show (1000003 : Int).toNat = 1000003 from rfl]
      rw [he.out]
      clear hp'
      go_wp2_with fail
      go_roundw
      case rel => exact ⟨⟨k + 1, by omega, by go_num, rfl⟩, m + q, rfl⟩
      case measure => simp [intOf]; omega
    · have e : k = l.length := by omega
      subst e
      go_wp2_with fail
      go_ret
      exact ⟨ret_int (by rw [List.take_length]), m, rfl⟩

theorem and1 (n : Int) : bits .and .i64 n 1 = n % 2 := i64_mask n 1 (by omega) 1 (by decide)

theorem plus_any (a b : Int) (h0 : 0 ≤ a + b) (h1 : a + b < 18446744073709551616) (w : World) :
    Calls Try.prog 63 #[.int .u64 a, .int .u64 b] w fun e w' => e = .returned (.int .u64 ((a + b) % 2305843009213693951)) ∧ w = w' := by
  go_enter Try.func63, Try.ntmps63
  go_wp2
  go_ret
  exact ⟨rfl, rfl⟩
theorem base_bits {x : Int} (h0 : 0 ≤ x) : bits .and .u64 (IntKind.u64.wrap (x * 1099511627776)) 2305843009213693951 = x % 2097152 * 1099511627776 := by
  rw [IntKind.wrap_u64, u64_and _ _ (by omega) (by omega) (by omega) (by omega), show (2305843009213693951 : Int).toNat = 2 ^ 61 - 1 from rfl, Nat.and_two_pow_sub_one_eq_mod]
  omega
theorem and40 {x : Int} (h0 : 0 ≤ x) (h1 : x < 18446744073709551616) : bits .and .u64 x 1099511627775 = x % 1099511627776 := by
  rw [u64_and _ _ h0 h1 (by omega) (by omega), show (1099511627775 : Int).toNat = 2 ^ 40 - 1 from rfl, Nat.and_two_pow_sub_one_eq_mod]
  omega
theorem base_any (a : Int) (h0 : 0 ≤ a) (h1 : a < 2305843009213693951) (w : World) :
    Calls Try.prog 64 #[.int .u64 a] w fun e w' => e = .returned (.int .u64 (a * 1000003 % 2305843009213693951)) ∧ w = w' := by
  have e1 := and40 h0 (by omega)
  have e2 := base_bits (x := a / 1099511627776 * 1000003) (by omega)
  have hend : Hid ((a % 1099511627776 * 1000003 % 2305843009213693951 + (a / 1099511627776 * 1000003 % 2097152 * 1099511627776 + a / 1099511627776 * 1000003 / 2097152) % 2305843009213693951) % 2305843009213693951 = a * 1000003 % 2305843009213693951) := by
    show _ = _; omega
  go_enter Try.func64, Try.ntmps64
  go_wp2_with fail
  (with_reducible refine (plus_any _ _ (by omega) (by omega) _).mono ?_); rintro e w' ⟨rfl, rfl⟩
  rw [hend.out]
  clear e1 e2
  go_wp2_with fail
  go_ret
  exact ⟨rfl, rfl⟩
end Go.Proofs.Ytfihbcpainlpcaa
