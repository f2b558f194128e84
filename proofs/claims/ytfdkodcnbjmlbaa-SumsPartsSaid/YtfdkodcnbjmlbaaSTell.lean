/-
  SumsTell, SumsJoins, SumsPowers: the walks of the laws.
-/
import Derived.Test.YtfdkodcnbjmlbaaProg
import Derived.Test.YtfdkodcnbjmlbaaSG
namespace Go.Proofs.Ytfdkodcnbjmlbaa
open Go.RowKit

theorem tell_any (l : List Int) (_hm : l.length ≤ 9223372036854775807) (A : Option Addr) (c : Nat) (w : World) (ha : Ints .u8 w w.heap.size A l) (f : Fit .u8 l) :
    Calls Try.prog 3 #[.slice A l.length c] w fun e w' => e = .returned (.bool true) ∧ Below w.heap.size w w' := by
  by_cases q1 : 1500 < l.length
  · have hI : (1500 : Int) < (l.length : Int) := by omega
    go_enter Try.func3, Try.ntmps3
    go_wp2_with fail
    (with_reducible refine (known_any _).mono ?_); rintro e w1 ⟨rfl, b1⟩
    go_wp2_with fail
    go_ret
    exact ⟨rfl, b1⟩
  have q1I : (l.length : Int) ≤ 1500 := by omega
  have hf := Lib.hid (byt_of f)
  go_enter Try.func3, Try.ntmps3
  go_wp2_with fail
  (with_reducible refine (known_any _).mono ?_); rintro e w1 ⟨rfl, b1⟩
  have ha1 := Lib.hid (ha.below b1)
  have B1 := Lib.hid b1
  clear b1
  go_wp2_with fail
  (with_reducible refine (eightL_any l hf.out _ rfl (by omega) _ _ _ _ ha1.out).mono ?_); rintro e w' ⟨rfl, rfl⟩
  go_wp2_with fail
  (with_reducible refine (eightR_any l hf.out _ rfl (by omega) _ _ _ _ ha1.out).mono ?_); rintro e w' ⟨rfl, rfl⟩
  go_wp2_with fail
  (with_reducible refine (sixteenL_any l hf.out _ rfl (by omega) _ _ _ _ ha1.out).mono ?_); rintro e w' ⟨rfl, rfl⟩
  go_wp2_with fail
  (with_reducible refine (sixteenR_any l hf.out _ rfl (by omega) _ _ _ _ ha1.out).mono ?_); rintro e w' ⟨rfl, rfl⟩
  go_wp2_with fail
  (with_reducible refine (thirtyL_any l hf.out _ rfl (by omega) _ _ _ _ ha1.out).mono ?_); rintro e w' ⟨rfl, rfl⟩
  go_wp2_with fail
  (with_reducible refine (thirtyR_any l hf.out _ rfl (by omega) _ _ _ _ ha1.out).mono ?_); rintro e w' ⟨rfl, rfl⟩
  go_wp2_with fail
  (with_reducible refine (printL_q l hf.out _ rfl (by omega) _ _ _ _ ha1.out).mono ?_); rintro e w2 ⟨rfl, b2⟩
  have B2 := Lib.hid (bth B1.out b2)
  have ha2 := Lib.hid (ha.below B2.out)
  clear b2
  go_wp2_with fail
  (with_reducible refine (printR_q l hf.out _ rfl (by omega) _ _ _ _ ha2.out).mono ?_); rintro e w3 ⟨rfl, b3⟩
  have B3 := Lib.hid (bth B2.out b3)
  clear b3
  go_wp2_with fail
  go_ret
  exact ⟨rfl, B3.out⟩

theorem powerR_q (n : Int) (hn : n ≤ 9223372036854775807) (w : World) : Calls Try.prog 23 #[.int .i64 n] w fun e w' => e = .returned (.int .u64 (powerN n.toNat : Int)) ∧ Below w.heap.size w w' :=
  (powerR_any n hn w).mono fun e w' ⟨h, hw⟩ => ⟨h, by rw [← hw]; exact brefl w⟩
theorem joinL_I (a b n : Int) (a0 : 0 ≤ a) (b0 : 0 ≤ b) (hn : n ≤ 9223372036854775807) (w : World) : Calls Try.prog 20 #[.int .u64 a, .int .u64 b, .int .i64 n] w (JoinB a.toNat b.toNat n w) := by
  obtain ⟨x, rfl⟩ := Int.eq_ofNat_of_zero_le a0
  obtain ⟨y, rfl⟩ := Int.eq_ofNat_of_zero_le b0
  exact joinL_any x y n hn w
theorem joinR_I (a b n : Int) (a0 : 0 ≤ a) (b0 : 0 ≤ b) (hn : n ≤ 9223372036854775807) (w : World) : Calls Try.prog 21 #[.int .u64 a, .int .u64 b, .int .i64 n] w (JoinB a.toNat b.toNat n w) := by
  obtain ⟨x, rfl⟩ := Int.eq_ofNat_of_zero_le a0
  obtain ⟨y, rfl⟩ := Int.eq_ofNat_of_zero_le b0
  exact joinR_any x y n hn w

set_option maxHeartbeats 1000000 in
theorem joins_any (a b n : Int) (s : Bool) (w : World) (fa : (Lit.int .u64 a).wf = true) (fb : (Lit.int .u64 b).wf = true) (_fn : (Lit.int .i64 n).wf = true) :
    Calls Try.prog 4 #[.int .u64 a, .int .u64 b, .int .i64 n, .bool s] w fun e w' => e = .returned (.bool true) ∧ Below w.heap.size w w' := by
  have m3 : IntKind.u64.min = 0 := by decide
  have a0 : 0 ≤ a := by simp [Lit.wf, m3] at fa; omega
  have b0 : 0 ≤ b := by simp [Lit.wf, m3] at fb; omega
  clear fa fb m3
  by_cases q1 : 1099511627776 < n
  · go_enter Try.func4, Try.ntmps4
    go_wp2_with fail
    (with_reducible refine (known_any _).mono ?_); rintro e w1 ⟨rfl, b1⟩
    go_wp2_with fail
    go_ret
    exact ⟨rfl, b1⟩
  have q1' : n ≤ 1099511627776 := by omega
  clear q1
  have key : ∀ (a' b' : Int), 0 ≤ a' → 0 ≤ b' → ((joinB a'.toNat b'.toNat n == joinB a'.toNat b'.toNat n) = true) := fun _ _ _ _ => by simp
  cases s with
  | true =>
    go_enter Try.func4, Try.ntmps4
    go_wp2_with fail
    (with_reducible refine (known_any _).mono ?_); rintro e w1 ⟨rfl, b1⟩
    have B1 := Lib.hid b1
    clear b1
    go_wp2_with fail
    (with_reducible refine (joinL_I _ _ _ (by omega) (by omega) (by omega) _).mono ?_); rintro e w2 ⟨rfl, b2⟩
    have B2 := Lib.hid (bth B1.out b2)
    clear b2
    go_wp2_with fail
    (with_reducible refine (joinR_I _ _ _ (by omega) (by omega) (by omega) _).mono ?_); rintro e w3 ⟨rfl, b3⟩
    have B3 := Lib.hid (bth B2.out b3)
    clear b3
    go_wp2_with fail
    (with_reducible refine (powerL_q _ (by omega) _).mono ?_); rintro e w4 ⟨rfl, b4⟩
    have B4 := Lib.hid (bth B3.out b4)
    clear b4
    go_wp2_with fail
    (with_reducible refine (powerR_q _ (by omega) _).mono ?_); rintro e w5 ⟨rfl, b5⟩
    have B5 := Lib.hid (bth B4.out b5)
    clear b5
    go_wp2_with fail
    go_ret
    exact ⟨rfl, B5.out⟩
  | false =>
    go_enter Try.func4, Try.ntmps4
    go_wp2_with fail
    (with_reducible refine (known_any _).mono ?_); rintro e w1 ⟨rfl, b1⟩
    have B1 := Lib.hid b1
    clear b1
    go_wp2_with fail
    (with_reducible refine (joinL_I _ _ _ (by omega) (by omega) (by omega) _).mono ?_); rintro e w2 ⟨rfl, b2⟩
    have B2 := Lib.hid (bth B1.out b2)
    clear b2
    go_wp2_with fail
    (with_reducible refine (joinR_I _ _ _ (by omega) (by omega) (by omega) _).mono ?_); rintro e w3 ⟨rfl, b3⟩
    have B3 := Lib.hid (bth B2.out b3)
    clear b3
    go_wp2_with fail
    (with_reducible refine (powerL_q _ (by omega) _).mono ?_); rintro e w4 ⟨rfl, b4⟩
    have B4 := Lib.hid (bth B3.out b4)
    clear b4
    go_wp2_with fail
    (with_reducible refine (powerR_q _ (by omega) _).mono ?_); rintro e w5 ⟨rfl, b5⟩
    have B5 := Lib.hid (bth B4.out b5)
    clear b5
    go_wp2_with fail
    go_ret
    exact ⟨rfl, B5.out⟩
end Go.Proofs.Ytfdkodcnbjmlbaa
