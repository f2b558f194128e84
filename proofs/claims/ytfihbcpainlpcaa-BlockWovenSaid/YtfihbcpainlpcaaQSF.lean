/-
  The hash: Power and Join, of package sums and of the reference.
-/
import Derived.Test.YtfihbcpainlpcaaProg
import Derived.Test.YtfihbcpainlpcaaQSE
namespace Go.Proofs.Ytfihbcpainlpcaa
open Go.RowKit
set_option linter.unusedVariables false
set_option linter.unusedSimpArgs false

theorem stepM (p s : Nat) (hp : p < 2305843009213693951) (hs : s < 2305843009213693951) (w : World) :
    Calls Try.prog 51 #[.int .u64 p, .int .u64 s, .int .u64 0] w (U64Q ((p * s + 0) % 2305843009213693951) w) :=
  step_any p s 0 hp hs (by omega) w
theorem pow_odd {P p s m : Nat} (h : m % 2 = 1) : powTo P ((p * s + 0) % P) ((s * s + 0) % P) (m / 2) = powTo P p s m := by
  have := powTo_half (P := P) p s m; rwa [if_pos h] at this
theorem pow_even {P p s m : Nat} (h : ¬ m % 2 = 1) : powTo P p ((s * s + 0) % P) (m / 2) = powTo P p s m := by
  have := powTo_half (P := P) p s m; rwa [if_neg h] at this
/-- what holds at a round's head of Power. -/
def PowR (N m p s : Nat) : Prop := p < 2305843009213693951 ∧ s < 2305843009213693951 ∧ powTo 2305843009213693951 p s m = powerN N
theorem powR_start (N : Nat) : PowR N N 1 1000003 := ⟨by omega, by omega, powTo_start N⟩
theorem powR_odd {N m p s : Nat} (h : PowR N m p s) (hm : m % 2 = 1) : PowR N (m / 2) ((p * s + 0) % 2305843009213693951) ((s * s + 0) % 2305843009213693951) :=
  ⟨Nat.mod_lt _ (by omega), Nat.mod_lt _ (by omega), (pow_odd hm).trans h.2.2⟩
theorem powR_even {N m p s : Nat} (h : PowR N m p s) (hm : ¬ m % 2 = 1) : PowR N (m / 2) p ((s * s + 0) % 2305843009213693951) :=
  ⟨h.1, Nat.mod_lt _ (by omega), (pow_even hm).trans h.2.2⟩
theorem powR_end {N p s : Nat} (h : PowR N 0 p s) : powerN N = p := by rw [← h.2.2]; exact powTo_zero p s h.1

set_option maxHeartbeats 1000000 in
theorem powerL_nat (N : Nat) (nI : Int) (hn : (if nI < 0 then 0 else nI) = (N : Int)) (hN : (N : Int) ≤ 9223372036854775807) (w : World) :
    Calls Try.prog 52 #[.int .i64 nI] w (U64Q (powerN N) w) := by
  go_enter Try.func52, Try.ntmps52
  go_wp2_with fail
  clear hn
  go_loopw [0, 3, 4] (fun nv pv sv wr => (∃ m p s : Nat, m ≤ N ∧ nv = .int .i64 m ∧ pv = .int .u64 p ∧ sv = .int .u64 s ∧ PowR N m p s) ∧ ∃ q, wr = w.drewN q) (fun nv _ _ _ => (intOf nv).toNat)
  case atStart => exact ⟨⟨N, 1, 1000003, Nat.le_refl _, rfl, rfl, rfl, powR_start N⟩, 0, rfl⟩
  case round =>
    obtain ⟨⟨m, p, s, hm, rfl, rfl, rfl, hr⟩, q, rfl⟩ := hrel
    have hr' := Lib.hid hr
    obtain ⟨hp, hs, _⟩ := hr
    by_cases h0 : m = 0
    · subst h0
      go_wp2_with fail
      go_ret
      exact ⟨ret_int (by rw [powR_end hr'.out]), q, rfl⟩
    · have h0I : (0 : Int) < (m : Int) := by omega
      by_cases h1 : m % 2 = 1
      · have ht : ((m : Int) % 2 == 1) = true := beq_iff_eq.2 (by omega)
        have hn := Lib.hid (powR_odd hr'.out h1)
        clear h1 h0
        go_wp2_with fail
        (with_reducible refine (stepM _ _ hp hs _).mono ?_); rintro e w' ⟨rfl, q2, rfl⟩
        obtain ⟨p2, hp2⟩ : ∃ p2, p2 = (p * s + 0) % 2305843009213693951 := ⟨_, rfl⟩
        rw [← hp2] at hn ⊢
        clear hp2
        go_wp2_with fail
        (with_reducible refine (stepM _ _ hs hs _).mono ?_); rintro e w' ⟨rfl, q3, rfl⟩
        obtain ⟨s2, hs2⟩ : ∃ s2, s2 = (s * s + 0) % 2305843009213693951 := ⟨_, rfl⟩
        rw [← hs2] at hn ⊢
        clear hs2
        go_wp2_with fail
        go_roundw
        case rel => exact ⟨⟨m / 2, p2, s2, by omega, by go_num, rfl, rfl, hn.out⟩, q + q2 + q3, rfl⟩
        case measure => simp [intOf]; omega
      · have ht : ((m : Int) % 2 == 1) = false := beq_eq_false_iff_ne.2 (by omega)
        have hn := Lib.hid (powR_even hr'.out h1)
        clear h1 h0
        go_wp2_with fail
        (with_reducible refine (stepM _ _ hs hs _).mono ?_); rintro e w' ⟨rfl, q3, rfl⟩
        obtain ⟨s2, hs2⟩ : ∃ s2, s2 = (s * s + 0) % 2305843009213693951 := ⟨_, rfl⟩
        rw [← hs2] at hn ⊢
        clear hs2
        go_wp2_with fail
        go_roundw
        case rel => exact ⟨⟨m / 2, p, s2, by omega, by go_num, rfl, rfl, hn.out⟩, q + q3, rfl⟩
        case measure => simp [intOf]; omega
theorem powerL_any (n : Int) (hn : n ≤ 9223372036854775807) (w : World) : Calls Try.prog 52 #[.int .i64 n] w (U64Q (powerN n.toNat) w) := by
  refine powerL_nat n.toNat n ?_ (by omega) w
  split <;> omega

def JoinQ (r : Nat) (ok : Bool) (w : World) (e : Ending) (w' : World) : Prop := e = .returned (.tuple #[.int .u64 (r : Int), .bool ok]) ∧ ∃ n, w' = w.drewN n
theorem ge_no {a : Nat} (h : a < 2305843009213693951) : decide ((2305843009213693951 : Int) ≤ (a : Int)) = false := decide_eq_false (by omega)
theorem ge_yes {a : Nat} (h : ¬ a < 2305843009213693951) : decide ((2305843009213693951 : Int) ≤ (a : Int)) = true := decide_eq_true (by omega)
set_option maxRecDepth 100000 in
theorem joinL_ok (a b : Nat) (n : Int) (ha : a < 2305843009213693951) (hb : b < 2305843009213693951) (hn0 : 0 ≤ n) (hn : n ≤ 9223372036854775807) (w : World) :
    Calls Try.prog 37 #[.int .u64 a, .int .u64 b, .int .i64 n] w (JoinQ (joinP a b n.toNat) true w) := by
  have hp := Lib.hid (powerN_lt n.toNat)
  have g1 := ge_no ha
  have g2 := ge_no hb
  have ha' := Lib.hid ha
  have hb' := Lib.hid hb
  have hn' := Lib.hid hn
  clear ha hb hn
  go_enter Try.func37, Try.ntmps37
  go_wp2_with fail
  (with_reducible refine (powerL_any _ hn'.out _).mono ?_); rintro e w' ⟨rfl, q, rfl⟩
  go_wp2_with fail
  (with_reducible refine (step_any _ _ _ ha'.out hp.out hb'.out _).mono ?_); rintro e w' ⟨rfl, q2, rfl⟩
  obtain ⟨r, hr⟩ : ∃ r, r = (a * powerN n.toNat + b) % 2305843009213693951 := ⟨_, rfl⟩
  rw [← hr]
  have Hr := Lib.hid hr
  clear hr
  go_wp2_with fail
  go_ret2
  exact ⟨by rw [Hr.out]; rfl, q + q2, rfl⟩

section
variable (l : List Int) (hf : Byt l) (n : Nat) (hn : n = l.length) (hm : n ≤ 140737488355328) (A : Option Addr) (b c : Nat) (w : World) (ha : Ints .u8 w b A l)
include hf hn hm ha
theorem printL_q : Calls Try.prog 49 #[.slice A n c] w fun e w' => e = .returned (.int .u64 (printN l : Int)) ∧ Below w.heap.size w w' :=
  (printL_any l hf n hn hm A b c w ha).mono fun e w' ⟨h, n, hw⟩ => ⟨h, by rw [hw]; exact below_drewN (brefl w) n⟩
theorem printR_q : Calls Try.prog 50 #[.slice A n c] w fun e w' => e = .returned (.int .u64 (printN l : Int)) ∧ Below w.heap.size w w' :=
  (printR_any l hf n hn hm A b c w ha).mono fun e w' ⟨h, n, hw⟩ => ⟨h, by rw [hw]; exact below_drewN (brefl w) n⟩
end
theorem joinL_q (a b : Nat) (n : Int) (ha : a < 2305843009213693951) (hb : b < 2305843009213693951) (hn0 : 0 ≤ n) (hn : n ≤ 9223372036854775807) (w : World) :
    Calls Try.prog 37 #[.int .u64 a, .int .u64 b, .int .i64 n] w fun e w' => e = .returned (.tuple #[.int .u64 (joinP a b n.toNat : Int), .bool true]) ∧ Below w.heap.size w w' :=
  (joinL_ok a b n ha hb hn0 hn w).mono fun e w' ⟨h, q, hw⟩ => ⟨h, by rw [hw]; exact below_drewN (brefl w) q⟩
end Go.Proofs.Ytfihbcpainlpcaa
