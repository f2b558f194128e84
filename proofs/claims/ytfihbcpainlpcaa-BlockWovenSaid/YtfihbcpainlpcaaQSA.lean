/-
  math/bits: Mul64, Add64, Len64 and LeadingZeros64 at the hash's modulus, Div64 and Rem64 by that modulus.
-/
import Derived.Test.YtfihbcpainlpcaaProg
import Derived.Test.YtfihbcpainlpcaaK
import Derived.Shelf.Bits.Mul64
import Derived.Laws.Externs
import Derived.Laws.BitsAllLaws
import Derived.Deep.LoopGhost
import Derived.Deep.DeepCutAuto
import Derived.Deep.CutBlock
import Derived.Outline
namespace Go.Proofs.Ytfihbcpainlpcaa
open Go.RowKit Go.Lib
set_option linter.unusedVariables false
set_option linter.unusedSimpArgs false

set_option maxHeartbeats 1000000 in
theorem mul64_any (x y : Nat) (hx : x < 18446744073709551616) (hy : y < 18446744073709551616) (w : World) :
    Calls Try.prog 65 #[.int .u64 x, .int .u64 y] w fun e w' => e = .returned (.tuple #[.int .u64 ((x * y / 18446744073709551616 : Nat) : Int), .int .u64 ((x * y % 18446744073709551616 : Nat) : Int)]) ∧ w = w' := by
  obtain ⟨bd, bt, bw, hhi⟩ := Lib.mul64_hi x y hx hy
  have ba := Lib.half_mul_le (a := x / 4294967296) (b := y / 4294967296) (by omega) (by omega)
  have bb := Lib.half_mul_le (a := x / 4294967296) (b := y % 4294967296) (by omega) (by omega)
  have bc := Lib.half_mul_le (a := x % 4294967296) (b := y / 4294967296) (by omega) (by omega)
  have ba' : x / 4294967296 * (y / 4294967296) < 18446744073709551616 := by omega
  have bb' : x / 4294967296 * (y % 4294967296) < 18446744073709551616 := by omega
  have bc' : x % 4294967296 * (y / 4294967296) < 18446744073709551616 := by omega
  have bh1 : x / 4294967296 * (y / 4294967296) + (x / 4294967296 * (y % 4294967296) + x % 4294967296 * (y % 4294967296) / 4294967296) / 4294967296 < 18446744073709551616 := by omega
  have bh : x / 4294967296 * (y / 4294967296) + (x / 4294967296 * (y % 4294967296) + x % 4294967296 * (y % 4294967296) / 4294967296) / 4294967296 + ((x / 4294967296 * (y % 4294967296) + x % 4294967296 * (y % 4294967296) / 4294967296) % 4294967296 + x % 4294967296 * (y / 4294967296)) / 4294967296 < 18446744073709551616 := by omega
  go_enter Try.func65, Try.ntmps65
  go_wp2
  simp only [Mul64.maskN x hx, Mul64.maskN y hy, Mul64.divN, Mul64.mulN, Mul64.addN, Mul64.wrapN _ bd, Mul64.wrapN _ bb', Mul64.wrapN _ bt, Mul64.maskN _ bt, Mul64.wrapN _ bc', Mul64.wrapN _ bw, Mul64.wrapN _ ba', Mul64.wrapN _ bh1, Mul64.wrapN _ bh, Mul64.wrapM (x * y)]
  rw [hhi]
  go_ret2
  exact ⟨rfl, rfl⟩

theorem run_add (x y : Int) (hx : 0 ≤ x) (hy : 0 ≤ y) (w : World) :
    (callFunc 66 #[.int .u64 x, .int .u64 y, .int .u64 0]).run Try.prog w =
      .ok (.value (.tuple #[.int .u64 ((x + y) % 18446744073709551616), .int .u64 ((x + y) / 18446744073709551616)])) w := by
  rw [run_callFunc_extern Try.func66 (by kernel_rfl) (by kernel_rfl) (by kernel_rfl) (e := add64Entry) (by kernel_rfl), run_add64 x y 0 hx hy (by omega) (by omega)]
  simp only [Result.andThen, Int.add_zero]

set_option maxRecDepth 100000 in
theorem len64P (w : World) : Calls Try.prog 71 #[.int .u64 2305843009213693951] w fun e w' => e = .returned (.int .i64 61) ∧ w = w' := by
  go_enter Try.func71, Try.ntmps71
  go_wp2
  go_ret
  exact ⟨by kernel_rfl, rfl⟩
theorem lead64P (w : World) : Calls Try.prog 70 #[.int .u64 2305843009213693951] w fun e w' => e = .returned (.int .i64 3) ∧ w = w' := by
  go_enter Try.func70, Try.ntmps70
  go_wp2_with fail
  (with_reducible refine (len64P _).mono ?_); rintro e w' ⟨rfl, rfl⟩
  go_wp2_with fail
  go_ret
  exact ⟨rfl, rfl⟩


theorem or_hl {hi lo : Int} (h0 : 0 ≤ hi) (h1 : hi < 2305843009213693951) (l0 : 0 ≤ lo) (l1 : lo < 18446744073709551616) :
    bits .or .u64 (hi * 8) (lo / 2305843009213693952) = hi * 8 + lo / 2305843009213693952 := by
  rw [u64_or _ _ (by omega) (by omega) (by omega) (by omega), nat_join 3 _ _ (by omega) (by omega)]
  omega
theorem and_32 {x : Int} (h0 : 0 ≤ x) (h1 : x < 18446744073709551616) : bits .and .u64 x 4294967295 = x % 4294967296 := by
  rw [u64_and _ _ h0 h1 (by omega) (by omega), show (4294967295 : Int).toNat = 2 ^ 32 - 1 from rfl, Nat.and_two_pow_sub_one_eq_mod]
  omega
theorem ret2_int {a b c : Int} (h : b = c) : Ending.returned (.tuple #[.int .u64 a, .int .u64 b]) = .returned (.tuple #[.int .u64 a, .int .u64 c]) := by rw [h]

def DivQ (r : Int) (w : World) (e : Ending) (w' : World) : Prop := ∃ q, e = .returned (.tuple #[.int .u64 q, .int .u64 r]) ∧ ∃ n, w' = w.drewN n
set_option maxRecDepth 100000 in
theorem div64P_0 (lo : Int) (l0 : 0 ≤ lo) (l1 : lo < 18446744073709551616) (w : World) :
    Calls Try.prog 69 #[.int .u64 0, .int .u64 lo, .int .u64 2305843009213693951] w (DivQ (lo % 2305843009213693951) w) := by
  go_enter Try.func69, Try.ntmps69
  go_wp2_with fail
  go_quiet (fail)
  go_wp2_with fail
  go_ret2
  exact ⟨_, rfl, _, rfl⟩

/-- one step of the long division: what holds of the digit and the rest at a round's head. -/
def DigP (U X a b : Int) : Prop := 0 ≤ a ∧ a ≤ 4294967296 ∧ 0 ≤ b ∧ b < 4294967296 ∧ a * 4294967295 + b = U ∧ U * 4294967296 + X < (a + 1) * 18446744073709551608
theorem dig_start {U X : Int} (u0 : 0 ≤ U) (u1 : U < 18446744073709551608) (x1 : X < 4294967296) : DigP U X (U / 4294967295) (U - U / 4294967295 * 4294967295) := by
  refine ⟨by omega, by omega, by omega, by omega, by omega, by omega⟩
theorem dig_next {U X a b : Int} (u1 : U < 18446744073709551608) (x1 : X < 4294967296) (h : DigP U X a b) (hc : 4294967296 ≤ a ∨ 4294967296 * b + X < a * 4294967288) (x0 : 0 ≤ X) :
    1 ≤ a ∧ (a - 1) * 4294967295 + (b + 4294967295) = U ∧ U * 4294967296 + X < (a - 1 + 1) * 18446744073709551608 := by
  obtain ⟨h1, h2, h3, h4, h5, h6⟩ := h
  refine ⟨by omega, by omega, by omega⟩
def DigE (U X a : Int) : Prop := 0 ≤ a ∧ a ≤ 4294967296 ∧ 0 ≤ U * 4294967296 + X - a * 18446744073709551608 ∧ U * 4294967296 + X - a * 18446744073709551608 < 18446744073709551608
theorem dig_out {U X a b : Int} (h : DigP U X a b) (h1 : a < 4294967296) (h2 : a * 4294967288 ≤ 4294967296 * b + X) : DigE U X a := by
  obtain ⟨g1, g2, g3, g4, g5, g6⟩ := h
  refine ⟨by omega, by omega, by omega, by omega⟩
theorem dig_brk {U X a b : Int} (h1 : 1 ≤ a) (h2 : a ≤ 4294967296) (h3 : (a - 1) * 4294967295 + (b + 4294967295) = U) (h4 : U * 4294967296 + X < (a - 1 + 1) * 18446744073709551608) (h5 : 4294967296 ≤ b + 4294967295) (x0 : 0 ≤ X) : DigE U X (a - 1) := by
  refine ⟨by omega, by omega, by omega, by omega⟩

set_option maxHeartbeats 2000000 in
set_option maxRecDepth 100000 in
theorem div64P_1 (hi lo : Int) (h0 : 0 < hi) (h1 : hi < 2305843009213693951) (l0 : 0 ≤ lo) (l1 : lo < 18446744073709551616) (w : World) :
    Calls Try.prog 69 #[.int .u64 hi, .int .u64 lo, .int .u64 2305843009213693951] w (DivQ ((hi * 18446744073709551616 + lo) % 2305843009213693951) w) := by
  have hz : (hi == 0) = false := beq_eq_false_iff_ne.2 (by omega)
  have hor := or_hl (Int.le_of_lt h0) h1 l0 l1
  obtain ⟨U, hU⟩ : ∃ U, U = hi * 8 + lo / 2305843009213693952 := ⟨_, rfl⟩
  have hw : IntKind.u64.wrap (lo * 8) = lo * 8 % 18446744073709551616 := IntKind.wrap_u64 _
  obtain ⟨V, hV⟩ : ∃ V, V = lo * 8 % 18446744073709551616 := ⟨_, rfl⟩
  rw [← hU] at hor
  rw [← hV] at hw
  have h10 : bits .and .u64 18446744073709551608 4294967295 = 4294967288 := by rw [and_32 (by omega) (by omega)]; omega
  have h14 := and_32 (x := V) (by omega) (by omega)
  obtain ⟨X, hX⟩ : ∃ X, X = V / 4294967296 := ⟨_, rfl⟩
  obtain ⟨Y, hY⟩ : ∃ Y, Y = V % 4294967296 := ⟨_, rfl⟩
  rw [← hY] at h14
  have hX' := hX.symm
  have u0 : 0 ≤ U := by omega
  have u1 : U < 18446744073709551608 := by omega
  have x0 : 0 ≤ X := by omega
  have x1 : X < 4294967296 := by omega
  have y0 : 0 ≤ Y := by omega
  have y1 : Y < 4294967296 := by omega
  have v0 : 0 ≤ V := by omega
  have v1 : V < 18446744073709551616 := by omega
  have HU := Lib.hid hU
  have HV := Lib.hid hV
  have HX := Lib.hid hX
  have HY := Lib.hid hY
  clear hU hV hX hY
  go_enter Try.func69, Try.ntmps69
  go_wp2_with fail
  (with_reducible refine (lead64P _).mono ?_); rintro e w' ⟨rfl, rfl⟩
  go_upto_block 0 with fail
  go_cut [15, 16] (fun s15 s16 wx => (∃ a b : Int, s15 = .int .u64 a ∧ s16 = .int .u64 b ∧ DigE U X a) ∧ w = wx)
  case first =>
    go_wp2_with fail
    have hs := Lib.hid (dig_start u0 u1 x1)
    go_loop [15, 16] (fun s15 s16 => ∃ a b : Int, s15 = .int .u64 a ∧ s16 = .int .u64 b ∧ DigP U X a b) (fun s15 _ => (intOf s15).toNat)
    case atStart => exact ⟨_, _, rfl, rfl, hs.out⟩
    case round =>
      obtain ⟨a, b, rfl, rfl, hd⟩ := hrel
      have hd' := Lib.hid hd
      obtain ⟨g1, g2, g3, g4, g5, g6⟩ := hd
      clear g5 g6
      by_cases c1 : 4294967296 ≤ a
      · obtain ⟨n1, n2, n3⟩ := dig_next u1 x1 hd'.out (.inl c1) x0
        have N2 := Lib.hid n2
        have N3 := Lib.hid n3
        clear n2 n3
        by_cases c3 : 4294967296 ≤ b + 4294967295
        · go_wp2_with fail
          go_meet
          exact ⟨⟨_, _, rfl, rfl, dig_brk n1 g2 N2.out N3.out c3 x0⟩, rfl⟩
        · go_wp2_with fail
          go_round
          case rel => exact ⟨_, _, rfl, rfl, by omega, by omega, by omega, by omega, N2.out, N3.out⟩
          case measure => simp [intOf]; omega
      · by_cases c2 : 4294967296 * b + X < a * 4294967288
        · obtain ⟨n1, n2, n3⟩ := dig_next u1 x1 hd'.out (.inr c2) x0
          have N2 := Lib.hid n2
          have N3 := Lib.hid n3
          clear n2 n3
          by_cases c3 : 4294967296 ≤ b + 4294967295
          · go_wp2_with fail
            go_meet
            exact ⟨⟨_, _, rfl, rfl, dig_brk n1 g2 N2.out N3.out c3 x0⟩, rfl⟩
          · go_wp2_with fail
            go_round
            case rel => exact ⟨_, _, rfl, rfl, by omega, by omega, by omega, by omega, N2.out, N3.out⟩
            case measure => simp [intOf]; omega
        · have hE := Lib.hid (dig_out hd'.out (by omega) (by omega))
          go_wp2_with fail
          go_meet
          exact ⟨⟨_, _, rfl, rfl, hE.out⟩, rfl⟩
  case rest =>
    obtain ⟨⟨a, b, rfl, rfl, hE⟩, rfl⟩ := hcut
    obtain ⟨e1, e2, e3, e4⟩ := hE
    obtain ⟨R, hR⟩ : ∃ R, R = U * 4294967296 + X - a * 18446744073709551608 := ⟨_, rfl⟩
    rw [← hR] at e3 e4
    obtain ⟨p1, hp1⟩ : ∃ p, IntKind.u64.wrap (U * 4294967296) = p := ⟨_, rfl⟩
    obtain ⟨p2, hp2⟩ : ∃ p, IntKind.u64.wrap (p1 + X) = p := ⟨_, rfl⟩
    obtain ⟨p3, hp3⟩ : ∃ p, IntKind.u64.wrap (a * 18446744073709551608) = p := ⟨_, rfl⟩
    have hp4 : IntKind.u64.wrap (p2 - p3) = R := by
      rw [IntKind.wrap_u64] at hp1 hp2 hp3 ⊢
      omega
    have HR := Lib.hid hR
    clear hR
    obtain ⟨t1, ht1⟩ : ∃ p, IntKind.u64.wrap (R * 4294967296) = p := ⟨_, rfl⟩
    obtain ⟨t2, ht2⟩ : ∃ p, IntKind.u64.wrap (t1 + Y) = p := ⟨_, rfl⟩
    have HT1 := Lib.hid ht1
    have HT2 := Lib.hid ht2
    clear ht1 ht2
    go_upto_block 2 with fail
    go_cut [16, 18] (fun s16 s18 wx => (∃ c d : Int, s18 = .int .u64 c ∧ s16 = .int .u64 d ∧ DigE R Y c) ∧ w = wx)
    case first =>
      go_wp2_with fail
      have hs := Lib.hid (dig_start e3 e4 y1)
      go_loop [16, 18] (fun s16 s18 => ∃ a b : Int, s18 = .int .u64 a ∧ s16 = .int .u64 b ∧ DigP R Y a b) (fun _ s18 => (intOf s18).toNat)
      case atStart => exact ⟨_, _, rfl, rfl, hs.out⟩
      case round =>
        obtain ⟨c, b, rfl, rfl, hd⟩ := hrel
        have hd' := Lib.hid hd
        obtain ⟨g1, g2, g3, g4, g5, g6⟩ := hd
        clear g5 g6
        by_cases c1 : 4294967296 ≤ c
        · obtain ⟨n1, n2, n3⟩ := dig_next e4 y1 hd'.out (.inl c1) y0
          have N2 := Lib.hid n2
          have N3 := Lib.hid n3
          clear n2 n3
          by_cases c3 : 4294967296 ≤ b + 4294967295
          · go_wp2_with fail
            go_meet
            exact ⟨⟨_, _, rfl, rfl, dig_brk n1 g2 N2.out N3.out c3 y0⟩, rfl⟩
          · go_wp2_with fail
            go_round
            case rel => exact ⟨_, _, rfl, rfl, by omega, by omega, by omega, by omega, N2.out, N3.out⟩
            case measure => simp [intOf]; omega
        · by_cases c2 : 4294967296 * b + Y < c * 4294967288
          · obtain ⟨n1, n2, n3⟩ := dig_next e4 y1 hd'.out (.inr c2) y0
            have N2 := Lib.hid n2
            have N3 := Lib.hid n3
            clear n2 n3
            by_cases c3 : 4294967296 ≤ b + 4294967295
            · go_wp2_with fail
              go_meet
              exact ⟨⟨_, _, rfl, rfl, dig_brk n1 g2 N2.out N3.out c3 y0⟩, rfl⟩
            · go_wp2_with fail
              go_round
              case rel => exact ⟨_, _, rfl, rfl, by omega, by omega, by omega, by omega, N2.out, N3.out⟩
              case measure => simp [intOf]; omega
          · have hE := Lib.hid (dig_out hd'.out (by omega) (by omega))
            go_wp2_with fail
            go_meet
            exact ⟨⟨_, _, rfl, rfl, hE.out⟩, rfl⟩
    case rest =>
      obtain ⟨⟨c, d, rfl, rfl, hE⟩, rfl⟩ := hcut
      obtain ⟨f1, f2, f3, f4⟩ := hE
      obtain ⟨S, hS⟩ : ∃ S, S = R * 4294967296 + Y - c * 18446744073709551608 := ⟨_, rfl⟩
      rw [← hS] at f3 f4
      have ht1 := HT1.out
      have ht2 := HT2.out
      obtain ⟨t3, ht3⟩ : ∃ p, IntKind.u64.wrap (c * 18446744073709551608) = p := ⟨_, rfl⟩
      have ht4 : IntKind.u64.wrap (t2 - t3) = S := by
        rw [IntKind.wrap_u64] at ht1 ht2 ht3 ⊢
        omega
      have hend : Hid (S / 8 = (hi * 18446744073709551616 + lo) % 2305843009213693951) := by
        show _ = _
        have a1 := HU.out
        have a2 := HV.out
        have a3 := HX.out
        have a4 := HY.out
        have a5 := HR.out
        subst a1 a2 a3 a4
        omega
      clear hS
      clear hp1 hp2 hp3 hp4 hor hw h10 h14
      go_wp2_with fail
      go_ret2
      exact ⟨_, ret2_int hend.out, 0, rfl⟩
theorem div64P (hi lo : Int) (h0 : 0 ≤ hi) (h1 : hi < 2305843009213693951) (l0 : 0 ≤ lo) (l1 : lo < 18446744073709551616) (w : World) :
    Calls Try.prog 69 #[.int .u64 hi, .int .u64 lo, .int .u64 2305843009213693951] w (DivQ ((hi * 18446744073709551616 + lo) % 2305843009213693951) w) := by
  by_cases hz : hi = 0
  · subst hz
    rw [Int.zero_mul, Int.zero_add]
    exact div64P_0 lo l0 l1 w
  · exact div64P_1 hi lo (by omega) h1 l0 l1 w
theorem rem64P (hi lo : Int) (h0 : 0 ≤ hi) (h1 : hi < 2305843009213693951) (l0 : 0 ≤ lo) (l1 : lo < 18446744073709551616) (w : World) :
    Calls Try.prog 67 #[.int .u64 hi, .int .u64 lo, .int .u64 2305843009213693951] w fun e w' => e = .returned (.int .u64 ((hi * 18446744073709551616 + lo) % 2305843009213693951)) ∧ ∃ n, w' = w.drewN n := by
  have hm : hi % 2305843009213693951 = hi := by omega
  go_enter Try.func67, Try.ntmps67
  go_wp2_with fail
  (with_reducible refine (div64P _ _ h0 h1 l0 l1 _).mono ?_); rintro e w' ⟨q, rfl, n, rfl⟩
  go_wp2_with fail
  go_ret
  exact ⟨rfl, n, rfl⟩
theorem step_any (a b c : Nat) (ha : a < 2305843009213693951) (hb : b < 2305843009213693951) (hc : c < 2305843009213693951) (w : World) :
    Calls Try.prog 51 #[.int .u64 a, .int .u64 b, .int .u64 c] w fun e w' => e = .returned (.int .u64 (((a * b + c) % 2305843009213693951 : Nat) : Int)) ∧ ∃ n, w' = w.drewN n := by
  have hm : a * b ≤ 2305843009213693950 * 2305843009213693950 := Nat.mul_le_mul (by omega) (by omega)
  obtain ⟨m, hmm⟩ : ∃ m, m = a * b := ⟨_, rfl⟩
  rw [← hmm] at hm
  have hadd' := Lib.hid (run_add (m % 18446744073709551616 : Int) c (by omega) (by omega))
  have Hmm := Lib.hid hmm
  clear hmm
  have q1 : (0 : Int) ≤ (m : Int) / 18446744073709551616 + ((m : Int) % 18446744073709551616 + c) / 18446744073709551616 := by omega
  have q2 : (m : Int) / 18446744073709551616 + ((m : Int) % 18446744073709551616 + c) / 18446744073709551616 < 2305843009213693951 := by omega
  have hend : Hid ((((m : Int) / 18446744073709551616 + ((m : Int) % 18446744073709551616 + c) / 18446744073709551616) * 18446744073709551616 + ((m : Int) + c) % 18446744073709551616) % 2305843009213693951 = (((m + c) % 2305843009213693951 : Nat) : Int)) := by show _ = _; omega
  go_enter Try.func51, Try.ntmps51
  go_wp2_with fail
  (with_reducible refine (mul64_any a b (by omega) (by omega) _).mono ?_); rintro e w' ⟨rfl, rfl⟩
  rw [← Hmm.out]
  go_wp2_with (simp only [hadd'.out])
  (with_reducible refine (rem64P _ _ q1 q2 (by omega) (by omega) _).mono ?_); rintro e w' ⟨rfl, n, rfl⟩
  rw [hend.out]
  go_wp2_with fail
  go_ret
  exact ⟨ret_int (by rw [← Hmm.out]; omega), n, rfl⟩
end Go.Proofs.Ytfihbcpainlpcaa
