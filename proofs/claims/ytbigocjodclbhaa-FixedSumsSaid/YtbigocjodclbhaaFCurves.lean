/-
  FixedCurves: differences of a polynomial; the walk of the law.
-/
import Derived.Test.YtbigocjodclbhaaProg
import Derived.Test.YtbigocjodclbhaaFH
import Derived.Test.YtbigocjodclbhaaFL
import Derived.Test.YtbigocjodclbhaaO
namespace Go.Proofs.Ytbigocjodclbhaa
open Go.RowKit

def pc (a b c d x : Int) : Int := a + x * (b + x * (c + x * d))
theorem pc3 (a b c d x : Int) : pc a b c d (x + 3) - 3 * pc a b c d (x + 2) + 3 * pc a b c d (x + 1) - pc a b c d x = 6 * d := by
  unfold pc; grind
theorem pc4 (a b c d x : Int) : pc a b c d (x + 4) - 4 * pc a b c d (x + 3) + 6 * pc a b c d (x + 2) - 4 * pc a b c d (x + 1) + pc a b c d x = 0 := by
  unfold pc; grind
theorem mulb (i v M : Int) (h0 : 0 ≤ i) (h1 : i ≤ 127) (h2 : -M ≤ v) (h3 : v ≤ M) : -(127 * M) ≤ i * v ∧ i * v ≤ 127 * M := by
  have hM : 0 ≤ M := by omega
  have a := Int.mul_le_mul_of_nonneg_left h3 h0
  have b := Int.mul_le_mul_of_nonneg_left h2 h0
  have c := Int.mul_le_mul_of_nonneg_right h1 hM
  rw [Int.mul_neg] at b
  omega
theorem pc_b {a b c d x : Int} (ha : -128 ≤ a ∧ a ≤ 127) (hb : -128 ≤ b ∧ b ≤ 127) (hc : -128 ≤ c ∧ c ≤ 127) (hd : -128 ≤ d ∧ d ≤ 127) (h0 : 0 ≤ x) (h1 : x ≤ 127) :
    (-16256 ≤ x * d ∧ x * d ≤ 16256) ∧ (-2080768 ≤ x * (c + x * d) ∧ x * (c + x * d) ≤ 2080768) ∧ (-264273792 ≤ x * (b + x * (c + x * d)) ∧ x * (b + x * (c + x * d)) ≤ 264273792) := by
  have m1 := mulb x d 128 h0 h1 (by omega) (by omega)
  have m2 := mulb x (c + x * d) 16384 h0 h1 (by omega) (by omega)
  have m3 := mulb x (b + x * (c + x * d)) 2080896 h0 h1 (by omega) (by omega)
  omega
def curve (a b c d : Int) (n : Nat) : List Int := (List.range n).map fun (i : Nat) => pc a b c d (i : Int)
theorem curve_len (a b c d : Int) (n : Nat) : (curve a b c d n).length = n := by simp [curve]
theorem curve_ix {a b c d : Int} {n k : Nat} (h : k < n) : ix (curve a b c d n) k = pc a b c d (k : Int) := by unfold curve; rw [ix_map_range _ _ _ h]
theorem curve_succ (a b c d : Int) (n : Nat) : curve a b c d (n + 1) = curve a b c d n ++ [pc a b c d (n : Int)] := by simp [curve, List.range_succ]
theorem curve_wide {a b c d : Int} (ha : -128 ≤ a ∧ a ≤ 127) (hb : -128 ≤ b ∧ b ≤ 127) (hc : -128 ≤ c ∧ c ≤ 127) (hd : -128 ≤ d ∧ d ≤ 127) {n : Nat} (hn : n ≤ 127) : allWideB (curve a b c d n) = true := by
  refine allWideB_true.2 fun k hk => ?_
  rw [curve_len] at hk
  rw [curve_ix hk]
  have := pc_b ha hb hc hd (x := (k : Int)) (by omega) (by omega)
  refine wideB_true.2 ?_
  unfold pc; omega
theorem curve_d4 {a b c d : Int} {n : Nat} (hs : Small (curve a b c d n)) : diffN (curve a b c d n) 4 = List.replicate (n - 4) 0 := by
  refine ix_ext _ _ (by rw [diffN_len, curve_len, List.length_replicate]) fun k hk => ?_
  rw [diffN_len, curve_len] at hk
  rw [diffN_cf hs (by omega) (by rw [curve_len]; omega)]
  simp only [cf]
  rw [curve_ix (by omega), curve_ix (by omega), curve_ix (by omega), curve_ix (by omega), curve_ix (by omega)]
  rw [show ix (List.replicate (n - 4) (0 : Int)) k = 0 from by simp [ix, hk]]
  have := pc4 a b c d (k : Int)
  push_cast
  exact this
theorem curve_d3 {a b c d : Int} {n : Nat} (hs : Small (curve a b c d n)) : diffN (curve a b c d n) 3 = List.replicate (n - 3) (6 * d) := by
  refine ix_ext _ _ (by rw [diffN_len, curve_len, List.length_replicate]) fun k hk => ?_
  rw [diffN_len, curve_len] at hk
  rw [diffN_cf hs (by omega) (by rw [curve_len]; omega)]
  simp only [cf]
  rw [curve_ix (by omega), curve_ix (by omega), curve_ix (by omega), curve_ix (by omega)]
  rw [show ix (List.replicate (n - 3) (6 * d : Int)) k = 6 * d from by simp [ix, hk]]
  have := pc3 a b c d (k : Int)
  push_cast
  exact this
theorem rep_wide {x : Int} (h1 : -1073741824 ≤ x) (h2 : x < 1073741824) (n : Nat) : allWideB (List.replicate n x) = true := by
  refine allWideB_true.2 fun k hk => ?_
  rw [List.length_replicate] at hk
  rw [show ix (List.replicate n x) k = x from by simp [ix, hk]]
  exact wideB_true.2 ⟨h1, h2⟩
theorem ix_rep {x : Int} {n k : Nat} (h : k < n) : ix (List.replicate n x) k = x := by simp [ix, h]

theorem rest_hid {xs : List Int} {m : Nat} (hl : xs.length = m) (hm : m ≤ 127) (o : Int) {y : List Int} {x : Int} (hr : restP xs o = (y, x)) (A : Option Addr) (c : Nat) (w : World) (ha : Ints .i64 w w.heap.size A xs) :
    Calls Try.prog 11 #[.slice A m c, .int .i64 o] w (PairQ w.heap.size (y, x) w) := by
  subst hl
  rw [← hr]
  exact restL_any xs o (by omega) A c w ha

/-- the two calls of Rest and what stands behind them. -/
def CurveEnd (m : Nat) (d : Int) (xs : List Int) : Prop :=
  (m < 4 ∧ ∃ y x, restP xs 4 = ([], 1) ∧ restP xs 3 = (y, x)) ∨ (∃ q : Nat, m = q + 4 ∧ restP xs 4 = (List.replicate q 0, 0) ∧ restP xs 3 = (List.replicate (q + 1) (6 * d), 0))
theorem curve_end {a b c d : Int} (ha : -128 ≤ a ∧ a ≤ 127) (hb : -128 ≤ b ∧ b ≤ 127) (hc : -128 ≤ c ∧ c ≤ 127) (hd : -128 ≤ d ∧ d ≤ 127) {m : Nat} (hm : m ≤ 127) : CurveEnd m d (curve a b c d m) := by
  have hw := curve_wide ha hb hc hd hm
  have hs := small_wide hw
  by_cases h : m < 4
  · refine .inl ⟨h, _, _, restP_bad ?_, rfl⟩
    cases e : okOrder (curve a b c d m) 4 with
    | false => rfl
    | true => have := okOrder_true.1 e; rw [curve_len] at this; omega
  · refine .inr ⟨m - 4, by omega, ?_, ?_⟩
    · rw [restP_ok (okOrder_true.2 ⟨by omega, by omega, by rw [curve_len]; omega⟩) hw (by show allWideB (diffN _ 4) = true; rw [curve_d4 hs]; exact rep_wide (by omega) (by omega) _)]
      show (diffN _ 4, _) = _
      rw [curve_d4 hs]
    · rw [restP_ok (okOrder_true.2 ⟨by omega, by omega, by rw [curve_len]; omega⟩) hw (by show allWideB (diffN _ 3) = true; rw [curve_d3 hs]; exact rep_wide (by omega) (by omega) _)]
      show (diffN _ 3, _) = _
      rw [curve_d3 hs, show m - 3 = m - 4 + 1 by omega]

set_option maxHeartbeats 2000000 in
set_option maxRecDepth 100000 in
theorem curves_any (a b c d n : Int) (w : World) (fa : (Lit.int .i8 a).wf = true) (fb : (Lit.int .i8 b).wf = true) (fc : (Lit.int .i8 c).wf = true) (fd : (Lit.int .i8 d).wf = true) (fn : (Lit.int .u8 n).wf = true) :
    Calls Try.prog 8 #[.int .i8 a, .int .i8 b, .int .i8 c, .int .i8 d, .int .u8 n] w fun e w' => e = .returned (.bool true) ∧ Below w.heap.size w w' := by
  have m1 : IntKind.i8.min = -128 := by decide
  have m2 : IntKind.i8.max = 127 := by decide
  have m3 : IntKind.u8.min = 0 := by decide
  have m4 : IntKind.u8.max = 255 := by decide
  have ba : -128 ≤ a ∧ a ≤ 127 := by simpa [Lit.wf, m1, m2] using fa
  have bb : -128 ≤ b ∧ b ≤ 127 := by simpa [Lit.wf, m1, m2] using fb
  have bc : -128 ≤ c ∧ c ≤ 127 := by simpa [Lit.wf, m1, m2] using fc
  have bd : -128 ≤ d ∧ d ≤ 127 := by simpa [Lit.wf, m1, m2] using fd
  have bn : 0 ≤ n ∧ n ≤ 255 := by simpa [Lit.wf, m3, m4] using fn
  obtain ⟨a1, a2⟩ := ba
  obtain ⟨b1, b2⟩ := bb
  obtain ⟨c1, c2⟩ := bc
  obtain ⟨d1, d2⟩ := bd
  obtain ⟨n1, n2⟩ := bn
  clear fa fb fc fd fn m1 m2 m3 m4
  obtain ⟨m, hm⟩ : ∃ m : Nat, n % 128 = (m : Int) := ⟨(n % 128).toNat, by omega⟩
  have hm7 : (m : Int) ≤ 127 := by omega
  have hend := Lib.hid (curve_end ⟨a1, a2⟩ ⟨b1, b2⟩ ⟨c1, c2⟩ ⟨d1, d2⟩ (m := m) (by omega))
  obtain ⟨i0, hi0, hz0, hz1, hz2⟩ := info_parts int_info
  go_enter Try.func8, Try.ntmps8
  go_wp2_with fail
  (with_reducible refine (known_any _).mono ?_); rintro e w1 ⟨rfl, k1⟩
  have B1 := Lib.hid k1
  clear k1
  go_wp2_with fail
  go_loopw [11, 12] (fun v iv wr => (∃ (k : Nat) (A : Option Addr) (cc : Nat), k ≤ m ∧ iv = .int .i64 k ∧ v = .slice A k cc ∧ wr.ownsRow w.heap.size 3 1 (.slice A k cc) k ((curve a b c d k).map (.int .i64))) ∧ Below w.heap.size w wr) (fun _ iv _ => m - (intOf iv).toNat)
  case atStart => exact ⟨⟨0, none, 0, Nat.zero_le _, rfl, rfl, World.ownsRow_nil _ _ _ _⟩, B1.out⟩
  case round =>
    obtain ⟨⟨k, A2, cc, hk, rfl, rfl, ho⟩, hb⟩ := hrel
    obtain ⟨wo, rfl⟩ : ∃ wo : World, wo = wr := ⟨_, rfl⟩
    have ho' := Lib.hid ho
    have hb' := Lib.hid hb
    clear ho hb
    by_cases hlt : k < m
    · obtain ⟨⟨p1, p2⟩, ⟨p3, p4⟩, ⟨p5, p6⟩⟩ := pc_b ⟨a1, a2⟩ ⟨b1, b2⟩ ⟨c1, c2⟩ ⟨d1, d2⟩ (x := (k : Int)) (by omega) (by omega)
      go_wp2_with (at_builtin; refine wpList_app _ rfl (.tmp 28) (.tmp 46) 22 rfl w.heap.size 3 i0 _ 1 8 Try.underlying22 hi0 hz0 hz1 hz2 rfl (by omega) (.slice A2 k cc) k _ rfl (ho'.out.alloc _) _ _ 1 1 [_] rfl rfl (rd_new1 _ _ _) (by simp [Value.oneCell']) (by simp only [maxLen]; omega) (by omega) (by have := hb'.out.size; simp at this ⊢; omega) ?_; intro A4 k4 w4 ho4 hg4 hat4)
      have hb4 := Lib.hid (below_app (bal hb'.out _) (ho'.out.alloc _) hg4 (by have := hb'.out.size; simp at this ⊢; omega))
      have ho4' := Lib.hid ho4
      clear hg4 hat4 ho4
      go_wp2_with fail
      go_roundw
      case rel =>
        refine ⟨⟨k + 1, A4, k4, by omega, by go_num, rfl, ?_⟩, hb4.out⟩
        rw [curve_succ, List.map_append]
        exact ho4'.out
      case measure => simp [intOf]; omega
    · have e : k = m := by omega
      subst e
      obtain ⟨xs, hxs⟩ : ∃ xs, xs = curve a b c d k := ⟨_, rfl⟩
      have hxl : Hid (xs.length = k) := by show _ = _; rw [hxs, curve_len]
      rw [← hxs] at ho' hend
      clear hxs
      have zo := Lib.hid (own_ints ho'.out)
      rcases hend.out with ⟨h4, y, x, e1, e2⟩ | ⟨q, e0, e1, e2⟩
      · have h4I : (k : Int) < 4 := by omega
        have E1 := Lib.hid e1
        have E2 := Lib.hid e2
        clear e1 e2
        go_wp2_with fail
        (with_reducible refine (rest_hid hxl.out (by omega) _ E1.out _ _ _ zo.out).mono ?_); rintro e w2 ⟨R2, r2, rfl, hr2, b2⟩
        have B2 := Lib.hid (bth hb'.out b2)
        have z2 := Lib.hid ((zo.out.below b2).more b2.size)
        clear hr2 b2
        go_wp2_with fail
        (with_reducible refine (rest_hid hxl.out (by omega) _ E2.out _ _ _ z2.out).mono ?_); rintro e w3 ⟨R3, r3, rfl, hr3, b3⟩
        have B3 := Lib.hid (bth B2.out b3)
        clear hr3 b3
        go_wp2_with fail
        go_ret
        exact ⟨rfl, B3.out⟩
      · subst e0
        have E1 := Lib.hid e1
        have E2 := Lib.hid e2
        clear e1 e2
        go_wp2_with fail
        (with_reducible refine (rest_hid hxl.out (by omega) _ E1.out _ _ _ zo.out).mono ?_); rintro e w2 ⟨R2, r2, rfl, hr2, b2⟩
        have B2 := Lib.hid (bth hb'.out b2)
        have z2 := Lib.hid ((zo.out.below b2).more b2.size)
        have y2 := Lib.hid (own_ints hr2)
        clear hr2 b2
        go_wp2_with fail
        (with_reducible refine (rest_hid hxl.out (by omega) _ E2.out _ _ _ z2.out).mono ?_); rintro e w3 ⟨R3, r3, rfl, hr3, b3⟩
        have B3 := Lib.hid (bth B2.out b3)
        have y3 := Lib.hid (own_ints hr3)
        have y2 := Lib.hid (y2.out.below b3)
        clear hr3 b3
        rw [show (List.replicate (q + 1) (6 * d), (0 : Int)).1.length = q + 1 from List.length_replicate ..]
        go_wp2_with fail
        go_loop [17] (fun iv => ∃ j : Nat, j ≤ q ∧ iv = .int .i64 j) (fun iv => q - (intOf iv).toNat)
        case atStart => exact ⟨0, Nat.zero_le _, rfl⟩
        case round =>
          obtain ⟨j, hj, rfl⟩ := hrel
          by_cases hlt2 : j < q
          · obtain ⟨g2, o2, rfl, hc2⟩ := y2.out.at_ (i := j) (by rw [List.length_replicate]; exact hlt2)
            rw [ix_rep hlt2] at hc2
            go_wp2_with fail
            go_round
            case rel => exact ⟨j + 1, by omega, by go_num⟩
            case measure => simp [intOf]; omega
          · have e : j = q := by omega
            subst e
            go_wp2_with fail
            go_loop [18] (fun iv => ∃ i : Nat, i ≤ j + 1 ∧ iv = .int .i64 i) (fun iv => j + 1 - (intOf iv).toNat)
            case atStart => exact ⟨0, Nat.zero_le _, rfl⟩
            case round =>
              obtain ⟨i, hi, rfl⟩ := hrel
              by_cases hlt3 : i < j + 1
              · obtain ⟨g3, o3, rfl, hc3⟩ := y3.out.at_ (i := i) (by rw [List.length_replicate]; exact hlt3)
                rw [ix_rep hlt3] at hc3
                go_wp2_with fail
                go_round
                case rel => exact ⟨i + 1, by omega, by go_num⟩
                case measure => simp [intOf]; omega
              · go_wp2_with fail
                go_ret
                exact ⟨rfl, B3.out⟩
end Go.Proofs.Ytbigocjodclbhaa
