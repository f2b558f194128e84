/-
  linear: clamp, reflection of both.
-/
import Derived.Test.YtmbebcgicddbnaaProg
import Derived.Test.YtmbebcgicddbnaaNC
import Derived.Test.YtmbebcgicddbnaaNS
namespace Go.Proofs.Ytmbebcgicddbnaa
open Go.RowKit

theorem clampL_any (x : Int) (w : World) : Calls Try.prog 39 #[.int .i64 x] w fun e w' => e = .returned (.int .i64 (heldI x)) ∧ w = w' := by
  go_enter Try.func39, Try.ntmps39
  go_wp2
  all_goals go_ret
  all_goals exact ⟨ret_int (by unfold heldI; omega), rfl⟩
theorem heldR_any (x : Int) (w : World) : Calls Try.prog 42 #[.int .i64 x] w fun e w' => e = .returned (.int .i64 (heldI x)) ∧ w = w' := by
  go_enter Try.func42, Try.ntmps42
  go_wp2
  all_goals go_ret
  all_goals exact ⟨ret_int (by unfold heldI; omega), rfl⟩

theorem over_any (x d : Int) (hd : d ≠ 0) (w : World) : Calls Try.prog 47 #[.int .i64 x, .int .i64 d] w fun e w' => e = .returned (.int .i64 (overI x d)) ∧ w = w' := by
  have hd' : (d == 0) = false := by simp [hd]
  by_cases h : x.tmod d < 0
  · have hr := Lib.hid (overI_neg h)
    go_enter Try.func47, Try.ntmps47
    go_wp2
    go_ret
    exact ⟨ret_int hr.out.symm, rfl⟩
  · have hr := Lib.hid (overI_pos h)
    go_enter Try.func47, Try.ntmps47
    go_wp2
    go_ret
    exact ⟨ret_int hr.out.symm, rfl⟩

set_option maxHeartbeats 1000000 in
theorem reflL_any (f g : List Int) (n : Nat) (hf : n = f.length) (hg : n = g.length) (hn : n ≤ 60000) (m : Nat) (hm1 : 1 ≤ m) (hm2 : m ≤ 32) (mI : Int) (hmI : mI = (m : Int)) (A B : Option Addr) (b1 b2 c d : Nat) (w : World) (ha : Ints .i64 w b1 A f) (hb : Ints .i64 w b2 B g) :
    Calls Try.prog 38 #[.slice A n c, .slice B n d, .int .i64 mI] w fun e w' => e = .returned (.int .i64 (reflK f g m)) ∧ ∃ q, w' = w.drewN q := by
  subst hmI
  have Hf := Lib.hid hf
  have Hg := Lib.hid hg
  clear hf hg
  obtain ⟨N, hN⟩ : ∃ N, N = numTo f g m := ⟨_, rfl⟩
  obtain ⟨D, hD⟩ : ∃ D, D = denTo f g m := ⟨_, rfl⟩
  have N0 : N 0 = 0 := by rw [hN]; rfl
  have D0 : D 0 = 0 := by rw [hD]; rfl
  have HN := Lib.hid hN
  have HD := Lib.hid hD
  have hK : Hid (reflK f g m = endK (N (n - m)) (D (n - m))) := by show _ = _; unfold reflK; rw [hN, hD, ← Hf.out]
  have HN0 := Lib.hid N0
  have HD0 := Lib.hid D0
  clear hN hD N0 D0
  go_enter Try.func38, Try.ntmps38
  go_wp2_with fail
  go_loopw [7, 8, 9] (fun nv dv iv wr => (∃ j : Nat, j ≤ n - m ∧ iv = .int .i64 ((m + j : Nat) : Int) ∧ nv = .int .i64 (N j) ∧ dv = .int .i64 (D j)) ∧ ∃ q, wr = w.drewN q) (fun _ _ iv _ => n - (intOf iv).toNat)
  case atStart => exact ⟨⟨0, Nat.zero_le _, rfl, by rw [HN0.out], by rw [HD0.out]⟩, 0, rfl⟩
  case round =>
    obtain ⟨⟨j, hj, rfl, rfl, rfl⟩, q, rfl⟩ := hrel
    by_cases hlt : m + j < n
    · obtain ⟨k, hk⟩ : ∃ k : Nat, k = m + j := ⟨_, rfl⟩
      have hN1 : Hid (N (j + 1) = wrap64 (N j + wrap64 (ix f k * ix g (k - 1)))) := by show _ = _; rw [HN.out, hk]; rfl
      have hD1 : Hid (D (j + 1) = wrap64 (D j + wrap64 (wrap64 (ix f k * ix f k) + wrap64 (ix g (k - 1) * ix g (k - 1))))) := by show _ = _; rw [HD.out, hk]; rfl
      have Hk := Lib.hid hk
      have k1 : 1 ≤ k := by omega
      have kn : k < n := by omega
      have j1 : j + 1 ≤ n - m := by omega
      rw [← hk]
      clear hk hlt
      obtain ⟨g1, o1, rfl, hc1⟩ := ha.at_ (i := k) (by rw [← Hf.out]; exact kn)
      obtain ⟨g2, o2, rfl, hc2⟩ := hb.at_ (i := k - 1) (by rw [← Hg.out]; omega)
      have s1 : (0 : Int) ≤ (k : Int) := by omega
      have s2 : (k : Int) < (n : Int) := by omega
      have s3 : (0 : Int) ≤ (k : Int) - 1 := by omega
      have s4 : (k : Int) - 1 < (n : Int) := by omega
      have s5 : ((k : Int) - 1).toNat = k - 1 := by omega
      have s6 := IntWalk.i64_in ((k : Int) - 1) (by omega)
      have s7 : (1 : Int) ≤ (k : Int) := by omega
      have q1 := IntWalk.i64_left (ix f k * ix g (k - 1))
      have q2 := IntWalk.i64_left (N j + wrap64 (ix f k * ix g (k - 1)))
      have q3 := IntWalk.i64_left (ix f k * ix f k)
      have q4 := IntWalk.i64_left (ix g (k - 1) * ix g (k - 1))
      have q5 := IntWalk.i64_left (wrap64 (ix f k * ix f k) + wrap64 (ix g (k - 1) * ix g (k - 1)))
      have q6 := IntWalk.i64_left (D j + wrap64 (wrap64 (ix f k * ix f k) + wrap64 (ix g (k - 1) * ix g (k - 1))))
      go_wp2_with fail
      go_quiet (fail)
      generalize nq = na
      go_wp2_with fail
      go_quiet (fail)
      go_wp2_with fail
      go_roundw
      case rel => exact ⟨⟨j + 1, j1, by rw [show m + (j + 1) = k + 1 by rw [Hk.out]; omega]; go_num, by rw [hN1.out], by rw [hD1.out]⟩, _, rfl⟩
      case measure => simp [intOf]; omega
    · have hj2 : Hid (endK (N j) (D j) = reflK f g m) := by
        show _ = _
        rw [hK.out]
        by_cases h : m ≤ n
        · rw [show n - m = j by omega]
        · rw [show n - m = 0 by omega, show j = 0 by omega]
      have hI : (n : Int) ≤ ((m + j : Nat) : Int) := by omega
      obtain ⟨N0, hN0⟩ : ∃ x, x = N j := ⟨_, rfl⟩
      obtain ⟨D0, hD0⟩ : ∃ x, x = D j := ⟨_, rfl⟩
      rw [← hN0, ← hD0] at hj2 ⊢
      clear hN0 hD0
      go_wp2_with fail
      go_loopw [7, 8] (fun nv dv wr => (∃ x y : Int, nv = .int .i64 x ∧ dv = .int .i64 y ∧ endK x y = reflK f g m) ∧ ∃ q, wr = w.drewN q) (fun _ dv _ => (intOf dv).toNat)
      case atStart => exact ⟨⟨_, _, rfl, rfl, hj2.out⟩, q, rfl⟩
      case round =>
        obtain ⟨⟨x, y, rfl, rfl, he⟩, q', rfl⟩ := hrel
        have He := Lib.hid he
        clear he
        by_cases hy : 1099511627776 ≤ y
        · have hm := Lib.hid (endK_more (num := x) hy)
          go_wp2_with fail
          go_roundw
          case rel => exact ⟨⟨_, _, rfl, rfl, by rw [← hm.out]; exact He.out⟩, q', rfl⟩
          case measure => simp [intOf]; omega
        · by_cases h0 : y = 0
          · have hz := Lib.hid (endK_zero (num := x) hy h0)
            subst h0
            go_wp2_with fail
            go_ret
            exact ⟨ret_int (by rw [← He.out, hz.out]), q', rfl⟩
          · have hz := Lib.hid (endK_quo (num := x) hy h0)
            have hyb : (y == 0) = false := by simp [h0]
            by_cases ht : (wrap64 (x * 32768)).tmod y < 0
            · have ho := Lib.hid (overI_neg ht)
              go_wp2_with fail
              all_goals go_ret
              all_goals refine ⟨ret_int ?_, q', rfl⟩
              all_goals rw [← He.out, hz.out, quoI, ho.out]
              all_goals generalize wrap64 (wrap64 ((wrap64 (x * 32768)).tdiv y) - 1) = v at *
              all_goals first | omega | (simp only [Int.min_def, Int.max_def] at *; (repeat' split) <;> omega)
            · have ho := Lib.hid (overI_pos ht)
              go_wp2_with fail
              all_goals go_ret
              all_goals refine ⟨ret_int ?_, q', rfl⟩
              all_goals rw [← He.out, hz.out, quoI, ho.out]
              all_goals generalize wrap64 ((wrap64 (x * 32768)).tdiv y) = v at *
              all_goals first | omega | (simp only [Int.min_def, Int.max_def] at *; (repeat' split) <;> omega)

set_option maxHeartbeats 1000000 in
theorem reflR_any (f g : List Int) (n : Nat) (hf : n = f.length) (hg : n = g.length) (hn : n ≤ 60000) (m : Nat) (hm1 : 1 ≤ m) (hm2 : m ≤ 32) (mI : Int) (hmI : mI = (m : Int)) (A B : Option Addr) (b1 b2 c d : Nat) (w : World) (ha : Ints .i64 w b1 A f) (hb : Ints .i64 w b2 B g) :
    Calls Try.prog 41 #[.slice A n c, .slice B n d, .int .i64 mI] w fun e w' => e = .returned (.int .i64 (reflK f g m)) ∧ ∃ q, w' = w.drewN q := by
  subst hmI
  have Hf := Lib.hid hf
  have Hg := Lib.hid hg
  clear hf hg
  obtain ⟨N, hN⟩ : ∃ N, N = numTo f g m := ⟨_, rfl⟩
  obtain ⟨D, hD⟩ : ∃ D, D = denTo f g m := ⟨_, rfl⟩
  have N0 : N 0 = 0 := by rw [hN]; rfl
  have D0 : D 0 = 0 := by rw [hD]; rfl
  have HN := Lib.hid hN
  have HD := Lib.hid hD
  have hK : Hid (reflK f g m = endK (N (n - m)) (D (n - m))) := by show _ = _; unfold reflK; rw [hN, hD, ← Hf.out]
  have HN0 := Lib.hid N0
  have HD0 := Lib.hid D0
  clear hN hD N0 D0
  go_enter Try.func41, Try.ntmps41
  go_wp2_with fail
  go_loopw [7, 8, 9] (fun nv dv iv wr => (∃ j : Nat, j ≤ n - m ∧ iv = .int .i64 ((m + j : Nat) : Int) ∧ nv = .int .i64 (N j) ∧ dv = .int .i64 (D j)) ∧ ∃ q, wr = w.drewN q) (fun _ _ iv _ => n - (intOf iv).toNat)
  case atStart => exact ⟨⟨0, Nat.zero_le _, rfl, by rw [HN0.out], by rw [HD0.out]⟩, 0, rfl⟩
  case round =>
    obtain ⟨⟨j, hj, rfl, rfl, rfl⟩, q, rfl⟩ := hrel
    by_cases hlt : m + j < n
    · obtain ⟨k, hk⟩ : ∃ k : Nat, k = m + j := ⟨_, rfl⟩
      have hN1 : Hid (N (j + 1) = wrap64 (N j + wrap64 (ix f k * ix g (k - 1)))) := by show _ = _; rw [HN.out, hk]; rfl
      have hD1 : Hid (D (j + 1) = wrap64 (D j + wrap64 (wrap64 (ix f k * ix f k) + wrap64 (ix g (k - 1) * ix g (k - 1))))) := by show _ = _; rw [HD.out, hk]; rfl
      have Hk := Lib.hid hk
      have k1 : 1 ≤ k := by omega
      have kn : k < n := by omega
      have j1 : j + 1 ≤ n - m := by omega
      rw [← hk]
      clear hk hlt
      obtain ⟨g1, o1, rfl, hc1⟩ := ha.at_ (i := k) (by rw [← Hf.out]; exact kn)
      obtain ⟨g2, o2, rfl, hc2⟩ := hb.at_ (i := k - 1) (by rw [← Hg.out]; omega)
      have s1 : (0 : Int) ≤ (k : Int) := by omega
      have s2 : (k : Int) < (n : Int) := by omega
      have s3 : (0 : Int) ≤ (k : Int) - 1 := by omega
      have s4 : (k : Int) - 1 < (n : Int) := by omega
      have s5 : ((k : Int) - 1).toNat = k - 1 := by omega
      have s6 := IntWalk.i64_in ((k : Int) - 1) (by omega)
      have s7 : (1 : Int) ≤ (k : Int) := by omega
      have q1 := IntWalk.i64_left (ix f k * ix g (k - 1))
      have q2 := IntWalk.i64_left (N j + wrap64 (ix f k * ix g (k - 1)))
      have q3 := IntWalk.i64_left (ix f k * ix f k)
      have q4 := IntWalk.i64_left (ix g (k - 1) * ix g (k - 1))
      have q5 := IntWalk.i64_left (D j + wrap64 (ix f k * ix f k))
      have q6 := IntWalk.i64_left (wrap64 (D j + wrap64 (ix f k * ix f k)) + wrap64 (ix g (k - 1) * ix g (k - 1)))
      go_wp2_with fail
      go_quiet (fail)
      generalize nq = na
      go_wp2_with fail
      go_quiet (fail)
      go_wp2_with fail
      go_roundw
      case rel => exact ⟨⟨j + 1, j1, by rw [show m + (j + 1) = k + 1 by rw [Hk.out]; omega]; go_num, by rw [hN1.out], by rw [hD1.out, ← w64_assoc]⟩, _, rfl⟩
      case measure => simp [intOf]; omega
    · have hj2 : Hid (endK (N j) (D j) = reflK f g m) := by
        show _ = _
        rw [hK.out]
        by_cases h : m ≤ n
        · rw [show n - m = j by omega]
        · rw [show n - m = 0 by omega, show j = 0 by omega]
      have hI : (n : Int) ≤ ((m + j : Nat) : Int) := by omega
      obtain ⟨N0, hN0⟩ : ∃ x, x = N j := ⟨_, rfl⟩
      obtain ⟨D0, hD0⟩ : ∃ x, x = D j := ⟨_, rfl⟩
      rw [← hN0, ← hD0] at hj2 ⊢
      clear hN0 hD0
      go_wp2_with fail
      go_loopw [7, 8] (fun nv dv wr => (∃ x y : Int, nv = .int .i64 x ∧ dv = .int .i64 y ∧ endK x y = reflK f g m) ∧ ∃ q, wr = w.drewN q) (fun _ dv _ => (intOf dv).toNat)
      case atStart => exact ⟨⟨_, _, rfl, rfl, hj2.out⟩, q, rfl⟩
      case round =>
        obtain ⟨⟨x, y, rfl, rfl, he⟩, q', rfl⟩ := hrel
        have He := Lib.hid he
        clear he
        by_cases hy : 1099511627776 ≤ y
        · have hm := Lib.hid (endK_more (num := x) hy)
          go_wp2_with fail
          go_roundw
          case rel => exact ⟨⟨_, _, rfl, rfl, by rw [← hm.out]; exact He.out⟩, q', rfl⟩
          case measure => simp [intOf]; omega
        · by_cases h0 : y = 0
          · have hz := Lib.hid (endK_zero (num := x) hy h0)
            subst h0
            go_wp2_with fail
            go_ret
            exact ⟨ret_int (by rw [← He.out, hz.out]), q', rfl⟩
          · have hz := Lib.hid (endK_quo (num := x) hy h0)
            have hyb : (y == 0) = false := by simp [h0]
            go_wp2_with fail
            (with_reducible refine (over_any _ _ h0 _).mono ?_); rintro e w' ⟨rfl, rfl⟩
            generalize hov : overI (wrap64 (x * 32768)) y = v
            have Hov := Lib.hid hov
            clear hov
            go_wp2_with fail
            all_goals go_ret
            all_goals refine ⟨ret_int ?_, q', rfl⟩
            all_goals rw [← He.out, hz.out, quoI, Hov.out]
            all_goals first | omega | (simp only [Int.min_def, Int.max_def] at *; (repeat' split) <;> omega)
end Go.Proofs.Ytmbebcgicddbnaa
