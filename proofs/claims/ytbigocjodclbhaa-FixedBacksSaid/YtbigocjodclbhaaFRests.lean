/-
  FixedRests and FixedBacks: the walks of the laws.
-/
import Derived.Test.YtbigocjodclbhaaProg
import Derived.Test.YtbigocjodclbhaaFH
import Derived.Test.YtbigocjodclbhaaO
namespace Go.Proofs.Ytbigocjodclbhaa
open Go.RowKit

theorem absW_wide {x : Int} (h : wideB x = true) : 0 ≤ absW x ∧ absW x ≤ 1073741824 := by
  have := wideB_true.1 h
  unfold absW
  rw [IntWalk.wrap64_in _ (by omega)]
  split <;> omega
theorem wsum_b {r : List Int} {o : Int} (hw : allWideB r = true) {k : Nat} (hk : k ≤ r.length) (h3 : r.length ≤ 4096) : 0 ≤ wsum r o k ∧ wsum r o k ≤ 1073741824 * k := by
  induction k with
  | zero => simp [wsum]
  | succ k ih =>
    have ih := ih (by omega)
    have ha := absW_wide (allWideB_true.1 hw k (by omega))
    by_cases h : 4 ≤ (k : Int) + o
    · rw [wsum_in h, IntWalk.wrap64_in _ (by omega)]; omega
    · rw [wsum_out h]; omega
theorem weightP_nonneg {l : List Int} {o : Int} (h3 : l.length ≤ 4096) : 0 ≤ weightP l o := by
  unfold weightP
  split
  · rename_i h
    obtain ⟨_, _, hw, he⟩ := restP_okc h
    rw [he]
    exact (wsum_b hw (Nat.le_refl _) (by rw [diffN_len]; omega)).1
  · exact Int.le_refl _
theorem best_inv (l : List Int) (h3 : l.length ≤ 4096) (k : Nat) :
    (bestLTo l k = (0, -1) ∧ bestRTo l k = (-1, 0)) ∨ (bestLTo l k = bestRTo l k ∧ 0 ≤ (bestRTo l k).1 ∧ 0 ≤ (bestRTo l k).2) := by
  induction k with
  | zero => exact .inl ⟨rfl, rfl⟩
  | succ k ih =>
    have hn := weightP_nonneg (l := l) (o := (k : Int)) h3
    rw [bestLTo, bestRTo]
    unfold bestLS bestRS
    rcases ih with ⟨h1, h2⟩ | ⟨h1, h2, h3⟩
    · rw [h1, h2]
      by_cases h : (restP l k).2 = 0
      · right
        simp [h]; omega
      · left
        simp [h]
    · right
      rw [h1]
      by_cases h : (restP l k).2 = 0
      · have e1 : ¬ (bestRTo l k).2 < 0 := by omega
        have e2 : ¬ (bestRTo l k).1 < 0 := by omega
        simp only [h, e1, e2, if_false, if_true]
        by_cases h4 : weightP l k < (bestRTo l k).2
        · simp only [h4, if_true, true_and]; omega
        · simp only [h4, if_false, true_and]; omega
      · simp only [h, if_false, true_and]; omega
theorem best_same (l : List Int) (h3 : l.length ≤ 4096) : (bestLTo l 5).1 = max (bestRTo l 5).1 0 := by
  rcases best_inv l h3 5 with ⟨h1, h2⟩ | ⟨h1, h2, _⟩
  · rw [h1, h2]; rfl
  · rw [h1]; omega

theorem backTo_len {o : Nat} : ∀ {rest out l : List Int}, backTo o out rest = some l → l.length = out.length + rest.length
  | [], out, l, h => by simp [backTo] at h; subst h; simp
  | x :: r, out, l, h => by
    rw [backTo] at h
    split at h
    · have := backTo_len h; simp at this ⊢; omega
    · cases h
theorem backP_len {warm rest : List Int} {o : Int} : (backP warm rest o).1.length ≤ warm.length + rest.length := by
  unfold backP
  (repeat' split) <;> simp
  rename_i l h
  have := backTo_len h
  omega
theorem ended (w w' : World) (hb : Below w.heap.size w w') : Ending.returned (.bool true) = .returned (.bool true) ∧ Below w.heap.size w w' := ⟨rfl, hb⟩

set_option maxHeartbeats 1000000 in
theorem rests_any (l : List Int) (hm : l.length ≤ 9223372036854775807) (A : Option Addr) (c : Nat) (o : Int) (w : World) (ha : Ints .i64 w w.heap.size A l) (_hf : Fit .i64 l) (_ho : (Lit.int .i64 o).wf = true) :
    Calls Try.prog 3 #[.slice A l.length c, .int .i64 o] w fun e w' => e = .returned (.bool true) ∧ Below w.heap.size w w' := by
  by_cases hlong : 300 < l.length
  · have hI : (300 : Int) < (l.length : Int) := by omega
    go_enter Try.func3, Try.ntmps3
    go_wp2_with fail
    (with_reducible refine (known_any _).mono ?_); rintro e w1 ⟨rfl, b1⟩
    go_wp2_with fail
    go_ret
    exact ⟨rfl, b1⟩
  · have hI : (l.length : Int) ≤ 300 := by omega
    have q1 : eqI (restP l o).1 (restP l o).1 = true := eqI_refl _
    have q2 : ((restP l o).2 == (restP l o).2) = true := by simp
    have q3 : (weightP l o == weightP l o) = true := by simp
    have q4 : ((bestLTo l 5).1 == (bestLTo l 5).1) = true := by simp
    have hbs := Lib.hid (best_same l (by omega))
    have hln := @restP_len l o
    clear hlong
    go_enter Try.func3, Try.ntmps3
    go_wp2_with fail
    (with_reducible refine (known_any _).mono ?_); rintro e w1 ⟨rfl, b1⟩
    go_wp2_with fail
    (with_reducible refine (restL_any l o (by omega) _ _ _ ((ha.below b1).more b1.size)).mono ?_); rintro e w2 ⟨A2, c2, rfl, ho2, b2⟩
    have B2 := bth b1 b2
    have x2 := own_ints ho2
    go_wp2_with fail
    (with_reducible refine (restR_any l o (by omega) _ _ _ ((ha.below B2).more B2.size)).mono ?_); rintro e w3 ⟨A3, c3, rfl, ho3, b3⟩
    have B3 := bth B2 b3
    have x3 := own_ints ho3
    go_wp2_with fail
    (with_reducible refine (same_q (restP l o).1 (restP l o).1 _ _ rfl rfl (by omega) (by omega) _ _ _ _ _ _ _ (x2.below b3) x3).mono ?_); rintro e w4 ⟨rfl, b4⟩
    rw [q1]
    have B4 := bth B3 b4
    go_wp2_with fail
    (with_reducible refine (weightL_any l o (by omega) _ _ _ ((ha.below B4).more B4.size)).mono ?_); rintro e w5 ⟨rfl, b5⟩
    have B5 := bth B4 b5
    go_wp2_with fail
    (with_reducible refine (weightR_any l o (by omega) _ _ _ ((ha.below B5).more B5.size)).mono ?_); rintro e w6 ⟨rfl, b6⟩
    have B6 := bth B5 b6
    go_wp2_with fail
    (with_reducible refine (bestL_any l (by omega) _ _ _ ((ha.below B6).more B6.size)).mono ?_); rintro e w7 ⟨rfl, b7⟩
    have B7 := bth B6 b7
    go_wp2_with fail
    (with_reducible refine (bestR_any l (by omega) _ _ _ ((ha.below B7).more B7.size)).mono ?_); rintro e w8 ⟨rfl, b8⟩
    rw [← hbs.out]
    go_wp2_with fail
    go_ret
    exact ⟨rfl, bth B7 b8⟩

set_option maxHeartbeats 1000000 in
theorem backs_any (warm : List Int) (hm : warm.length ≤ 9223372036854775807) (A : Option Addr) (c : Nat) (rest : List Int) (hm2 : rest.length ≤ 9223372036854775807) (B : Option Addr) (d : Nat) (o : Int) (w : World) (ha : Ints .i64 w w.heap.size A warm) (_hf : Fit .i64 warm) (hb : Ints .i64 w w.heap.size B rest) (_hf2 : Fit .i64 rest) (_ho : (Lit.int .i64 o).wf = true) :
    Calls Try.prog 4 #[.slice A warm.length c, .slice B rest.length d, .int .i64 o] w fun e w' => e = .returned (.bool true) ∧ Below w.heap.size w w' := by
  by_cases hlong : 20 < warm.length
  · have hI : (20 : Int) < (warm.length : Int) := by omega
    go_enter Try.func4, Try.ntmps4
    go_wp2_with fail
    (with_reducible refine (known_any _).mono ?_); rintro e w1 ⟨rfl, b1⟩
    go_wp2_with fail
    go_ret
    exact ⟨rfl, b1⟩
  have hI : (warm.length : Int) ≤ 20 := by omega
  by_cases hlong2 : 300 < rest.length
  · have hI : (300 : Int) < (rest.length : Int) := by omega
    go_enter Try.func4, Try.ntmps4
    go_wp2_with fail
    (with_reducible refine (known_any _).mono ?_); rintro e w1 ⟨rfl, b1⟩
    go_wp2_with fail
    go_ret
    exact ⟨rfl, b1⟩
  · have hI2 : (rest.length : Int) ≤ 300 := by omega
    have q1 : eqI (backP warm rest o).1 (backP warm rest o).1 = true := eqI_refl _
    have q2 : ((backP warm rest o).2 == (backP warm rest o).2) = true := by simp
    have hln := @backP_len warm rest o
    clear hlong hlong2
    go_enter Try.func4, Try.ntmps4
    go_wp2_with fail
    (with_reducible refine (known_any _).mono ?_); rintro e w1 ⟨rfl, b1⟩
    go_wp2_with fail
    (with_reducible refine (backL_any warm rest o (by omega) (by omega) _ _ _ _ _ ((ha.below b1).more b1.size) ((hb.below b1).more b1.size)).mono ?_); rintro e w2 ⟨A2, c2, rfl, ho2, b2⟩
    have B2 := bth b1 b2
    have x2 := own_ints ho2
    go_wp2_with fail
    (with_reducible refine (backR_any warm rest o (by omega) (by omega) _ _ _ _ _ ((ha.below B2).more B2.size) ((hb.below B2).more B2.size)).mono ?_); rintro e w3 ⟨A3, c3, rfl, ho3, b3⟩
    have B3 := bth B2 b3
    have x3 := own_ints ho3
    go_wp2_with fail
    (with_reducible refine (same_q (backP warm rest o).1 (backP warm rest o).1 _ _ rfl rfl (by omega) (by omega) _ _ _ _ _ _ _ (x2.below b3) x3).mono ?_); rintro e w4 ⟨rfl, b4⟩
    rw [q1]
    go_wp2_with fail
    go_ret
    exact ⟨rfl, bth B3 b4⟩
end Go.Proofs.Ytbigocjodclbhaa
