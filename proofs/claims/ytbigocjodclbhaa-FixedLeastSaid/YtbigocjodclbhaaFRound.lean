/-
  FixedRound, FixedSteps, FixedLeast: the walks of the laws.
-/
import Derived.Test.YtbigocjodclbhaaProg
import Derived.Test.YtbigocjodclbhaaFH
import Derived.Test.YtbigocjodclbhaaFL
import Derived.Test.YtbigocjodclbhaaO
namespace Go.Proofs.Ytbigocjodclbhaa
open Go.RowKit

theorem back_err {warm rest : List Int} {o : Int} (h : (backP warm rest o).2 ≠ 0) : (backP warm rest o).1 = [] := by
  unfold backP at h ⊢
  (repeat' split) <;> simp_all
theorem backP_okc {warm rest : List Int} {o : Int} (h : (backP warm rest o).2 = 0) : okBack warm o = true ∧ allWideB warm = true ∧ allWideB rest = true ∧ backTo o.toNat warm rest = some (backP warm rest o).1 := by
  unfold backP at h ⊢
  by_cases h1 : okBack warm o = false
  · simp [h1] at h
  · by_cases h2 : allWideB warm = false
    · simp [h1, h2] at h
    · by_cases h3 : allWideB rest = false
      · simp [h1, h2, h3] at h
      · simp at h1 h2 h3
        cases h4 : backTo o.toNat warm rest with
        | none => simp [h1, h2, h3, h4] at h
        | some m => simp [h1, h2, h3]
theorem round_back {warm rest : List Int} {o : Int} (h : (backP warm rest o).2 = 0) : restP (backP warm rest o).1 o = (rest, 0) ∧ (backP warm rest o).1.length = warm.length + rest.length := by
  obtain ⟨h1, h2, h3, h4⟩ := backP_okc h
  obtain ⟨o0, o4, ol⟩ := okBack_true.1 h1
  have hlen := backTo_len h4
  have hd : diffN warm o.toNat = [] := List.eq_nil_of_length_eq_zero (by rw [diffN_len]; omega)
  obtain ⟨hw, hdd⟩ := rest_back (o := o.toNat) (by omega) h2 (by simp; omega) hd h4
  rw [List.nil_append] at hdd
  refine ⟨?_, hlen⟩
  rw [restP_ok (okOrder_true.2 ⟨o0, o4, by omega⟩) hw (by rw [hdd]; exact h3), hdd]
theorem round_rest {l : List Int} {o : Int} (h : (restP l o).2 = 0) : 0 ≤ o ∧ o ≤ 4 ∧ o ≤ l.length ∧ (restP l o).1.length = l.length - o.toNat ∧ backP (l.take o.toNat) (restP l o).1 o = (l, 0) := by
  obtain ⟨h1, h2, h3, h4⟩ := restP_okc h
  obtain ⟨o0, o4, ol⟩ := okOrder_true.1 h1
  have hlt : (l.take o.toNat).length = o.toNat := by rw [List.length_take]; omega
  refine ⟨o0, o4, ol, by rw [h4, diffN_len], ?_⟩
  rw [h4]
  refine backP_some (okBack_true.2 ⟨o0, o4, by omega⟩) (allWideB_true.2 fun k hk => ?_) h3 (back_rest (by omega) (by omega) h2)
  rw [ix_take (by omega)]
  exact allWideB_true.1 h2 k (by omega)
theorem ints_take {k : IntKind} {w : World} {B : Nat} {A : Option Addr} {l : List Int} (h : Ints k w B A l) (n : Nat) : Ints k w B A (l.take n) := fun hn => by
  obtain ⟨b, off, e, hb, hc⟩ := h (by rw [List.length_map] at hn ⊢; rw [List.length_take] at hn; omega)
  refine ⟨b, off, e, hb, fun i u hu => hc i u ?_⟩
  rw [List.map_take, List.getElem?_take] at hu
  split at hu
  · exact hu
  · cases hu

set_option maxHeartbeats 2000000 in
theorem round_any (l : List Int) (hm : l.length ≤ 9223372036854775807) (A : Option Addr) (c : Nat) (hcap : l.length ≤ c) (warm : List Int) (hm2 : warm.length ≤ 9223372036854775807) (A2 : Option Addr) (c2 : Nat) (rest : List Int) (hm3 : rest.length ≤ 9223372036854775807) (A3 : Option Addr) (c3 : Nat) (o : Int) (w : World)
    (ha : Ints .i64 w w.heap.size A l) (_f1 : Fit .i64 l) (hb : Ints .i64 w w.heap.size A2 warm) (_f2 : Fit .i64 warm) (hc : Ints .i64 w w.heap.size A3 rest) (_f3 : Fit .i64 rest) (_f4 : (Lit.int .i64 o).wf = true) :
    Calls Try.prog 5 #[.slice A l.length c, .slice A2 warm.length c2, .slice A3 rest.length c3, .int .i64 o] w fun e w' => e = .returned (.bool true) ∧ Below w.heap.size w w' := by
  by_cases q1 : 300 < l.length
  · have hI : (300 : Int) < (l.length : Int) := by omega
    go_enter Try.func5, Try.ntmps5
    go_wp2_with fail
    (with_reducible refine (known_any _).mono ?_); rintro e w1 ⟨rfl, b1⟩
    go_wp2_with fail
    go_ret
    exact ⟨rfl, b1⟩
  have q1I : (l.length : Int) ≤ 300 := by omega
  by_cases q2 : 300 < rest.length
  · have hI : (300 : Int) < (rest.length : Int) := by omega
    go_enter Try.func5, Try.ntmps5
    go_wp2_with fail
    (with_reducible refine (known_any _).mono ?_); rintro e w1 ⟨rfl, b1⟩
    go_wp2_with fail
    go_ret
    exact ⟨rfl, b1⟩
  have q2I : (rest.length : Int) ≤ 300 := by omega
  by_cases q3 : 10 < warm.length
  · have hI : (10 : Int) < (warm.length : Int) := by omega
    go_enter Try.func5, Try.ntmps5
    go_wp2_with fail
    (with_reducible refine (known_any _).mono ?_); rintro e w1 ⟨rfl, b1⟩
    go_wp2_with fail
    go_ret
    exact ⟨rfl, b1⟩
  have q3I : (warm.length : Int) ≤ 10 := by omega
  clear q1 q2 q3
  by_cases hr : (restP l o).2 = 0
  · have hre : ((restP l o).2 == 0) = true := by simp [hr]
    obtain ⟨o0, o4, ol, hrl, hrb⟩ := round_rest hr
    obtain ⟨n, rfl⟩ : ∃ n : Nat, o = (n : Int) := ⟨o.toNat, by omega⟩
    rw [Int.toNat_natCast] at hrl hrb
    have Hrb := Lib.hid hrb
    have hln : (((restP l ↑n).1.length : Int) != (l.length : Int) - (n : Int)) = false := by simp; omega
    have hlt : (l.take n).length = n := by rw [List.length_take]; omega
    have Hlt := Lib.hid hlt
    have s1 : eqI l l = true := eqI_refl _
    have hcI : (n : Int) ≤ (c : Int) := by omega
    clear hr hrb hlt hrl
    go_enter Try.func5, Try.ntmps5
    go_wp2_with fail
    (with_reducible refine (known_any _).mono ?_); rintro e w1 ⟨rfl, b1⟩
    go_wp2_with fail
    (with_reducible refine (restL_any l n (by omega) _ _ _ ((ha.below b1).more b1.size)).mono ?_); rintro e w2 ⟨R2, r2, rfl, hr2, b2⟩
    have B2 := bth b1 b2
    have z2 := own_ints hr2
    have hll := @restP_len l n
    go_wp2_with fail
    have hbk := backL_any (l.take n) (restP l ↑n).1 n (by omega) (by rw [Hlt.out]; omega) A R2 c r2 w2 ((ints_take (ha.below B2) n).more B2.size) z2
    rw [Hlt.out, Hrb.out] at hbk
    have Hbk := Lib.hid hbk
    clear hbk
    (with_reducible refine Hbk.out.mono ?_); rintro e w3 ⟨R3, r3, rfl, hr3, b3⟩
    have B3 := bth B2 b3
    go_wp2_with fail
    (with_reducible refine (same_q l l _ _ rfl rfl (by omega) (by omega) _ _ _ _ _ _ _ ((ha.below B3).more B3.size) (own_ints hr3)).mono ?_); rintro e w4 ⟨rfl, b4⟩
    rw [s1]
    have B4 := bth B3 b4
    go_wp2_with fail
    (with_reducible refine (backL_any warm rest ↑n (by omega) (by omega) _ _ _ _ _ ((hb.below B4).more B4.size) ((hc.below B4).more B4.size)).mono ?_); rintro e u1 ⟨P1, p1, rfl, ho1, b1⟩
    have U1 := bth B4 b1
    have y1 := own_ints ho1
    by_cases hg : (backP warm rest ↑n).2 = 0
    · have hgb : ((backP warm rest ↑n).2 != 0) = false := by simp [hg]
      obtain ⟨hrb, hrl⟩ := round_back hg
      have Hrb := Lib.hid hrb
      have Hrl := Lib.hid hrl
      have s1 : eqI rest rest = true := eqI_refl _
      have hlm : (backP warm rest ↑n).1.length ≤ 310 := by omega
      have sl : (((backP warm rest ↑n).1.length : Int) == (warm.length : Int) + (rest.length : Int)) = true := by simp; omega
      clear hg hrb hrl
      go_wp2_with fail
      (with_reducible refine (restL_any (backP warm rest ↑n).1 ↑n (by omega) _ _ _ y1).mono ?_); rintro e u2 ⟨P2, p2, rfl, ho2, b2⟩
      rw [Hrb.out] at ho2 ⊢
      have U2 := bth U1 b2
      go_wp2_with fail
      (with_reducible refine (same_q rest rest _ _ rfl rfl (by omega) (by omega) _ _ _ _ _ _ _ (own_ints ho2) ((hc.below U2).more U2.size)).mono ?_); rintro e u3 ⟨rfl, b3⟩
      rw [s1]
      go_wp2_with fail
      go_ret
      exact ⟨rfl, bth U2 b3⟩
    · have hgb : ((backP warm rest ↑n).2 != 0) = true := by simp [hg]
      have he := Lib.hid (back_err hg)
      rw [he.out]
      clear hg
      go_wp2_with fail
      go_ret
      exact ⟨rfl, U1⟩
  · have hre : ((restP l o).2 == 0) = false := by simp [hr]
    clear hr
    go_enter Try.func5, Try.ntmps5
    go_wp2_with fail
    (with_reducible refine (known_any _).mono ?_); rintro e w1 ⟨rfl, b1⟩
    go_wp2_with fail
    (with_reducible refine (restL_any l o (by omega) _ _ _ ((ha.below b1).more b1.size)).mono ?_); rintro e w2 ⟨R2, r2, rfl, hr2, b2⟩
    have B2 := bth b1 b2
    go_wp2_with fail
    (with_reducible refine (backL_any warm rest o (by omega) (by omega) _ _ _ _ _ ((hb.below B2).more B2.size) ((hc.below B2).more B2.size)).mono ?_); rintro e u1 ⟨P1, p1, rfl, ho1, b1⟩
    have U1 := bth B2 b1
    have y1 := own_ints ho1
    by_cases hg : (backP warm rest o).2 = 0
    · have hgb : ((backP warm rest o).2 != 0) = false := by simp [hg]
      obtain ⟨hrb, hrl⟩ := round_back hg
      have Hrb := Lib.hid hrb
      have Hrl := Lib.hid hrl
      have s1 : eqI rest rest = true := eqI_refl _
      have hlm : (backP warm rest o).1.length ≤ 310 := by omega
      have sl : (((backP warm rest o).1.length : Int) == (warm.length : Int) + (rest.length : Int)) = true := by simp; omega
      clear hg hrb hrl
      go_wp2_with fail
      (with_reducible refine (restL_any (backP warm rest o).1 o (by omega) _ _ _ y1).mono ?_); rintro e u2 ⟨P2, p2, rfl, ho2, b2⟩
      rw [Hrb.out] at ho2 ⊢
      have U2 := bth U1 b2
      go_wp2_with fail
      (with_reducible refine (same_q rest rest _ _ rfl rfl (by omega) (by omega) _ _ _ _ _ _ _ (own_ints ho2) ((hc.below U2).more U2.size)).mono ?_); rintro e u3 ⟨rfl, b3⟩
      rw [s1]
      go_wp2_with fail
      go_ret
      exact ⟨rfl, bth U2 b3⟩
    · have hgb : ((backP warm rest o).2 != 0) = true := by simp [hg]
      have he := Lib.hid (back_err hg)
      rw [he.out]
      clear hg
      go_wp2_with fail
      go_ret
      exact ⟨rfl, U1⟩

theorem steps_ok {l : List Int} {n : Nat} (h1 : (restP l (n : Int)).2 = 0) (h2 : (restP l ((n : Int) + 1)).2 = 0) (h3 : (restP l (n : Int)).1.length ≠ 0) : restP (restP l (n : Int)).1 1 = ((restP l ((n : Int) + 1)).1, 0) := by
  obtain ⟨_, _, a3, a4⟩ := restP_okc h1
  obtain ⟨_, _, c3, c4⟩ := restP_okc h2
  rw [Int.toNat_natCast] at a3 a4
  rw [show ((n : Int) + 1).toNat = n + 1 from by omega] at c3 c4
  rw [a4] at h3 ⊢
  rw [c4]
  exact restP_ok (okOrder_true.2 ⟨by omega, by omega, by omega⟩) a3 c3

set_option maxHeartbeats 1000000 in
theorem steps_any (l : List Int) (hm : l.length ≤ 9223372036854775807) (A : Option Addr) (c : Nat) (o : Int) (w : World) (ha : Ints .i64 w w.heap.size A l) (_f1 : Fit .i64 l) (_f4 : (Lit.int .i64 o).wf = true) :
    Calls Try.prog 6 #[.slice A l.length c, .int .i64 o] w fun e w' => e = .returned (.bool true) ∧ Below w.heap.size w w' := by
  by_cases q1 : 300 < l.length
  · have hI : (300 : Int) < (l.length : Int) := by omega
    go_enter Try.func6, Try.ntmps6
    go_wp2_with fail
    (with_reducible refine (known_any _).mono ?_); rintro e w1 ⟨rfl, b1⟩
    go_wp2_with fail
    go_ret
    exact ⟨rfl, b1⟩
  have q1I : (l.length : Int) ≤ 300 := by omega
  by_cases q2 : o < 0
  · go_enter Try.func6, Try.ntmps6
    go_wp2_with fail
    (with_reducible refine (known_any _).mono ?_); rintro e w1 ⟨rfl, b1⟩
    go_wp2_with fail
    go_ret
    exact ⟨rfl, b1⟩
  by_cases q3 : 3 < o
  · go_enter Try.func6, Try.ntmps6
    go_wp2_with fail
    (with_reducible refine (known_any _).mono ?_); rintro e w1 ⟨rfl, b1⟩
    go_wp2_with fail
    go_ret
    exact ⟨rfl, b1⟩
  obtain ⟨n, rfl⟩ : ∃ n : Nat, o = (n : Int) := ⟨o.toNat, by omega⟩
  have nI : (n : Int) ≤ 3 := by omega
  have n0 : (0 : Int) ≤ (n : Int) := by omega
  have h1l := @restP_len l n
  have h2l := @restP_len l (n + 1)
  clear q1 q2 q3
  by_cases h1 : (restP l (n : Int)).2 = 0
  · by_cases h2 : (restP l ((n : Int) + 1)).2 = 0
    · by_cases h3 : (restP l (n : Int)).1.length = 0
      · have e1 : ((restP l (n : Int)).2 != 0) = false := by simp [h1]
        have e2 : ((restP l ((n : Int) + 1)).2 != 0) = false := by simp [h2]
        have e3 : (((restP l (n : Int)).1.length : Int) == 0) = true := by simp [h3]
        clear h1 h2 h3
        go_enter Try.func6, Try.ntmps6
        go_wp2_with fail
        (with_reducible refine (known_any _).mono ?_); rintro e w1 ⟨rfl, b1⟩
        go_wp2_with fail
        (with_reducible refine (restL_any l n (by omega) _ _ _ ((ha.below b1).more b1.size)).mono ?_); rintro e w2 ⟨A2, c2, rfl, ho2, b2⟩
        have B2 := bth b1 b2
        go_wp2_with fail
        (with_reducible refine (restL_any l (n + 1) (by omega) _ _ _ ((ha.below B2).more B2.size)).mono ?_); rintro e w3 ⟨A3, c3, rfl, ho3, b3⟩
        have B3 := bth B2 b3
        go_wp2_with fail
        go_ret
        exact ⟨rfl, B3⟩
      · have hs := Lib.hid (steps_ok h1 h2 h3)
        have e1 : ((restP l (n : Int)).2 != 0) = false := by simp [h1]
        have e2 : ((restP l ((n : Int) + 1)).2 != 0) = false := by simp [h2]
        have e3 : (((restP l (n : Int)).1.length : Int) == 0) = false := by simp [h3]
        have s1 : eqI (restP l ((n : Int) + 1)).1 (restP l ((n : Int) + 1)).1 = true := eqI_refl _
        clear h1 h2 h3
        go_enter Try.func6, Try.ntmps6
        go_wp2_with fail
        (with_reducible refine (known_any _).mono ?_); rintro e w1 ⟨rfl, b1⟩
        go_wp2_with fail
        (with_reducible refine (restL_any l n (by omega) _ _ _ ((ha.below b1).more b1.size)).mono ?_); rintro e w2 ⟨A2, c2, rfl, ho2, b2⟩
        have B2 := bth b1 b2
        go_wp2_with fail
        (with_reducible refine (restL_any l (n + 1) (by omega) _ _ _ ((ha.below B2).more B2.size)).mono ?_); rintro e w3 ⟨A3, c3, rfl, ho3, b3⟩
        have B3 := bth B2 b3
        go_wp2_with fail
        (with_reducible refine (restL_any (restP l n).1 1 (by omega) _ _ _ ((own_ints ho2).below b3 |>.more b3.size)).mono ?_); rintro e w4 ⟨A4, c4, rfl, ho4, b4⟩
        rw [hs.out] at ho4 ⊢
        have B4 := bth B3 b4
        go_wp2_with fail
        (with_reducible refine (same_q (restP l ((n : Int) + 1)).1 (restP l ((n : Int) + 1)).1 _ _ rfl rfl (by omega) (by omega) _ _ _ _ _ _ _ ((own_ints ho3).below b4) (own_ints ho4)).mono ?_); rintro e w5 ⟨rfl, b5⟩
        rw [s1]
        go_wp2_with fail
        go_ret
        exact ⟨rfl, bth B4 b5⟩
    · have e1 : ((restP l (n : Int)).2 != 0) = false := by simp [h1]
      have e2 : ((restP l ((n : Int) + 1)).2 != 0) = true := by simp [h2]
      clear h1 h2
      go_enter Try.func6, Try.ntmps6
      go_wp2_with fail
      (with_reducible refine (known_any _).mono ?_); rintro e w1 ⟨rfl, b1⟩
      go_wp2_with fail
      (with_reducible refine (restL_any l n (by omega) _ _ _ ((ha.below b1).more b1.size)).mono ?_); rintro e w2 ⟨A2, c2, rfl, ho2, b2⟩
      have B2 := bth b1 b2
      go_wp2_with fail
      (with_reducible refine (restL_any l (n + 1) (by omega) _ _ _ ((ha.below B2).more B2.size)).mono ?_); rintro e w3 ⟨A3, c3, rfl, ho3, b3⟩
      have B3 := bth B2 b3
      go_wp2_with fail
      go_ret
      exact ⟨rfl, B3⟩
  · have e1 : ((restP l (n : Int)).2 != 0) = true := by simp [h1]
    clear h1
    go_enter Try.func6, Try.ntmps6
    go_wp2_with fail
    (with_reducible refine (known_any _).mono ?_); rintro e w1 ⟨rfl, b1⟩
    go_wp2_with fail
    (with_reducible refine (restL_any l n (by omega) _ _ _ ((ha.below b1).more b1.size)).mono ?_); rintro e w2 ⟨A2, c2, rfl, ho2, b2⟩
    have B2 := bth b1 b2
    go_wp2_with fail
    (with_reducible refine (restL_any l (n + 1) (by omega) _ _ _ ((ha.below B2).more B2.size)).mono ?_); rintro e w3 ⟨A3, c3, rfl, ho3, b3⟩
    have B3 := bth B2 b3
    go_wp2_with fail
    go_ret
    exact ⟨rfl, B3⟩

/-! ### FixedLeast -/
theorem best_least {l : List Int} (h3 : l.length ≤ 4096) (k : Nat) (hk : k ≤ 4) : ∃ b : Nat, b ≤ 4 ∧ (bestLTo l 5).1 = (b : Int) ∧ ((restP l (k : Int)).2 = 0 → weightP l b ≤ weightP l k ∧ (k < b → weightP l b < weightP l k)) := by
  rcases bestL_inv l (fun o => weightP_nonneg h3) 5 with ⟨h1, h2⟩ | ⟨b, hb, h1, h2, h4⟩
  · exact ⟨0, by omega, by rw [h1]; rfl, fun h => absurd h (h2 k (by omega))⟩
  · exact ⟨b, by omega, by rw [h1], fun h => h4 k (by omega) h⟩

theorem and255 (o : Int) : 0 ≤ bits .and .i64 o 255 ∧ bits .and .i64 o 255 ≤ 255 := by
  have h : ((BitVec.ofInt 64 o) &&& (BitVec.ofInt 64 255)).toNat ≤ 255 := by
    rw [BitVec.toNat_and]; exact Nat.le_trans Nat.and_le_right (by decide)
  have e : bits .and .i64 o 255 = IntKind.i64.wrap (((BitVec.ofInt 64 o) &&& (BitVec.ofInt 64 255)).toNat : Int) := rfl
  rw [e, IntWalk.i64_in _ (by omega)]
  omega

set_option maxHeartbeats 1000000 in
theorem least_any (l : List Int) (hm : l.length ≤ 9223372036854775807) (A : Option Addr) (c : Nat) (o : Int) (w : World) (ha : Ints .i64 w w.heap.size A l) (_f1 : Fit .i64 l) (_f4 : (Lit.int .i64 o).wf = true) :
    Calls Try.prog 7 #[.slice A l.length c, .int .i64 o] w fun e w' => e = .returned (.bool true) ∧ Below w.heap.size w w' := by
  by_cases q1 : 300 < l.length
  · have hI : (300 : Int) < (l.length : Int) := by omega
    go_enter Try.func7, Try.ntmps7
    go_wp2_with fail
    (with_reducible refine (known_any _).mono ?_); rintro e w1 ⟨rfl, b1⟩
    go_wp2_with fail
    go_ret
    exact ⟨rfl, b1⟩
  have q1I : (l.length : Int) ≤ 300 := by omega
  obtain ⟨m0, m1⟩ := and255 o
  obtain ⟨k, hk⟩ : ∃ k : Nat, bits .and .i64 o 255 % 5 = (k : Int) := ⟨(bits .and .i64 o 255 % 5).toNat, by omega⟩
  have hk4 : (k : Int) ≤ 4 := by omega
  obtain ⟨b, hb4, hbest, hle⟩ := best_least (l := l) (by omega) k (by omega)
  have Hbest := Lib.hid hbest
  have hb4I : (b : Int) ≤ 4 := by omega
  clear hbest
  by_cases hr : (restP l (k : Int)).2 = 0
  · have e1 : ((restP l (k : Int)).2 != 0) = false := by simp [hr]
    obtain ⟨hle1, hle2⟩ := hle hr
    clear hr
    by_cases hkb : k < b
    · have hlt := hle2 hkb
      have hkbI : (k : Int) < (b : Int) := by omega
      clear hle2 hkb
      go_enter Try.func7, Try.ntmps7
      go_wp2_with fail
      (with_reducible refine (known_any _).mono ?_); rintro e w1 ⟨rfl, b1⟩
      go_wp2_with fail
      (with_reducible refine (bestL_any l (by omega) _ _ _ ((ha.below b1).more b1.size)).mono ?_); rintro e w2 ⟨rfl, b2⟩
      rw [Hbest.out]
      have B2 := bth b1 b2
      go_wp2_with fail
      (with_reducible refine (restL_any l k (by omega) _ _ _ ((ha.below B2).more B2.size)).mono ?_); rintro e w3 ⟨A3, c3, rfl, ho3, b3⟩
      have B3 := bth B2 b3
      go_wp2_with fail
      (with_reducible refine (weightL_any l b (by omega) _ _ _ ((ha.below B3).more B3.size)).mono ?_); rintro e w4 ⟨rfl, b4⟩
      have B4 := bth B3 b4
      go_wp2_with fail
      (with_reducible refine (weightL_any l k (by omega) _ _ _ ((ha.below B4).more B4.size)).mono ?_); rintro e w5 ⟨rfl, b5⟩
      have B5 := bth B4 b5
      go_wp2_with fail
      (with_reducible refine (weightL_any l b (by omega) _ _ _ ((ha.below B5).more B5.size)).mono ?_); rintro e w6 ⟨rfl, b6⟩
      have B6 := bth B5 b6
      go_wp2_with fail
      (with_reducible refine (weightL_any l k (by omega) _ _ _ ((ha.below B6).more B6.size)).mono ?_); rintro e w7 ⟨rfl, b7⟩
      have B7 := bth B6 b7
      go_wp2_with fail
      go_ret
      exact ⟨rfl, B7⟩
    · have hkbI : (b : Int) ≤ (k : Int) := by omega
      clear hle2 hkb
      go_enter Try.func7, Try.ntmps7
      go_wp2_with fail
      (with_reducible refine (known_any _).mono ?_); rintro e w1 ⟨rfl, b1⟩
      go_wp2_with fail
      (with_reducible refine (bestL_any l (by omega) _ _ _ ((ha.below b1).more b1.size)).mono ?_); rintro e w2 ⟨rfl, b2⟩
      rw [Hbest.out]
      have B2 := bth b1 b2
      go_wp2_with fail
      (with_reducible refine (restL_any l k (by omega) _ _ _ ((ha.below B2).more B2.size)).mono ?_); rintro e w3 ⟨A3, c3, rfl, ho3, b3⟩
      have B3 := bth B2 b3
      go_wp2_with fail
      (with_reducible refine (weightL_any l b (by omega) _ _ _ ((ha.below B3).more B3.size)).mono ?_); rintro e w4 ⟨rfl, b4⟩
      have B4 := bth B3 b4
      go_wp2_with fail
      (with_reducible refine (weightL_any l k (by omega) _ _ _ ((ha.below B4).more B4.size)).mono ?_); rintro e w5 ⟨rfl, b5⟩
      have B5 := bth B4 b5
      go_wp2_with fail
      go_ret
      exact ⟨rfl, B5⟩
  · have e1 : ((restP l (k : Int)).2 != 0) = true := by simp [hr]
    clear hr hle
    go_enter Try.func7, Try.ntmps7
    go_wp2_with fail
    (with_reducible refine (known_any _).mono ?_); rintro e w1 ⟨rfl, b1⟩
    go_wp2_with fail
    (with_reducible refine (bestL_any l (by omega) _ _ _ ((ha.below b1).more b1.size)).mono ?_); rintro e w2 ⟨rfl, b2⟩
    rw [Hbest.out]
    have B2 := bth b1 b2
    go_wp2_with fail
    (with_reducible refine (restL_any l k (by omega) _ _ _ ((ha.below B2).more B2.size)).mono ?_); rintro e w3 ⟨A3, c3, rfl, ho3, b3⟩
    have B3 := bth B2 b3
    go_wp2_with fail
    go_ret
    exact ⟨rfl, B3⟩
end Go.Proofs.Ytbigocjodclbhaa
