/-
  LinearRound: the walk of the law.
-/
import Derived.Test.YtmbebcgicddbnaaProg
import Derived.Test.YtmbebcgicddbnaaNK
namespace Go.Proofs.Ytmbebcgicddbnaa
open Go.RowKit

theorem OwnZ.cap {w : World} {B : Nat} {A : Option Addr} {n c : Nat} {l : List Int} (h : OwnZ w B A n c l) : n ≤ c := (own_cap h).1

set_option maxHeartbeats 2000000 in
theorem lround_any (l : List Int) (hm : l.length ≤ 9223372036854775807) (A : Option Addr) (c : Nat) (hcap : l.length ≤ c) (warm : List Int) (hm2 : warm.length ≤ 9223372036854775807) (A2 : Option Addr) (c2 : Nat) (rest : List Int) (hm3 : rest.length ≤ 9223372036854775807) (A3 : Option Addr) (c3 : Nat) (cs : List Int) (hm4 : cs.length ≤ 9223372036854775807) (A4 : Option Addr) (c4 : Nat) (sh : Int) (w : World)
    (ha : Ints .i64 w w.heap.size A l) (_f1 : Fit .i64 l) (hb : Ints .i64 w w.heap.size A2 warm) (_f2 : Fit .i64 warm) (hc : Ints .i64 w w.heap.size A3 rest) (_f3 : Fit .i64 rest) (hd : Ints .i64 w w.heap.size A4 cs) (_f4 : Fit .i64 cs) (_f5 : (Lit.int .i64 sh).wf = true) :
    Calls Try.prog 4 #[.slice A l.length c, .slice A2 warm.length c2, .slice A3 rest.length c3, .slice A4 cs.length c4, .int .i64 sh] w fun e w' => e = .returned (.bool true) ∧ Below w.heap.size w w' := by
  by_cases q0 : 200 < l.length
  · have hI : (200 : Int) < (l.length : Int) := by omega
    go_enter Try.func4, Try.ntmps4
    go_wp2_with fail
    (with_reducible refine (known_any _).mono ?_); rintro e w1 ⟨rfl, b1⟩
    go_wp2_with fail
    go_ret
    exact ⟨rfl, b1⟩
  have q0I : (l.length : Int) ≤ 200 := by omega
  by_cases q1 : 200 < rest.length
  · have hI : (200 : Int) < (rest.length : Int) := by omega
    go_enter Try.func4, Try.ntmps4
    go_wp2_with fail
    (with_reducible refine (known_any _).mono ?_); rintro e w1 ⟨rfl, b1⟩
    go_wp2_with fail
    go_ret
    exact ⟨rfl, b1⟩
  have q1I : (rest.length : Int) ≤ 200 := by omega
  by_cases q2 : 40 < warm.length
  · have hI : (40 : Int) < (warm.length : Int) := by omega
    go_enter Try.func4, Try.ntmps4
    go_wp2_with fail
    (with_reducible refine (known_any _).mono ?_); rintro e w1 ⟨rfl, b1⟩
    go_wp2_with fail
    go_ret
    exact ⟨rfl, b1⟩
  have q2I : (warm.length : Int) ≤ 40 := by omega
  by_cases q3 : 40 < cs.length
  · have hI : (40 : Int) < (cs.length : Int) := by omega
    go_enter Try.func4, Try.ntmps4
    go_wp2_with fail
    (with_reducible refine (known_any _).mono ?_); rintro e w1 ⟨rfl, b1⟩
    go_wp2_with fail
    go_ret
    exact ⟨rfl, b1⟩
  have q3I : (cs.length : Int) ≤ 40 := by omega
  clear q0 q1 q2 q3
  by_cases hr : (lrestP l cs sh).2 = 0
  · have hre : ((lrestP l cs sh).2 == 0) = true := by simp [hr]
    obtain ⟨ol, hrl, hrb⟩ := round_rest hr
    have Hrb := Lib.hid hrb
    have hln : (((lrestP l cs sh).1.length : Int) != (l.length : Int) - (cs.length : Int)) = false := by simp; omega
    have hlt : (l.take cs.length).length = cs.length := by rw [List.length_take]; omega
    have Hlt := Lib.hid hlt
    have s1 : eqI l l = true := eqI_refl _
    have hcI : cs.length ≤ c := by omega
    have hcI2 : (cs.length : Int) ≤ (l.length : Int) := by omega
    have hll := @lrestP_len l cs sh
    clear hr hrb hlt hrl
    go_enter Try.func4, Try.ntmps4
    go_wp2_with fail
    (with_reducible refine (known_any _).mono ?_); rintro e w1 ⟨rfl, b1⟩
    go_wp2_with fail
    (with_reducible refine (restL_any l cs _ _ rfl rfl (by omega) (by omega) _ _ _ _ _ hcap _ ((ha.below b1).more b1.size) ((hd.below b1).more b1.size)).mono ?_); rintro e w2 ⟨R2, r2, rfl, hr2, b2⟩
    have B2 := bth b1 b2
    go_wp2_with fail
    (with_reducible refine (backL_any (l.take cs.length) (lrestP l cs sh).1 cs _ _ _ Hlt.out.symm rfl rfl (by omega) (by omega) (by omega) _ _ _ _ _ _ _ _ ((ints_take (ha.below B2) _).more B2.size) (OwnZ.ints hr2) ((hd.below B2).more B2.size)).mono ?_); rintro e w3 ⟨R3, r3, rfl, hr3, b3⟩
    rw [Hrb.out] at hr3 ⊢
    have B3 := bth B2 b3
    go_wp2_with fail
    (with_reducible refine (same_q l l _ _ rfl rfl (by omega) (by omega) _ _ _ _ _ _ _ ((ha.below B3).more B3.size) (OwnZ.ints hr3)).mono ?_); rintro e w4 ⟨rfl, b4⟩
    rw [s1]
    have B4 := bth B3 b4
    clear b1 b2 b3 b4 hr2 hr3 B2 B3
    go_wp2_with fail
    (with_reducible refine (backL_any warm rest cs _ _ _ rfl rfl rfl (by omega) (by omega) (by omega) _ _ _ _ _ _ _ _ ((hb.below B4).more B4.size) ((hc.below B4).more B4.size) ((hd.below B4).more B4.size)).mono ?_); rintro e u1 ⟨P1, p1, rfl, ho1, b1⟩
    have U1 := bth B4 b1
    by_cases hg : (lbackP warm rest cs sh).2 = 0
    · have hgb : ((lbackP warm rest cs sh).2 != 0) = false := by simp [hg]
      obtain ⟨hrb, hrl⟩ := round_back hg
      have Hrb := Lib.hid hrb
      have Hrl := Lib.hid hrl
      have s1 : eqI rest rest = true := eqI_refl _
      have hlm : (lbackP warm rest cs sh).1.length ≤ 310 := by omega
      have sl : (((lbackP warm rest cs sh).1.length : Int) == (warm.length : Int) + (rest.length : Int)) = true := by simp; omega
      clear hg hrb hrl
      go_wp2_with fail
      (with_reducible refine (restL_any (lbackP warm rest cs sh).1 cs _ _ rfl rfl (by omega) (by omega) _ _ _ _ _ ho1.cap _ (OwnZ.ints ho1) ((hd.below U1).more U1.size)).mono ?_); rintro e u2 ⟨P2, p2, rfl, ho2, b2⟩
      rw [Hrb.out] at ho2 ⊢
      have U2 := bth U1 b2
      go_wp2_with fail
      (with_reducible refine (same_q rest rest _ _ rfl rfl (by omega) (by omega) _ _ _ _ _ _ _ (OwnZ.ints ho2) ((hc.below U2).more U2.size)).mono ?_); rintro e u3 ⟨rfl, b3⟩
      rw [s1]
      go_wp2_with fail
      go_ret
      exact ⟨rfl, bth U2 b3⟩
    · have hgb : ((lbackP warm rest cs sh).2 != 0) = true := by simp [hg]
      have he := Lib.hid (lback_err hg)
      rw [he.out]
      clear hg
      go_wp2_with fail
      go_ret
      exact ⟨rfl, U1⟩
  · have hre : ((lrestP l cs sh).2 == 0) = false := by simp [hr]
    clear hr
    go_enter Try.func4, Try.ntmps4
    go_wp2_with fail
    (with_reducible refine (known_any _).mono ?_); rintro e w1 ⟨rfl, b1⟩
    go_wp2_with fail
    (with_reducible refine (restL_any l cs _ _ rfl rfl (by omega) (by omega) _ _ _ _ _ hcap _ ((ha.below b1).more b1.size) ((hd.below b1).more b1.size)).mono ?_); rintro e w2 ⟨R2, r2, rfl, hr2, b2⟩
    have B2 := bth b1 b2
    clear b1 b2 hr2
    go_wp2_with fail
    (with_reducible refine (backL_any warm rest cs _ _ _ rfl rfl rfl (by omega) (by omega) (by omega) _ _ _ _ _ _ _ _ ((hb.below B2).more B2.size) ((hc.below B2).more B2.size) ((hd.below B2).more B2.size)).mono ?_); rintro e u1 ⟨P1, p1, rfl, ho1, b1⟩
    have U1 := bth B2 b1
    by_cases hg : (lbackP warm rest cs sh).2 = 0
    · have hgb : ((lbackP warm rest cs sh).2 != 0) = false := by simp [hg]
      obtain ⟨hrb, hrl⟩ := round_back hg
      have Hrb := Lib.hid hrb
      have Hrl := Lib.hid hrl
      have s1 : eqI rest rest = true := eqI_refl _
      have hlm : (lbackP warm rest cs sh).1.length ≤ 310 := by omega
      have sl : (((lbackP warm rest cs sh).1.length : Int) == (warm.length : Int) + (rest.length : Int)) = true := by simp; omega
      clear hg hrb hrl
      go_wp2_with fail
      (with_reducible refine (restL_any (lbackP warm rest cs sh).1 cs _ _ rfl rfl (by omega) (by omega) _ _ _ _ _ ho1.cap _ (OwnZ.ints ho1) ((hd.below U1).more U1.size)).mono ?_); rintro e u2 ⟨P2, p2, rfl, ho2, b2⟩
      rw [Hrb.out] at ho2 ⊢
      have U2 := bth U1 b2
      go_wp2_with fail
      (with_reducible refine (same_q rest rest _ _ rfl rfl (by omega) (by omega) _ _ _ _ _ _ _ (OwnZ.ints ho2) ((hc.below U2).more U2.size)).mono ?_); rintro e u3 ⟨rfl, b3⟩
      rw [s1]
      go_wp2_with fail
      go_ret
      exact ⟨rfl, bth U2 b3⟩
    · have hgb : ((lbackP warm rest cs sh).2 != 0) = true := by simp [hg]
      have he := Lib.hid (lback_err hg)
      rw [he.out]
      clear hg
      go_wp2_with fail
      go_ret
      exact ⟨rfl, U1⟩
end Go.Proofs.Ytmbebcgicddbnaa
