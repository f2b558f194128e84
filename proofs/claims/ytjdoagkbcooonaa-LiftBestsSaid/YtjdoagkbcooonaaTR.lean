/-
  lift.pair and lift.Best.
-/
import Derived.Test.YtjdoagkbcooonaaProg
import Derived.Test.YtjdoagkbcooonaaTQ
import Derived.Test.YtjdoagkbcooonaaTL
import Derived.Test.YtjdoagkbcooonaaTN2
import Derived.Test.YtjdoagkbcooonaaTK
namespace Go.Proofs.Ytjdoagkbcooonaa
open Go.RowKit

set_option maxHeartbeats 2000000 in
theorem pair_any (R : Nat → List Int) (ht : Two R) (RA : Nat → Option Addr) (RC : Nat → Nat) (A : Option Addr) (c : Nat) (w : World) (h : Rw w w.heap.size A 2 RA RC R) :
    Calls Try.prog 42 #[.slice A 2 c] w (NamedA (namedP (bestM R)) w) := by
  have hlen : Hid (∀ i, i < 2 → (R i).length ≤ 100000) := fun i hi => by
    have h1 := ht.1
    have h2 := ht.2.1
    rcases (show i = 0 ∨ i = 1 by omega) with rfl | rfl <;> omega
  have m0 : (R 0).length ≤ 4096 := ht.2.1
  have HT := Lib.hid ht
  clear ht
  go_enter Try.func42, Try.ntmps42
  go_wp2_with fail
  (with_reducible refine (weightL_any R 2 (by omega) hlen.out RA RC _ _ _ _ h).mono ?_); rintro e w1 ⟨rfl, b1⟩
  go_wp2_with fail
  go_loopw [3, 4, 5, 6, 7, 8] (fun bv lv mv _ _ _ wr => (∃ k : Nat, k ≤ 4 ∧ mv = .int .i64 ((k + 1 : Nat) : Int) ∧ bv = .int .i64 (bestTo R k).1 ∧ lv = .int .i64 (bestTo R k).2) ∧ Below w.heap.size w wr) (fun _ _ mv _ _ _ _ => 5 - (intOf mv).toNat)
  case atStart => exact ⟨⟨0, by omega, rfl, rfl, rfl⟩, b1⟩
  case round =>
    obtain ⟨⟨k, hk, rfl, rfl, rfl⟩, hbl⟩ := hrel
    obtain ⟨wo, rfl⟩ : ∃ wo : World, wo = wr := ⟨_, rfl⟩
    obtain ⟨bs, hbs⟩ : ∃ bs, bs = bestTo R k := ⟨_, rfl⟩
    rw [← hbs]
    have Hbs := Lib.hid hbs
    clear hbs
    by_cases hlt : k < 4
    · obtain ⟨m, hm⟩ : ∃ m : Int, m = ((k + 1 : Nat) : Int) := ⟨_, rfl⟩
      have hm5 : m < 5 := by omega
      have hm0 : 1 ≤ m := by omega
      obtain ⟨Q, hQ⟩ := HT.out.do_ m
      have HQ := Lib.hid hQ
      have Hrw : Hid (resW R m = weightP Q 2) := resW_of hQ
      have hql := doP_len hQ
      have hstep : Hid (bestTo R (k + 1) = if resW R m < bs.2 then (m, resW R m) else bs) := by show _ = _; rw [hm, Hbs.out]; rfl
      have Hm := Lib.hid hm
      rw [← hm]
      clear hm hQ
      go_wp2_with fail
      (with_reducible refine (namedL_any m _).mono ?_); rintro e w2 ⟨A2, k2, rfl, hl2, b2⟩
      have B2 := bth hbl b2
      go_wp2_with fail
      have hcast : ((2 : Nat) : Int) = 2 := rfl
      (with_reducible refine (doL_any R 2 (by omega) hlen.out RA RC (namedP m) _ rfl (by have := named_len m; omega) _ _ _ _ _ ((h.below B2).more B2.size) hl2).mono ?_); rintro e w3 hd3
      obtain ⟨⟨A3, k3, RA3, RC3, rfl, ho3⟩, b3⟩ := do_elim hd3 HQ.out
      have B3 := bth B2 b3
      clear hd3 hcast hl2 b2 b3 B2
      go_wp2_with fail
      (with_reducible refine (weightL_any Q 2 (by omega) (fun i hi => by rw [hql i hi]; omega) RA3 RC3 _ _ _ _ (ho3.rw (by omega))).mono ?_); rintro e w4 ⟨rfl, b4⟩
      rw [← Hrw.out]
      have B4 := bth B3 b4
      clear b4 B3 ho3 hql hbl
      obtain ⟨x, hx⟩ : ∃ x, x = resW R m := ⟨_, rfl⟩
      rw [← hx] at hstep ⊢
      clear hx Hrw
      by_cases hless : x < bs.2
      · go_wp2_with fail
        go_roundw
        case rel =>
          refine ⟨⟨k + 1, by omega, by have := Hm.out; go_num, ?_, ?_⟩, B4⟩
          · rw [hstep.out, if_pos hless]
          · rw [hstep.out, if_pos hless]
        case measure => simp [intOf]; omega
      · go_wp2_with fail
        go_roundw
        case rel =>
          refine ⟨⟨k + 1, by omega, by have := Hm.out; go_num, ?_, ?_⟩, B4⟩
          · rw [hstep.out, if_neg (by omega)]
          · rw [hstep.out, if_neg (by omega)]
        case measure => simp [intOf]; omega
    · have e : k = 4 := by omega
      subst e
      have hbm : Hid (bs.1 = bestM R) := by show _ = _; rw [Hbs.out]; rfl
      go_wp2_with fail
      (with_reducible refine (namedL_at bs.1 _).mono ?_); rintro e w2 ⟨A2, k2, rfl, hl2, b2, p2⟩
      go_wp2_with fail
      go_ret
      rw [← hbm.out]
      exact ⟨A2, k2, rfl, hl2, bth hbl b2, fun p hp => Nat.le_trans hbl.size (p2 p hp)⟩
end Go.Proofs.Ytjdoagkbcooonaa
