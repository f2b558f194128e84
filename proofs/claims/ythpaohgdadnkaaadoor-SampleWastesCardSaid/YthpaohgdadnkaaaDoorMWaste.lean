/-
  SampleWastes: the walk of the law.
-/
import Derived.Test.YthpaohgdadnkaaaDoorProg
import Derived.Test.YthpaohgdadnkaaaDoorMWasteW
namespace Go.Proofs.YthpaohgdadnkaaaDoor
open Go.RowKit

set_option maxHeartbeats 2000000 in
set_option maxRecDepth 100000 in
theorem wastes_any (l : List Int) (_ml : l.length ≤ 9223372036854775807) (A : Option Addr) (ca : Nat) (w : World) (hT : Tab w) (ha : Ints .i64 w w.heap.size A l) :
    Calls Tryd.prog 8 #[.slice A l.length ca] w fun e w' => e = .returned (.bool true) ∧ Below w.heap.size w w' := by
  have HT := Lib.hid hT
  clear hT
  by_cases q1 : 200 < l.length
  · have hI : (200 : Int) < (l.length : Int) := by omega
    go_enter Tryd.func8, Tryd.ntmps8
    go_wp2_with fail
    (with_reducible refine (known_any _ HT.out).mono ?_); rintro e w1 ⟨rfl, b1⟩
    go_wp2_with fail
    go_ret
    exact ⟨rfl, b1⟩
  have q1I : (l.length : Int) ≤ 200 := by omega
  cases hW : l.all wideB with
  | false =>
    go_enter Tryd.func8, Tryd.ntmps8
    go_wp2_with fail
    (with_reducible refine (known_any _ HT.out).mono ?_); rintro e w1 ⟨rfl, b1⟩
    go_wp2_with fail
    (with_reducible refine (allwideR_any l _ rfl (by omega) _ _ _ _ (ha.below b1)).mono ?_); rintro e w' ⟨rfl, rfl⟩
    go_wp2_with fail
    go_ret
    exact ⟨rfl, b1⟩
  | true =>
    obtain ⟨k, h30, hk⟩ := waste_nat (orTo l)
    have hk30 : (k : Int) ≤ 30 := by omega
    have HD := Lib.hid (down_waste hW hk h30)
    have HU := Lib.hid (up_waste hW hk h30)
    have HA := Lib.hid (waste_again hW hk h30)
    have HS := Lib.hid (width_shift (k := k) l fun x hx => ⟨List.all_eq_true.1 hW x hx, waste_div hk h30 x hx⟩)
    have Hk := Lib.hid hk
    have es := Lib.hid (eqI_true (xs := l) (ys := l) rfl)
    have hml : (l.map (· / 2 ^ k)).length = l.length := by simp
    obtain ⟨D, hD⟩ : ∃ D, D = l.map (· / 2 ^ k) := ⟨_, rfl⟩
    rw [← hD] at HD HU HA HS hml
    have Hml := Lib.hid hml
    clear hk hD hml q1
    go_enter Tryd.func8, Tryd.ntmps8
    go_wp2_with fail
    (with_reducible refine (known_any _ HT.out).mono ?_); rintro e w1 ⟨rfl, b1⟩
    have B1 := Lib.hid b1
    have za := Lib.hid (ha.below b1)
    clear b1
    have t1 := allwideR_any l _ rfl (by omega) _ _ ca w1 za.out
    rw [hW] at t1
    go_wp2_with fail
    (with_reducible refine t1.mono ?_); rintro e w' ⟨rfl, rfl⟩
    clear t1
    have t1 := wastedL_any l l.length rfl (by omega) A _ ca w' (HT.out.below B1.out) za.out
    rw [Hk.out] at t1
    go_wp2_with fail
    (with_reducible refine t1.mono ?_); rintro e w2 ⟨rfl, rfl⟩
    clear t1
    have t1 := downL_any l l.length rfl (by omega) k A ca w2 (za.out.more B1.out.size)
    rw [HD.out] at t1
    go_wp2_with fail
    (with_reducible refine t1.mono ?_); rintro e w3 ⟨R1, r1, rfl, o1, b3⟩
    have B3 := Lib.hid (bth B1.out b3)
    have za := Lib.hid (za.out.below (b3.mono B1.out.size))
    have z1 := Lib.hid o1.ints
    clear t1 o1 b3
    have t1 := upL_any D D.length rfl (by have := Hml.out; omega) k R1 r1 w3 z1.out
    rw [HU.out] at t1
    go_wp2_with fail
    (with_reducible refine t1.mono ?_); rintro e w4 ⟨R2, r2, rfl, o2, b4⟩
    have B4 := Lib.hid (bth B3.out b4)
    have za := Lib.hid (za.out.below (b4.mono B3.out.size))
    have z1 := Lib.hid ((z1.out.below b4).more b4.size)
    have z2 := Lib.hid o2.ints
    clear t1 o2 b4
    have t1 := same_q l l l.length l.length rfl rfl (by omega) (by omega) R2 A _ _ r2 ca w4 z2.out za.out
    rw [es.out] at t1
    go_wp2_with fail
    (with_reducible refine t1.mono ?_); rintro e w5 ⟨rfl, b5⟩
    have B5 := Lib.hid (bth B4.out b5)
    have za := Lib.hid (za.out.below (b5.mono B4.out.size))
    have z1 := Lib.hid ((z1.out.below b5).more b5.size)
    clear t1 b5
    have t1 := wastedL_any D D.length rfl (by have := Hml.out; omega) R1 _ r1 w5 (HT.out.below B5.out) z1.out
    rw [HA.out] at t1
    go_wp2_with fail
    (with_reducible refine t1.mono ?_); rintro e w6 ⟨rfl, rfl⟩
    clear t1
    obtain ⟨u, hu⟩ : ∃ u, u = widthN l := ⟨_, rfl⟩
    obtain ⟨v, hv⟩ : ∃ v, v = widthN D := ⟨_, rfl⟩
    have t1 := widthL_any l l.length rfl (by omega) A _ ca w6 za.out
    rw [← hu] at t1 HS
    rw [← hv] at HS
    have Hu := Lib.hid hu
    have Hv := Lib.hid hv
    clear hu hv
    go_wp2_with fail
    (with_reducible refine t1.mono ?_); rintro e w7 ⟨rfl, n7, h7⟩
    have B7 : Hid (Below w6.heap.size w6 w7) := by show Below _ _ _; rw [h7]; exact below_drewN (brefl w6) _
    clear t1 h7
    have Be := Lib.hid (bth B5.out B7.out)
    rcases HS.out with ⟨rfl, _⟩ | ⟨rfl, hv1⟩
    · go_wp2_with fail
      go_ret
      exact ⟨rfl, Be.out⟩
    · have hne : (((v + k : Nat) : Int) == 0) = false := beq_eq_false_iff_ne.2 (by omega)
      have za := Lib.hid (za.out.below (B7.out.mono B5.out.size))
      have z1 := Lib.hid ((z1.out.below B7.out).more B7.out.size)
      have hvk : v + k ≤ 32 := by rw [Hu.out]; exact widthN_le l
      have t1 := widthL_any D D.length rfl (by have := Hml.out; omega) R1 _ r1 w7 z1.out
      rw [← Hv.out] at t1
      go_wp2_with fail
      (with_reducible refine t1.mono ?_); rintro e w8 ⟨rfl, n8, h8⟩
      have B8 : Hid (Below w7.heap.size w7 w8) := by show Below _ _ _; rw [h8]; exact below_drewN (brefl w7) _
      have za8 := Lib.hid (za.out.below (B8.out.mono Be.out.size))
      clear t1 h8
      have t1 := widthL_any l l.length rfl (by omega) A _ ca w8 za8.out
      rw [← Hu.out] at t1
      go_wp2_with fail
      (with_reducible refine t1.mono ?_); rintro e w9 ⟨rfl, n9, h9⟩
      have B9 : Hid (Below w8.heap.size w8 w9) := by show Below _ _ _; rw [h9]; exact below_drewN (brefl w8) _
      have ek : ((v + k : Nat) : Int) - (k : Int) = (v : Int) := by omega
      have Bz := Lib.hid (bth (bth Be.out B8.out) B9.out)
      clear t1 h9
      go_wp2_with fail
      go_ret
      exact ⟨rfl, Bz.out⟩
end Go.Proofs.YthpaohgdadnkaaaDoor
