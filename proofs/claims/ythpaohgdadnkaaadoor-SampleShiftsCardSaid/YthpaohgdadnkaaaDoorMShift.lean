/-
  SampleShifts: the walk of the law.
-/
import Derived.Test.YthpaohgdadnkaaaDoorProg
import Derived.Test.YthpaohgdadnkaaaDoorMN
import Derived.Test.YthpaohgdadnkaaaDoorMF
namespace Go.Proofs.YthpaohgdadnkaaaDoor
open Go.RowKit

theorem up_len (l : List Int) (n : Int) : (upR l n).1.length ≤ l.length := by
  unfold upR; split
  · split <;> simp
  · simp
theorem down_len (l : List Int) (n : Int) : (downR l n).1.length ≤ l.length := by
  unfold downR; split
  · split <;> simp
  · simp
set_option maxHeartbeats 2000000 in
set_option maxRecDepth 100000 in
theorem shifts_any (l : List Int) (_ml : l.length ≤ 9223372036854775807) (A : Option Addr) (ca : Nat) (n : Int) (w : World) (hT : Tab w) (ha : Ints .i64 w w.heap.size A l) :
    Calls Tryd.prog 7 #[.slice A l.length ca, .int .i64 n] w fun e w' => e = .returned (.bool true) ∧ Below w.heap.size w w' := by
  have HT := Lib.hid hT
  clear hT
  by_cases q1 : 300 < l.length
  · have hI : (300 : Int) < (l.length : Int) := by omega
    go_enter Tryd.func7, Tryd.ntmps7
    go_wp2_with fail
    (with_reducible refine (known_any _ HT.out).mono ?_); rintro e w1 ⟨rfl, b1⟩
    go_wp2_with fail
    go_ret
    exact ⟨rfl, b1⟩
  have q1I : (l.length : Int) ≤ 300 := by omega
  have hdl := down_len l n
  have hul := up_len l n
  obtain ⟨⟨D, de⟩, hD⟩ : ∃ r, downR l n = r := ⟨_, rfl⟩
  obtain ⟨⟨U, ue⟩, hU⟩ : ∃ r, upR l n = r := ⟨_, rfl⟩
  rw [hD] at hdl
  rw [hU] at hul
  simp only at hdl hul
  have HD := Lib.hid hD
  have HU := Lib.hid hU
  obtain ⟨z, hz⟩ : ∃ z, wasteI (orTo l) = z := ⟨_, rfl⟩
  have Hz := Lib.hid hz
  have eD := Lib.hid (eqI_true (xs := D) (ys := D) rfl)
  have eU := Lib.hid (eqI_true (xs := U) (ys := U) rfl)
  have bz := beq_self_eq_true z
  have bd := beq_self_eq_true de
  have bu := beq_self_eq_true ue
  clear hD hU hz q1
  go_enter Tryd.func7, Tryd.ntmps7
  go_wp2_with fail
  (with_reducible refine (known_any _ HT.out).mono ?_); rintro e w1 ⟨rfl, b1⟩
  have B1 := Lib.hid b1
  have za := Lib.hid (ha.below b1)
  clear b1
  have t1 := downL_any l l.length rfl (by omega) n A ca w1 (za.out.more B1.out.size)
  rw [HD.out] at t1
  go_wp2_with fail
  (with_reducible refine t1.mono ?_); rintro e w2 ⟨R1, r1, rfl, o1, b2⟩
  have B2 := Lib.hid (bth B1.out b2)
  have za := Lib.hid (za.out.below (b2.mono B1.out.size))
  have z1 := Lib.hid o1.ints
  clear t1 o1 b2
  have t1 := downRf_any l l.length rfl (by omega) n A ca w2 (za.out.more B2.out.size)
  rw [HD.out] at t1
  go_wp2_with fail
  (with_reducible refine t1.mono ?_); rintro e w3 ⟨R2, r2, rfl, o2, b3⟩
  have B3 := Lib.hid (bth B2.out b3)
  have za := Lib.hid (za.out.below (b3.mono B2.out.size))
  have z1 := Lib.hid ((z1.out.below b3).more b3.size)
  have z2 := Lib.hid o2.ints
  clear t1 o2 b3
  have t1 := upL_any l l.length rfl (by omega) n A ca w3 (za.out.more B3.out.size)
  rw [HU.out] at t1
  go_wp2_with fail
  (with_reducible refine t1.mono ?_); rintro e w4 ⟨R3, r3, rfl, o3, b4⟩
  have B4 := Lib.hid (bth B3.out b4)
  have za := Lib.hid (za.out.below (b4.mono B3.out.size))
  have z1 := Lib.hid ((z1.out.below b4).more b4.size)
  have z2 := Lib.hid ((z2.out.below b4).more b4.size)
  have z3 := Lib.hid o3.ints
  clear t1 o3 b4
  have t1 := upR_any l l.length rfl (by omega) n A ca w4 (za.out.more B4.out.size)
  rw [HU.out] at t1
  go_wp2_with fail
  (with_reducible refine t1.mono ?_); rintro e w5 ⟨R4, r4, rfl, o4, b5⟩
  have B5 := Lib.hid (bth B4.out b5)
  have za := Lib.hid (za.out.below (b5.mono B4.out.size))
  have z1 := Lib.hid ((z1.out.below b5).more b5.size)
  have z2 := Lib.hid ((z2.out.below b5).more b5.size)
  have z3 := Lib.hid ((z3.out.below b5).more b5.size)
  have z4 := Lib.hid o4.ints
  clear t1 o4 b5
  have t1 := wastedL_any l l.length rfl (by omega) A _ ca w5 (HT.out.below B5.out) za.out
  rw [Hz.out] at t1
  go_wp2_with fail
  (with_reducible refine t1.mono ?_); rintro e w' ⟨rfl, rfl⟩
  clear t1
  have t1 := wastedR_any l l.length rfl (by omega) A _ ca w' za.out
  rw [Hz.out] at t1
  go_wp2_with fail
  (with_reducible refine t1.mono ?_); rintro e w6 ⟨rfl, rfl⟩
  clear t1
  have t1 := same_q D D D.length D.length rfl rfl (by omega) (by omega) R1 R2 _ _ r1 r2 w6 z1.out z2.out
  rw [eD.out] at t1
  go_wp2_with fail
  (with_reducible refine t1.mono ?_); rintro e w7 ⟨rfl, b7⟩
  have B7 := Lib.hid (bth B5.out b7)
  have z3 := Lib.hid ((z3.out.below b7).more b7.size)
  have z4 := Lib.hid ((z4.out.below b7).more b7.size)
  clear t1 b7
  have t1 := same_q U U U.length U.length rfl rfl (by omega) (by omega) R3 R4 _ _ r3 r4 w7 z3.out z4.out
  rw [eU.out] at t1
  go_wp2_with fail
  (with_reducible refine t1.mono ?_); rintro e w8 ⟨rfl, b8⟩
  have B8 := Lib.hid (bth B7.out b8)
  clear t1 b8
  go_wp2_with fail
  go_ret
  exact ⟨rfl, B8.out⟩
end Go.Proofs.YthpaohgdadnkaaaDoor
