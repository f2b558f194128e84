/-
  SampleTells: the walk of the law.
-/
import Derived.Test.YthpaohgdadnkaaaDoorProg
import Derived.Test.YthpaohgdadnkaaaDoorMF
namespace Go.Proofs.YthpaohgdadnkaaaDoor
open Go.RowKit

set_option maxHeartbeats 1000000 in
theorem tells_any (x b : Int) (l : List Int) (_hm : l.length ≤ 9223372036854775807) (A : Option Addr) (c : Nat) (w : World) (hT : Tab w) (ha : Ints .i64 w w.heap.size A l) :
    Calls Tryd.prog 3 #[.int .i64 x, .int .i64 b, .slice A l.length c] w fun e w' => e = .returned (.bool true) ∧ Below w.heap.size w w' := by
  have HT := Lib.hid hT
  clear hT
  by_cases q1 : 300 < l.length
  · have hI : (300 : Int) < (l.length : Int) := by omega
    go_enter Tryd.func3, Tryd.ntmps3
    go_wp2_with fail
    (with_reducible refine (known_any _ HT.out).mono ?_); rintro e w1 ⟨rfl, b1⟩
    go_wp2_with fail
    go_ret
    exact ⟨rfl, b1⟩
  have q1I : (l.length : Int) ≤ 300 := by omega
  have e1 := beq_self_eq_true (lowI b)
  have e2 := beq_self_eq_true (highI b)
  have e3 := beq_self_eq_true (fitsB x b)
  have e4 := beq_self_eq_true ((widthN l : Nat) : Int)
  go_enter Tryd.func3, Tryd.ntmps3
  go_wp2_with fail
  (with_reducible refine (known_any _ HT.out).mono ?_); rintro e w1 ⟨rfl, b1⟩
  have B1 := Lib.hid b1
  have z1 := Lib.hid (ha.below b1)
  clear b1
  go_wp2_with fail
  (with_reducible refine (lowL_any _ _).mono ?_); rintro e w' ⟨rfl, rfl⟩
  go_wp2_with fail
  (with_reducible refine (lowR_any _ _).mono ?_); rintro e w' ⟨rfl, rfl⟩
  go_wp2_with fail
  (with_reducible refine (highL_any _ _).mono ?_); rintro e w' ⟨rfl, rfl⟩
  go_wp2_with fail
  (with_reducible refine (highR_any _ _).mono ?_); rintro e w' ⟨rfl, rfl⟩
  go_wp2_with fail
  (with_reducible refine (fitsL_any _ _ _).mono ?_); rintro e w' ⟨rfl, rfl⟩
  go_wp2_with fail
  (with_reducible refine (fitsR_any _ _ _).mono ?_); rintro e w' ⟨rfl, rfl⟩
  go_wp2_with fail
  (with_reducible refine (widthL_any l _ rfl (by omega) _ _ _ _ z1.out).mono ?_); rintro e w2 ⟨rfl, n2, hw2⟩
  have B2 : Hid (Below w.heap.size w w2) := by show Below _ _ _; rw [hw2]; exact below_drewN B1.out _
  have z2 : Hid (Ints .i64 w2 w.heap.size A l) := by show Ints _ _ _ _ _; rw [hw2]; exact z1.out.drewN _
  clear hw2
  go_wp2_with fail
  (with_reducible refine (widthR_any l _ rfl (by omega) _ _ _ _ z2.out).mono ?_); rintro e w3 ⟨rfl, n3, hw3⟩
  have B3 : Hid (Below w.heap.size w w3) := by show Below _ _ _; rw [hw3]; exact below_drewN B2.out _
  clear hw3
  go_wp2_with fail
  go_ret
  exact ⟨rfl, B3.out⟩
end Go.Proofs.YthpaohgdadnkaaaDoor
