/-
  sample: what the laid table gives the walks; a start that meets the condition.
-/
import Derived.Test.YthpaohgdadnkaaaDoorRows
import Derived.Test.YthpaohgdadnkaaaDoorME
import Derived.Test.YthpaohgdadnkaaaDoorO
import Derived.LaidMore
import Derived.OpenShut
import Derived.Stop.Joined
namespace Go.Proofs.YthpaohgdadnkaaaDoor
open Go.ChangeShapes Go.WideShapes Go.ChangeAt Go.RowKit

def laidT : List (String × DataW Unit) := [("math/bits.deBruijn64tab", Rows.laid_math_bits_deBruijn64tab)]
theorem gTab : Tryd.prog.globalNamed "math/bits.deBruijn64tab" = some 0 := by kernel_rfl
theorem tTab : (Tryd.prog.globals[0]?).map (·.type) = some 45 := by kernel_rfl
theorem door_met (os : Os) (args : Array Value) : laidMetH Tryd.prog laidT ((World.doorLaid Tryd.prog 400 os).forCall (fun _ _ => 0) ⟨#[], args, []⟩).memory :=
  laidMetH_of_parts3 (fuel := 8) (laidMet_of_run' 8 (by kernel_rfl) (by kernel_rfl)) (by kernel_rfl) (by kernel_rfl)
theorem laid_is : (Rows.laid_math_bits_deBruijn64tab : DataW Unit) = .agg (Lib.deBruijn64tab.map fun (n : Nat) => .lit (.int .u8 (n : Int))) := by kernel_rfl

theorem tab_of_laid {W : World} (h : laidMetH Tryd.prog laidT W) : Tab W := by
  rw [MakeChecks.laidMetH_plain _ _ _ (by kernel_rfl)] at h
  obtain ⟨ps, ⟨g0, t0, cs0, f0, p0, q0, hg0, ht0, hv0, hd0, _⟩, _⟩ := h
  obtain rfl := Option.some.inj (gTab.symm.trans hg0)
  obtain rfl := Option.some.inj (tTab.symm.trans ht0)
  obtain ⟨xs, m1, rfl, hx1, hlen, hn3, hel⟩ := DataW.trod_array Tryd.underlying45 hd0
  have c5 : Tryd.prog.cellsOf 5 = 1 := by kernel_rfl
  intro j hj
  have hj64 : j < 64 := hj
  have h0 := hel j hj64
  rw [c5, Nat.mul_one, List.getElem?_eq_getElem (by omega)] at h0
  have hx := congrArg Prod.fst hx1
  simp only at hx
  rw [laid_is] at hx
  have hx2 : (Lib.deBruijn64tab.map fun (n : Nat) => (DataW.lit (.int .u8 (n : Int)) : DataW Unit)) = xs.map (·.1) := by injection hx
  have hx3 : (xs[j]'(by omega)).1 = DataW.lit (.int .u8 ((Lib.deBruijn64tab.getD j 0 : Nat) : Int)) := by
    have := congrArg (fun l => l[j]?) hx2
    simp only [List.getElem?_map, List.getElem?_eq_getElem hj, List.getElem?_eq_getElem (show j < xs.length by omega), Option.map_some, Option.some.injEq] at this
    rw [← this]
    simp [List.getD, List.getElem?_eq_getElem hj]
  obtain ⟨k, e1, e2, _⟩ := DataW.trod_int Tryd.underlying5 h0
  have hk : k = ((Lib.deBruijn64tab.getD j 0 : Nat) : Int) := by
    have := congrArg Prod.fst e2
    rw [hx3] at this
    simpa using this.symm
  subst hk
  have hc := World.var?_cell gTab hv0 j
  rw [hc]
  have e3 : cs0.toList[j]? = some (.int .u8 ((Lib.deBruijn64tab.getD j 0 : Nat) : Int)) := by
    have := congrArg (fun l => l[0]?) e1
    simpa using this
  simpa using e3
end Go.Proofs.YthpaohgdadnkaaaDoor
