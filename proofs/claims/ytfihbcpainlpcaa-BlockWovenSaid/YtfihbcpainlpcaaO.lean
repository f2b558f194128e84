/-
  What the arguments of a law are in memory: a row of numbers, a stage, a row of stages.
-/
import Derived.Test.YtfihbcpainlpcaaProg
import Derived.Test.YtfihbcpainlpcaaK
import Derived.ProofKit
import Derived.OpenShut
import Derived.ShutString
import Derived.ChangeOld
import Derived.Lib.SmallJoins
namespace Go.Proofs.Ytfihbcpainlpcaa
open Go.ChangeShapes Go.WideShapes Go.ChangeAt Go.RowKit Go.Joins
set_option linter.unusedVariables false
set_option linter.unusedSimpArgs false

theorem own_knob : ownKnob Try.prog.godebug = none := by kernel_rfl
theorem laid_out : laidOutB Try.prog = true := by kernel_rfl

/-- every number of l fits the kind k. -/
def Fit (k : IntKind) (l : List Int) : Prop := ∀ x ∈ l, (Lit.int k x).wf = true

theorem open_row {H : Type} {enc : TypeId × Value → H} {P : Program} {W : World} {T E : TypeId} {k : IntKind} {base : Nat} {v : Value} {d : DataW H} {p : List MemPlace}
    (ht : P.underlying T = some (.slice E)) (he : P.underlying E = some (.int k)) (hc : P.cellsOf E = 1)
    (hv : Value.okWide P W .any base T v) (h : DataW.Trod enc P W 0 (fun _ => true) true T v d p) :
    ∃ (A : Option Addr) (c : Nat) (l : List Int), v = .slice A l.length c ∧ l.length ≤ 9223372036854775807 ∧ l.length ≤ c ∧ Ints k W W.heap.size A l ∧ Fit k l := by
  obtain ⟨a0, len0, cap0, rfl⟩ := okWide_slice ht hv
  obtain ⟨fuel, hf⟩ := h
  rcases open_ints ht he hc hf with ⟨hcs, _⟩ | ⟨x, l, c, zs, hcs, _, hl, hm, hz, _, hcell, hwz⟩
  · simp [Value.cells] at hcs
    obtain ⟨rfl, rfl, rfl⟩ := hcs
    exact ⟨none, 0, [], rfl, by simp, by simp, Rd.nil, fun x hx => by simp at hx⟩
  · simp [Value.cells] at hcs
    obtain ⟨rfl, rfl, rfl⟩ := hcs
    have hz' : zs.length = cap0 := by simpa using hz
    have hlen : (zs.take len0).length = len0 := by rw [List.length_take]; omega
    refine ⟨some x, cap0, zs.take len0, by rw [hlen], by rw [hlen]; simp only [maxLen] at hm; omega, by rw [hlen]; exact hl, fun hn => ?_, fun y hy => hwz y (List.mem_of_mem_take hy)⟩
    rw [List.length_map, hlen] at hn
    obtain ⟨b, off, spot⟩ := x
    have c0 := hcell 0 (by omega)
    have hspot : spot = none := by simpa [Addr.add] using World.cell?_spot c0
    subst hspot
    refine ⟨b, off, rfl, ?_, fun i u hu => ?_⟩
    · have := block_lt_of_cell c0; simpa [Addr.add] using this
    · rw [List.map_take, List.getElem?_take] at hu
      split at hu
      · rename_i hi
        have hi' : i < zs.length := by omega
        rw [List.getElem?_map, List.getElem?_eq_getElem hi'] at hu
        simp at hu
        subst hu
        have := hcell i hi'
        rw [List.getD_eq_getElem?_getD, List.getElem?_eq_getElem hi', Option.getD_some] at this
        simp only [Addr.add] at this
        split at this
        · rename_i h0; subst h0; exact this
        · exact this
      · cases hu

theorem open_pair {H : Type} {enc : TypeId × Value → H} {P : Program} {W : World} {T : TypeId} {f0 f1 : Field} {base : Nat} {v : Value} {d : DataW H} {p : List MemPlace}
    (ht : P.underlying T = some (.struct #[f0, f1])) (hone : Go.Deep.oneCellFields P #[f0, f1] = true) (hC : P.cellsOf T = 2) (e0 : P.underlying f0.type = some (.int .i64)) (e1 : P.underlying f1.type = some (.int .i64))
    (hv : Value.okWide P W .any base T v) (h : DataW.Trod enc P W 0 (fun _ => true) true T v d p) :
    ∃ a b : Int, v = .agg #[.int .i64 a, .int .i64 b] ∧ (Lit.int .i64 a).wf = true ∧ (Lit.int .i64 b).wf = true := by
  obtain ⟨c0, c1, y0, y1, m, rfl, rfl, rfl, hy0, hy1⟩ := Go.Joins.open_agg2 ht hone hC hv h
  obtain ⟨a, q0, rfl, wa⟩ := DataW.trod_int e0 hy0
  obtain ⟨b, q1, rfl, wb⟩ := DataW.trod_int e1 hy1
  simp at q0 q1
  subst q0 q1
  exact ⟨a, b, rfl, wa, wb⟩
end Go.Proofs.Ytfihbcpainlpcaa
