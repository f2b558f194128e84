/-
  Among the arguments of a law: a block; a format.
-/
import Derived.Test.YtfihbcpainlpcaaProg
import Derived.Test.YtfihbcpainlpcaaQA
import Derived.Test.YtfihbcpainlpcaaO
import Derived.Deep.SlicePairs
import Derived.Deep.Matrix
namespace Go.Proofs.Ytfihbcpainlpcaa
open Go.ChangeShapes Go.WideShapes Go.ChangeAt Go.RowKit Go.Joins
set_option linter.unusedVariables false
set_option linter.unusedSimpArgs false

theorem add_off (b off k : Nat) : Addr.add ⟨b, off, none⟩ k = ⟨b, off + k, none⟩ := by
  simp only [Addr.add]
  split
  · rename_i h; subst h; rfl
  · rfl

theorem open_rowc {H : Type} {enc : TypeId × Value → H} {P : Program} {W : World} {T E : TypeId} {k : IntKind} {base : Nat} {v : Value} {d : DataW H} {p : List MemPlace}
    (ht : P.underlying T = some (.slice E)) (he : P.underlying E = some (.int k)) (hc : P.cellsOf E = 1)
    (hv : Value.okWide P W .any base T v) (h : DataW.Trod enc P W 0 (fun _ => true) true T v d p) :
    ∃ (A : Option Addr) (c : Nat) (l : List Int), v = .slice A l.length c ∧ l.length ≤ 9223372036854775807 ∧ l.length ≤ c ∧ c ≤ 9223372036854775807 ∧ Ints k W W.heap.size A l ∧ Fit k l := by
  obtain ⟨a0, len0, cap0, rfl⟩ := okWide_slice ht hv
  obtain ⟨fuel, hf⟩ := h
  rcases open_ints ht he hc hf with ⟨hcs, _⟩ | ⟨x, l, c, zs, hcs, _, hl, hm, hz, _, hcell, hwz⟩
  · simp [Value.cells] at hcs
    obtain ⟨rfl, rfl, rfl⟩ := hcs
    exact ⟨none, 0, [], rfl, by simp, by simp, by omega, Rd.nil, fun x hx => by simp at hx⟩
  · simp [Value.cells] at hcs
    obtain ⟨rfl, rfl, rfl⟩ := hcs
    have hz' : zs.length = cap0 := by simpa using hz
    have hlen : (zs.take len0).length = len0 := by rw [List.length_take]; omega
    refine ⟨some x, cap0, zs.take len0, by rw [hlen], by rw [hlen]; simp only [maxLen] at hm; omega, by rw [hlen]; exact hl, by simp only [maxLen] at hm; omega, fun hn => ?_, fun y hy => hwz y (List.mem_of_mem_take hy)⟩
    rw [List.length_map, hlen] at hn
    obtain ⟨b, off, spot⟩ := x
    have c0 := hcell 0 (by omega)
    have hspot : spot = none := by simpa [Addr.add] using World.cell?_spot c0
    subst hspot
    refine ⟨b, off, rfl, ?_, fun i u hu => ?_⟩
    · have := block_lt_of_cell c0; simpa [Addr.add] using this
    · rw [List.map_take, List.getElem?_take] at hu
      split at hu
      · rename_i hi
        have hi' : i < zs.length := by omega
        rw [List.getElem?_map, List.getElem?_eq_getElem hi'] at hu
        simp at hu
        subst hu
        have := hcell i hi'
        rw [List.getD_eq_getElem?_getD, List.getElem?_eq_getElem hi', Option.getD_some] at this
        simp only [Addr.add] at this
        split at this
        · rename_i h0; subst h0; exact this
        · exact this
      · cases hu

theorem open_fmt {H : Type} {enc : TypeId × Value → H} {P : Program} {W : World} {T : TypeId} {f0 f1 f2 : Field} {base : Nat} {v : Value} {d : DataW H} {p : List MemPlace}
    (ht : P.underlying T = some (.struct #[f0, f1, f2])) (hone : Go.Deep.oneCellFields P #[f0, f1, f2] = true) (hC : P.cellsOf T = 3) (e0 : P.underlying f0.type = some (.int .i64)) (e1 : P.underlying f1.type = some (.int .i64)) (e2 : P.underlying f2.type = some (.int .i64))
    (hv : Value.okWide P W .any base T v) (h : DataW.Trod enc P W 0 (fun _ => true) true T v d p) :
    ∃ a b c : Int, v = .agg #[.int .i64 a, .int .i64 b, .int .i64 c] := by
  obtain ⟨c0, c1, c2, y0, y1, y2, m, rfl, rfl, rfl, hy0, hy1, hy2⟩ := Go.Joins.open_agg3 ht hone hC hv h
  obtain ⟨a, q0, _, _⟩ := DataW.trod_int e0 hy0
  obtain ⟨b, q1, _, _⟩ := DataW.trod_int e1 hy1
  obtain ⟨c, q2, _, _⟩ := DataW.trod_int e2 hy2
  simp at q0 q1 q2
  subst q0 q1 q2
  exact ⟨a, b, c, rfl⟩

theorem rw_trod {H : Type} {enc : TypeId × Value → H} {P : Program} {W : World} {T E Q : TypeId} {fuel : Nat} {v : Value} {x : DataW H × List MemPlace}
    (ht : P.underlying T = some (.slice E)) (he : P.underlying E = some (.slice Q)) (hq : P.underlying Q = some (.int .i64)) (ce : P.cellsOf E = 1) (cq : P.cellsOf Q = 1)
    (hf : DataW.trod enc P W 0 (fun _ => true) true fuel T [v] = some x) :
    ∃ (A : Option Addr) (c r : Nat) (RA : Nat → Option Addr) (RC : Nat → Nat) (R : Nat → List Int), v = .slice A r c ∧ r ≤ c ∧ c ≤ 9223372036854775807 ∧ Rw W W.heap.size A r RA RC R := by
  rcases Go.Deep.open_int_rows ht he hq ce cq hf with ⟨hcs, _⟩ | ⟨x, len, cap, A, L, C, Z, hcs, _, hl, hm, _, hcell⟩
  · simp at hcs
    exact ⟨none, 0, 0, fun _ => none, fun _ => 0, fun _ => [], hcs, Nat.le_refl _, by omega, Rw.nil⟩
  · simp at hcs
    subst hcs
    simp only [maxLen] at hm
    have hll : ∀ i, i < len → ((Z i).take (L i)).length = L i := fun i hi => by
      obtain ⟨_, h1, _, h3, _⟩ := hcell i (by omega)
      rw [List.length_take]; omega
    refine ⟨some x, cap, len, A, C, fun i => (Z i).take (L i), rfl, hl, by omega, fun h0 => ?_, fun i hi => ?_, fun i hi => ?_, fun i hi => ?_⟩
    · obtain ⟨b, off, spot⟩ := x
      have c0 := (hcell 0 (by omega)).1
      have hspot : spot = none := by simpa [Addr.add] using World.cell?_spot c0
      subst hspot
      refine ⟨b, off, rfl, ?_, fun i hi => ?_⟩
      · have := block_lt_of_cell c0; simpa [Addr.add] using this
      · have := (hcell i (by omega)).1
        rw [hll i hi]
        rwa [add_off] at this
    · intro hn
      rw [List.length_map, hll i hi] at hn
      obtain ⟨c0, h1, h2, h3, h4, h5, h6⟩ := hcell i (by omega)
      obtain ⟨a', ha'⟩ : ∃ a', A i = some a' := by
        cases e : A i with
        | none => have := h5 e; omega
        | some a' => exact ⟨a', rfl⟩
      obtain ⟨hb, hcc⟩ := h6 a' ha'
      obtain ⟨b, off, spot⟩ := a'
      have cz := hcc 0 (by omega)
      have hspot : spot = none := by simpa [Addr.add] using World.cell?_spot cz
      subst hspot
      refine ⟨b, off, ha', ?_, fun j u hu => ?_⟩
      · have := block_lt_of_cell cz; simpa [Addr.add] using this
      · rw [List.map_take, List.getElem?_take] at hu
        split at hu
        · rename_i hj
          have hj' : j < (Z i).length := by omega
          rw [List.getElem?_map, List.getElem?_eq_getElem hj'] at hu
          simp at hu
          subst hu
          have := hcc j (by omega)
          rw [List.getD_eq_getElem?_getD, List.getElem?_eq_getElem hj', Option.getD_some] at this
          rwa [add_off] at this
        · cases hu
    · show ((Z i).take (L i)).length ≤ _
      have := (hcell i (by omega)).2.2.1
      have := (hcell i (by omega)).2.1
      rw [hll i hi]
      simp only [maxLen] at *
      omega
    · show ((Z i).take (L i)).length ≤ _
      rw [hll i hi]
      exact (hcell i (by omega)).2.1

theorem open_block {H : Type} {enc : TypeId × Value → H} {P : Program} {W : World} {T E Q : TypeId} {f0 f1 : Field} {base : Nat} {v : Value} {d : DataW H} {p : List MemPlace}
    (ht : P.underlying T = some (.struct #[f0, f1])) (hone : Go.Deep.oneCellFields P #[f0, f1] = true) (hC : P.cellsOf T = 2) (e0 : P.underlying f0.type = some (.int .i64)) (e1 : P.underlying f1.type = some (.slice E)) (he : P.underlying E = some (.slice Q)) (hq : P.underlying Q = some (.int .i64)) (ce : P.cellsOf E = 1) (cq : P.cellsOf Q = 1)
    (hv : Value.okWide P W .any base T v) (h : DataW.Trod enc P W 0 (fun _ => true) true T v d p) :
    ∃ (bits : Int) (A : Option Addr) (c r : Nat) (RA : Nat → Option Addr) (RC : Nat → Nat) (R : Nat → List Int), v = .agg #[.int .i64 bits, .slice A r c] ∧ r ≤ c ∧ c ≤ 9223372036854775807 ∧ Rw W W.heap.size A r RA RC R := by
  obtain ⟨c0, c1, y0, y1, m, rfl, rfl, rfl, hy0, hy1⟩ := Go.Joins.open_agg2 ht hone hC hv h
  obtain ⟨a, q0, _, _⟩ := DataW.trod_int e0 hy0
  obtain ⟨A, c, r, RA, RC, R, rfl, h1, h2, h3⟩ := rw_trod e1 he hq ce cq hy1
  simp at q0
  subst q0
  exact ⟨a, A, c, r, RA, RC, R, rfl, h1, h2, h3⟩
end Go.Proofs.Ytfihbcpainlpcaa
