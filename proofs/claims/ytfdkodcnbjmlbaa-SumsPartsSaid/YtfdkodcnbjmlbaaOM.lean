/-
  A row of rows of numbers among the arguments of a law.
-/
import Derived.Test.YtfdkodcnbjmlbaaProg
import Derived.Test.YtfdkodcnbjmlbaaO
import Derived.Deep.Matrix
namespace Go.Proofs.Ytfdkodcnbjmlbaa
open Go.ChangeShapes Go.WideShapes Go.ChangeAt Go.RowKit Go.Joins

/-- r rows: row i lies at RA i and holds RL i. -/
structure RwsK (k : IntKind) (w : World) (B : Nat) (A : Option Addr) (r : Nat) (RA : Nat → Option Addr) (RC : Nat → Nat) (RL : Nat → List Int) : Prop where
  out : 0 < r → ∃ b off, A = some ⟨b, off, none⟩ ∧ b < B ∧ ∀ i, i < r → w.cell? ⟨b, off + i, none⟩ = some (.slice (RA i) (RL i).length (RC i))
  ints : ∀ i, i < r → Ints k w B (RA i) (RL i)
  fit : ∀ i, i < r → Fit k (RL i)
  len : ∀ i, i < r → (RL i).length ≤ 9223372036854775807
theorem RwsK.below {k : IntKind} {w w' : World} {B r : Nat} {A : Option Addr} {RA : Nat → Option Addr} {RC : Nat → Nat} {RL : Nat → List Int} (h : RwsK k w B A r RA RC RL) (hb : Below B w w') : RwsK k w' B A r RA RC RL :=
  { h with
    out := fun h0 => by
      obtain ⟨b, off, e, hB, hc⟩ := h.out h0
      exact ⟨b, off, e, hB, fun i hi => (hb.cell (p := ⟨b, off + i, none⟩) hB).trans (hc i hi)⟩
    ints := fun i hi => (h.ints i hi).below hb }

theorem open_rows {H : Type} {enc : TypeId × Value → H} {P : Program} {W : World} {T E Q : TypeId} {k : IntKind} {base : Nat} {v : Value} {d : DataW H} {p : List MemPlace}
    (ht : P.underlying T = some (.slice E)) (he : P.underlying E = some (.slice Q)) (hq : P.underlying Q = some (.int k)) (ce : P.cellsOf E = 1) (cq : P.cellsOf Q = 1)
    (hv : Value.okWide P W .any base T v) (h : DataW.Trod enc P W 0 (fun _ => true) true T v d p) :
    ∃ (A : Option Addr) (c r : Nat) (RA : Nat → Option Addr) (RC : Nat → Nat) (RL : Nat → List Int), v = .slice A r c ∧ r ≤ 9223372036854775807 ∧ RwsK k W W.heap.size A r RA RC RL := by
  obtain ⟨a0, len0, cap0, rfl⟩ := okWide_slice ht hv
  obtain ⟨fuel, hf⟩ := h
  rcases Go.Deep.open_int_rows ht he hq ce cq hf with ⟨hcs, _⟩ | ⟨x, len, cap, A, L, C, Z, hcs, _, hl, hm, _, hcell⟩
  · simp [Value.cells] at hcs
    obtain ⟨rfl, rfl, rfl⟩ := hcs
    exact ⟨none, 0, 0, fun _ => none, fun _ => 0, fun _ => [], rfl, by omega, fun h0 => by omega, fun i hi => by omega, fun i hi => by omega, fun i hi => by omega⟩
  · simp [Value.cells] at hcs
    obtain ⟨rfl, rfl, rfl⟩ := hcs
    simp only [maxLen] at hm
    have hll : ∀ i, i < len0 → ((Z i).take (L i)).length = L i := fun i hi => by
      obtain ⟨_, h1, _, h3, _⟩ := hcell i (by omega)
      rw [List.length_take]; omega
    refine ⟨some x, cap0, len0, A, C, fun i => (Z i).take (L i), rfl, by omega, fun h0 => ?_, fun i hi => ?_, fun i hi y hy => ?_, fun i hi => ?_⟩
    · obtain ⟨b, off, spot⟩ := x
      have c0 := (hcell 0 (by omega)).1
      have hspot : spot = none := by simpa [Addr.add] using World.cell?_spot c0
      subst hspot
      refine ⟨b, off, rfl, ?_, fun i hi => ?_⟩
      · have := block_lt_of_cell c0; simpa [Addr.add] using this
      · have := (hcell i (by omega)).1
        rw [hll i hi]
        simp only [Addr.add] at this
        split at this
        · rename_i h0; subst h0; exact this
        · exact this
    · intro hn
      rw [List.length_map, hll i hi] at hn
      obtain ⟨c0, h1, h2, h3, h4, h5, h6⟩ := hcell i (by omega)
      obtain ⟨a', ha'⟩ : ∃ a', A i = some a' := by
        cases e : A i with
        | none => have := h5 e; omega
        | some a' => exact ⟨a', rfl⟩
      obtain ⟨hb, hcc⟩ := h6 a' ha'
      obtain ⟨b, off, spot⟩ := a'
      have cz := hcc 0 (by omega)
      have hspot : spot = none := by simpa [Addr.add] using World.cell?_spot cz
      subst hspot
      refine ⟨b, off, ha', ?_, fun j u hu => ?_⟩
      · have := block_lt_of_cell cz; simpa [Addr.add] using this
      · rw [List.map_take, List.getElem?_take] at hu
        split at hu
        · rename_i hj
          have hj' : j < (Z i).length := by omega
          rw [List.getElem?_map, List.getElem?_eq_getElem hj'] at hu
          simp at hu
          subst hu
          have := hcc j (by omega)
          rw [List.getD_eq_getElem?_getD, List.getElem?_eq_getElem hj', Option.getD_some] at this
          simp only [Addr.add] at this
          split at this
          · rename_i h0; subst h0; exact this
          · exact this
        · cases hu
    · exact (hcell i (by omega)).2.2.2.2.1 y (List.mem_of_mem_take hy)
    · show ((Z i).take (L i)).length ≤ _
      have := (hcell i (by omega)).2.2.1
      have := (hcell i (by omega)).2.1
      rw [hll i hi]
      simp only [maxLen] at *
      omega
end Go.Proofs.Ytfdkodcnbjmlbaa
