/-
  Among the arguments of a law: a row of lifts; rows of numbers, their capacities too.
-/
import Derived.Test.YtjdoagkbcooonaaProg
import Derived.Test.YtjdoagkbcooonaaTA
import Derived.Test.YtjdoagkbcooonaaO
import Derived.Deep.SlicePairs
import Derived.Deep.Matrix
namespace Go.Proofs.Ytjdoagkbcooonaa
open Go.ChangeShapes Go.WideShapes Go.ChangeAt Go.RowKit Go.Joins

theorem add_off (b off k : Nat) : Addr.add ⟨b, off, none⟩ k = ⟨b, off + k, none⟩ := by
  simp only [Addr.add]
  split
  · rename_i h; subst h; rfl
  · rfl

theorem open_lifts {H : Type} {enc : TypeId × Value → H} {P : Program} {W : World} {T E : TypeId} {f0 f1 f2 : Field} {base : Nat} {v : Value} {d : DataW H} {p : List MemPlace}
    (ht : P.underlying T = some (.slice E)) (he : P.underlying E = some (.struct #[f0, f1, f2])) (ce : P.cellsOf E = 3) (o0 : f0.offset = 0) (o1 : f1.offset = 1) (o2 : f2.offset = 2) (c0 : P.cellsOf f0.type = 1) (c1 : P.cellsOf f1.type = 1) (c2 : P.cellsOf f2.type = 1)
    (e0 : P.underlying f0.type = some (.int .i64)) (e1 : P.underlying f1.type = some (.int .i64)) (e2 : P.underlying f2.type = some (.int .i64))
    (hv : Value.okWide P W .any base T v) (h : DataW.Trod enc P W 0 (fun _ => true) true T v d p) :
    ∃ (A : Option Addr) (c : Nat) (ls : List Lft), v = .slice A ls.length c ∧ ls.length ≤ 9223372036854775807 ∧ ls.length ≤ c ∧ Lfts W W.heap.size A ls := by
  obtain ⟨a0, len0, cap0, rfl⟩ := okWide_slice ht hv
  obtain ⟨fuel, hf⟩ := h
  rcases Go.Deep.open_slice ht hf with ⟨hcs, _⟩ | ⟨x, len, cap, m, n, D, Pl, hcs, _, hl, hm, hmm, _, hx⟩
  · simp [Value.cells] at hcs
    obtain ⟨rfl, rfl, rfl⟩ := hcs
    exact ⟨none, 0, [], rfl, by simp, by simp, fun h => by simp at h⟩
  · simp [Value.cells] at hcs
    obtain ⟨rfl, rfl, rfl⟩ := hcs
    obtain rfl : m = cap0 := by simpa using hmm
    have each : ∀ i, i < len0 → ∃ q : Lft, W.cell? (x.add (i * 3)) = some (.int .i64 q.1) ∧ W.cell? (x.add (i * 3 + 1)) = some (.int .i64 q.2.1) ∧ W.cell? (x.add (i * 3 + 2)) = some (.int .i64 q.2.2) := by
      intro i hi
      obtain ⟨cs', h1, h2⟩ := hx i (by omega)
      rw [ce] at h1
      obtain ⟨_, hlen, hcell⟩ := World.cells?_some h1
      obtain ⟨xs, k, hk, hxy, _, hxl, hf⟩ := DataW.trod_struct he h2
      match xs, hxl, cs', hlen with
      | [y0, y1, y2], _, [v0, v1, v2], _ =>
        have g0 := hf 0 f0 rfl
        have g1 := hf 1 f1 rfl
        have g2 := hf 2 f2 rfl
        simp [o0, o1, o2, c0, c1, c2] at g0 g1 g2
        have k0 := hcell 0 (by omega)
        have k1 := hcell 1 (by omega)
        have k2 := hcell 2 (by omega)
        rw [Go.Deep.add_add] at k0 k1 k2
        obtain ⟨a, q0, _, _⟩ := DataW.trod_int e0 g0
        obtain ⟨b, q1, _, _⟩ := DataW.trod_int e1 g1
        obtain ⟨c, q2, _, _⟩ := DataW.trod_int e2 g2
        simp at q0 q1 q2
        subst q0; subst q1; subst q2
        exact ⟨(a, b, c), by simpa using k0, by simpa using k1, by simpa using k2⟩
    let f : Nat → Lft := fun i => if h : i < len0 then Classical.choose (each i h) else (0, 0, 0)
    have hff : ∀ i, i < len0 → W.cell? (x.add (i * 3)) = some (.int .i64 (f i).1) ∧ W.cell? (x.add (i * 3 + 1)) = some (.int .i64 (f i).2.1) ∧ W.cell? (x.add (i * 3 + 2)) = some (.int .i64 (f i).2.2) := by
      intro i h
      have e : f i = Classical.choose (each i h) := dif_pos h
      rw [e]
      exact Classical.choose_spec (each i h)
    have hss : ((List.range len0).map f).length = len0 := by simp
    have hst : ∀ i, i < len0 → lfF ((List.range len0).map f) i = (f i).1 ∧ lfT ((List.range len0).map f) i = (f i).2.1 ∧ lfG ((List.range len0).map f) i = (f i).2.2 := by
      intro i h
      simp [lfF, lfT, lfG, h]
    refine ⟨some x, m, (List.range len0).map f, by rw [hss], by rw [hss]; simp only [maxLen] at hm; omega, by rw [hss]; exact hl, fun h0 => ?_⟩
    rw [hss] at h0
    obtain ⟨b, off, spot⟩ := x
    have k0 := (hff 0 h0).1
    have hspot : spot = none := by simpa [Addr.add] using World.cell?_spot k0
    subst hspot
    refine ⟨b, off, rfl, ?_, fun i hi' => ?_⟩
    · have := block_lt_of_cell k0; simpa [Addr.add] using this
    · rw [hss] at hi'
      obtain ⟨t0, t1, t2⟩ := hff i hi'
      obtain ⟨s0, s1, s2⟩ := hst i hi'
      rw [s0, s1, s2]
      rw [add_off] at t0 t1 t2
      exact ⟨t0, t1, t2⟩

theorem open_rw {H : Type} {enc : TypeId × Value → H} {P : Program} {W : World} {T E Q : TypeId} {base : Nat} {v : Value} {d : DataW H} {p : List MemPlace}
    (ht : P.underlying T = some (.slice E)) (he : P.underlying E = some (.slice Q)) (hq : P.underlying Q = some (.int .i64)) (ce : P.cellsOf E = 1) (cq : P.cellsOf Q = 1)
    (hv : Value.okWide P W .any base T v) (h : DataW.Trod enc P W 0 (fun _ => true) true T v d p) :
    ∃ (A : Option Addr) (c r : Nat) (RA : Nat → Option Addr) (RC : Nat → Nat) (R : Nat → List Int), v = .slice A r c ∧ r ≤ 9223372036854775807 ∧ Rw W W.heap.size A r RA RC R := by
  obtain ⟨a0, len0, cap0, rfl⟩ := okWide_slice ht hv
  obtain ⟨fuel, hf⟩ := h
  rcases Go.Deep.open_int_rows ht he hq ce cq hf with ⟨hcs, _⟩ | ⟨x, len, cap, A, L, C, Z, hcs, _, hl, hm, _, hcell⟩
  · simp [Value.cells] at hcs
    obtain ⟨rfl, rfl, rfl⟩ := hcs
    exact ⟨none, 0, 0, fun _ => none, fun _ => 0, fun _ => [], rfl, by omega, Rw.nil⟩
  · simp [Value.cells] at hcs
    obtain ⟨rfl, rfl, rfl⟩ := hcs
    simp only [maxLen] at hm
    have hll : ∀ i, i < len0 → ((Z i).take (L i)).length = L i := fun i hi => by
      obtain ⟨_, h1, _, h3, _⟩ := hcell i (by omega)
      rw [List.length_take]; omega
    refine ⟨some x, cap0, len0, A, C, fun i => (Z i).take (L i), rfl, by omega, fun h0 => ?_, fun i hi => ?_, fun i hi => ?_, fun i hi => ?_⟩
    · obtain ⟨b, off, spot⟩ := x
      have c0 := (hcell 0 (by omega)).1
      have hspot : spot = none := by simpa [Addr.add] using World.cell?_spot c0
      subst hspot
      refine ⟨b, off, rfl, ?_, fun i hi => ?_⟩
      · have := block_lt_of_cell c0; simpa [Addr.add] using this
      · have := (hcell i (by omega)).1
        rw [hll i hi]
        rwa [add_off] at this
    · intro hn
      rw [List.length_map, hll i hi] at hn
      obtain ⟨c0, h1, h2, h3, h4, h5, h6⟩ := hcell i (by omega)
      obtain ⟨a', ha'⟩ : ∃ a', A i = some a' := by
        cases e : A i with
        | none => have := h5 e; omega
        | some a' => exact ⟨a', rfl⟩
      obtain ⟨hb, hcc⟩ := h6 a' ha'
      obtain ⟨b, off, spot⟩ := a'
      have cz := hcc 0 (by omega)
      have hspot : spot = none := by simpa [Addr.add] using World.cell?_spot cz
      subst hspot
      refine ⟨b, off, ha', ?_, fun j u hu => ?_⟩
      · have := block_lt_of_cell cz; simpa [Addr.add] using this
      · rw [List.map_take, List.getElem?_take] at hu
        split at hu
        · rename_i hj
          have hj' : j < (Z i).length := by omega
          rw [List.getElem?_map, List.getElem?_eq_getElem hj'] at hu
          simp at hu
          subst hu
          have := hcc j (by omega)
          rw [List.getD_eq_getElem?_getD, List.getElem?_eq_getElem hj', Option.getD_some] at this
          rwa [add_off] at this
        · cases hu
    · show ((Z i).take (L i)).length ≤ _
      have := (hcell i (by omega)).2.2.1
      have := (hcell i (by omega)).2.1
      rw [hll i hi]
      simp only [maxLen] at *
      omega
    · show ((Z i).take (L i)).length ≤ _
      rw [hll i hi]
      exact (hcell i (by omega)).2.1
end Go.Proofs.Ytjdoagkbcooonaa
