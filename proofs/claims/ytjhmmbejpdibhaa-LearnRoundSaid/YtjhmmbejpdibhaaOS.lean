/-
  A row of stages among the arguments of a law.
-/
import Derived.Test.YtjhmmbejpdibhaaProg
import Derived.Test.YtjhmmbejpdibhaaLF
import Derived.Test.YtjhmmbejpdibhaaO
import Derived.Deep.SlicePairs
namespace Go.Proofs.Ytjhmmbejpdibhaa
open Go.ChangeShapes Go.WideShapes Go.ChangeAt Go.RowKit Go.Joins

theorem open_stages {H : Type} {enc : TypeId × Value → H} {P : Program} {W : World} {T E : TypeId} {f0 f1 : Field} {base : Nat} {v : Value} {d : DataW H} {p : List MemPlace}
    (ht : P.underlying T = some (.slice E)) (he : P.underlying E = some (.struct #[f0, f1])) (ce : P.cellsOf E = 2) (o0 : f0.offset = 0) (o1 : f1.offset = 1) (c0 : P.cellsOf f0.type = 1) (c1 : P.cellsOf f1.type = 1)
    (e0 : P.underlying f0.type = some (.int .i64)) (e1 : P.underlying f1.type = some (.int .i64))
    (hv : Value.okWide P W .any base T v) (h : DataW.Trod enc P W 0 (fun _ => true) true T v d p) :
    ∃ (A : Option Addr) (c : Nat) (ss : List (Int × Int)), v = .slice A ss.length c ∧ ss.length ≤ 9223372036854775807 ∧ ss.length ≤ c ∧ Stgs W W.heap.size A ss ∧ True := by
  obtain ⟨a0, len0, cap0, rfl⟩ := okWide_slice ht hv
  obtain ⟨fuel, hf⟩ := h
  rcases Go.Deep.open_slice_pairs ht he ce o0 o1 c0 c1 hf with ⟨hcs, _⟩ | ⟨x, len, cap, m, n, V0, V1, D0, D1, P0, P1, hcs, _, hl, hm, hmm, _, hcell⟩
  · simp [Value.cells] at hcs
    obtain ⟨rfl, rfl, rfl⟩ := hcs
    exact ⟨none, 0, [], rfl, by simp, by simp, fun h => by simp at h, trivial⟩
  · simp [Value.cells] at hcs
    obtain ⟨rfl, rfl, rfl⟩ := hcs
    obtain rfl : m = cap0 := by simpa using hmm
    have hi : ∀ i, i < len0 → ∃ q : Int × Int, V0 i = .int .i64 q.1 ∧ V1 i = .int .i64 q.2 := by
      intro i hi
      obtain ⟨_, _, t0, t1⟩ := hcell i (by omega)
      obtain ⟨a, q0, _, _⟩ := DataW.trod_int e0 t0
      obtain ⟨b, q1, _, _⟩ := DataW.trod_int e1 t1
      simp at q0 q1
      exact ⟨(a, b), q0, q1⟩
    let f : Nat → Int × Int := fun i => if h : i < len0 then Classical.choose (hi i h) else (0, 0)
    have hff : ∀ i, i < len0 → V0 i = .int .i64 (f i).1 ∧ V1 i = .int .i64 (f i).2 := by
      intro i h
      have e : f i = Classical.choose (hi i h) := dif_pos h
      rw [e]
      exact Classical.choose_spec (hi i h)
    have hss : ((List.range len0).map f).length = len0 := by simp
    have hst : ∀ i, i < len0 → sto ((List.range len0).map f) i = (f i).1 ∧ str ((List.range len0).map f) i = (f i).2 := by
      intro i h
      simp [sto, str, h]
    refine ⟨some x, m, (List.range len0).map f, by rw [hss], by rw [hss]; simp only [maxLen] at hm; omega, by rw [hss]; exact hl, fun h0 => ?_, trivial⟩
    rw [hss] at h0
    obtain ⟨b, off, spot⟩ := x
    have k0 := (hcell 0 (by omega)).1
    have hspot : spot = none := by simpa [Addr.add] using World.cell?_spot k0
    subst hspot
    refine ⟨b, off, rfl, ?_, fun i hi' => ?_⟩
    · have := block_lt_of_cell k0; simpa [Addr.add] using this
    · rw [hss] at hi'
      obtain ⟨t0, t1, _, _⟩ := hcell i (by omega)
      obtain ⟨g0, g1⟩ := hff i hi'
      obtain ⟨s0, s1⟩ := hst i hi'
      rw [s0, s1, ← g0, ← g1]
      have had : ∀ k, Addr.add ⟨b, off, none⟩ k = ⟨b, off + k, none⟩ := fun k => by
        simp only [Addr.add]
        split
        · rename_i h; subst h; rfl
        · rfl
      rw [had] at t0 t1
      exact ⟨t0, t1⟩
end Go.Proofs.Ytjhmmbejpdibhaa
