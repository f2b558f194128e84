/-
  Rows of the call's own, each with its own length.
-/
import Derived.Test.YtfihbcpainlpcaaProg
import Derived.Test.YtfihbcpainlpcaaQC
namespace Go.Proofs.Ytfihbcpainlpcaa
open Go.RowKit
set_option linter.unusedVariables false
set_option linter.unusedSimpArgs false

def blkOf (A : Option Addr) : Option Nat := A.map (·.block)
theorem ownBlock_blk (A : Option Addr) (n c : Nat) : (Value.slice A n c).ownBlock = blkOf A := by cases A <;> rfl

/-- n rows of the call's own: row i reads R i; all blocks from B on, none twice. -/
structure OwnV (w : World) (B : Nat) (A : Option Addr) (n c : Nat) (RA : Nat → Option Addr) (RC : Nat → Nat) (R : Nat → List Int) : Prop where
  outer : w.ownsRow B 22 1 (.slice A n c) n ((List.range n).map fun i => Value.slice (RA i) (R i).length (RC i))
  inner : ∀ i, i < n → OwnZ w B (RA i) (R i).length (RC i) (R i)
  sep : ∀ i j, i < n → j < n → i ≠ j → ∀ q, blkOf (RA i) = some q → blkOf (RA j) ≠ some q
  osep : ∀ i, i < n → ∀ q, blkOf A = some q → blkOf (RA i) ≠ some q
section
variable {w w' : World} {B n c : Nat} {A : Option Addr} {RA : Nat → Option Addr} {RC : Nat → Nat} {R : Nat → List Int}
theorem OwnV.other (h : OwnV w B A n c RA RC R) (hk : ∀ q, (blkOf A = some q ∨ ∃ i, i < n ∧ blkOf (RA i) = some q) → w'.heap[q]? = w.heap[q]?) : OwnV w' B A n c RA RC R :=
  { h with
    outer := own_of_block h.outer fun q hq => hk q (.inl (by rw [← ownBlock_blk A n c]; exact hq))
    inner := fun i hi => (h.inner i hi).other fun q hq => hk q (.inr ⟨i, hi, by rw [← ownBlock_blk (RA i)]; exact hq⟩) }
theorem OwnV.lt (h : OwnV w B A n c RA RC R) : ∀ q, (blkOf A = some q ∨ ∃ i, i < n ∧ blkOf (RA i) = some q) → B ≤ q ∧ q < w.heap.size := fun q hq => by
  rcases hq with hq | ⟨i, hi, hq⟩
  · exact World.ownsRow.lt h.outer q (by rw [ownBlock_blk]; exact hq)
  · exact (h.inner i hi).lt q (by rw [ownBlock_blk]; exact hq)
theorem OwnV.below {B1 : Nat} (h : OwnV w B A n c RA RC R) (hb : Below B1 w w') (hB : w.heap.size ≤ B1) : OwnV w' B A n c RA RC R :=
  h.other fun q hq => hb.block q (Nat.lt_of_lt_of_le (h.lt q hq).2 hB)
theorem OwnV.drewN (h : OwnV w B A n c RA RC R) (k : Nat) : OwnV (w.drewN k) B A n c RA RC R := h.other fun _ _ => rfl
theorem OwnV.drew (h : OwnV w B A n c RA RC R) : OwnV w.drew B A n c RA RC R := h.other fun _ _ => rfl
theorem OwnV.base {B' : Nat} (h : OwnV w B A n c RA RC R) (hB : B' ≤ B) : OwnV w B' A n c RA RC R :=
  { h with outer := own_base h.outer hB, inner := fun i hi => (h.inner i hi).base hB }
theorem OwnV.addr (h : OwnV w B A n c RA RC R) (hn : 0 < n) : ∃ g, A = some ⟨g, 0, none⟩ ∧ B ≤ g ∧ g < w.heap.size ∧ ∀ i, i < n → w.cell? ⟨g, i, none⟩ = some (.slice (RA i) (R i).length (RC i)) := by
  obtain ⟨g, rfl, h1, h2⟩ := own_addr h.outer hn
  refine ⟨g, rfl, h1, h2, fun i hi => ?_⟩
  rw [World.ownsRow.cellAt h.outer i (by omega)]
  simp [hi]
theorem OwnV.rw (h : OwnV w B A n c RA RC R) : Rw w w.heap.size A n RA RC R :=
  ⟨fun h0 => by
    obtain ⟨g, rfl, h1, h2, h3⟩ := h.addr h0
    exact ⟨g, 0, rfl, h2, fun i hi => by rw [Nat.zero_add, h3 i hi]⟩,
    fun i hi => OwnZ.ints (h.inner i hi), fun i hi => by have := own_cap (h.inner i hi); simp only [maxLen] at this; omega, fun i hi => (own_cap (h.inner i hi)).1⟩
theorem OwnV.cong {R' : Nat → List Int} (h : OwnV w B A n c RA RC R) (he : ∀ i, i < n → R' i = R i) : OwnV w B A n c RA RC R' :=
  { h with
    outer := by
      have e : ((List.range n).map fun i => Value.slice (RA i) (R' i).length (RC i)) = (List.range n).map fun i => Value.slice (RA i) (R i).length (RC i) :=
        List.map_congr_left fun i hi => by rw [he i (by simpa using hi)]
      rw [e]; exact h.outer
    inner := fun i hi => by rw [he i hi]; exact h.inner i hi }
/-- a number written into row t. -/
theorem OwnV.set_ {t g : Nat} (h : OwnV w B A n c RA RC R) (ht : t < n) (hg : RA t = some ⟨g, 0, none⟩) (i : Nat) (x : Int) : OwnV (w.setCell ⟨g, i, none⟩ (.int .i64 x)) B A n c RA RC (fun j => if j = t then (R t).set i x else R j) := by
  have hob : blkOf (RA t) = some g := by rw [hg]; rfl
  refine { h with outer := ?_, inner := fun j hj => ?_ }
  · have e : ((List.range n).map fun j => Value.slice (RA j) (if j = t then (R t).set i x else R j).length (RC j)) = (List.range n).map fun i => Value.slice (RA i) (R i).length (RC i) :=
      List.map_congr_left fun j _ => by
        by_cases e : j = t
        · subst e; simp
        · simp [e]
    rw [e]
    exact own_of_block h.outer fun q hq => Below.heap_setCell _ _ _ _ (fun e => h.osep t ht q (by rw [← ownBlock_blk A n c]; exact hq) (by rw [e]; exact hob))
  · by_cases e : j = t
    · subst e
      rw [if_pos rfl]
      have hin := h.inner j hj
      unfold OwnZ at hin ⊢
      rw [hg] at hin ⊢
      rw [List.length_set]
      exact own_set hin i x
    · rw [if_neg e]
      exact (h.inner j hj).other fun q hq => Below.heap_setCell _ _ _ _ (fun e' => h.sep j t hj ht e q (by rw [← ownBlock_blk (RA j)]; exact hq) (by rw [e']; exact hob))
end
theorem ownV_nil (w : World) (B : Nat) (RA : Nat → Option Addr) (RC : Nat → Nat) (R : Nat → List Int) : OwnV w B none 0 0 RA RC R :=
  ⟨World.ownsRow_nil _ _ _ _, fun i h => by omega, fun i j h => by omega, fun i h => by omega⟩

theorem OwnV.push {w w4 : World} {B n c c4 : Nat} {A A4 : Option Addr} {RA : Nat → Option Addr} {RC : Nat → Nat} {R : Nat → List Int} {A' : Option Addr} {m c' : Nat} {Z : Nat}
    (h : OwnV w B A n c RA RC R) (hz : ∀ q, (blkOf A = some q ∨ ∃ i, i < n ∧ blkOf (RA i) = some q) → q < Z) (hn : OwnZ w Z A' m c' (R n)) (hBZ : B ≤ Z)
    (ho : w4.ownsRow B 22 1 (.slice A4 (n + 1) c4) (n + 1) (((List.range n).map fun i => Value.slice (RA i) (R i).length (RC i)) ++ [.slice A' m c'])) (hg : w.grownBy w4 (Value.slice A n c).ownBlock)
    (hat : (Value.slice A4 (n + 1) c4).ownBlock = (Value.slice A n c).ownBlock ∨ (Value.slice A4 (n + 1) c4).ownBlock = some w.heap.size) :
    OwnV w4 B A4 (n + 1) c4 (fun i => if i = n then A' else RA i) (fun i => if i = n then c' else RC i) R := by
  have hm : m = (R n).length := (OwnZ.len hn).symm
  subst hm
  rw [ownBlock_blk] at hg
  rw [ownBlock_blk, ownBlock_blk] at hat
  have hout : ∀ q, blkOf A' = some q → Z ≤ q ∧ q < w.heap.size := fun q hq => hn.lt q (by rw [ownBlock_blk]; exact hq)
  refine ⟨?_, fun i hi => ?_, fun i j hi hj hij q hq => ?_, fun i hi q hq => ?_⟩
  · have e : ((List.range (n + 1)).map fun i => Value.slice (if i = n then A' else RA i) (R i).length (if i = n then c' else RC i)) = ((List.range n).map fun i => Value.slice (RA i) (R i).length (RC i)) ++ [.slice A' (R n).length c'] := by
      rw [List.range_succ, List.map_append]
      congr 1
      · apply List.map_congr_left
        intro i hi
        have : i ≠ n := by simp at hi; omega
        simp [this]
      · simp
    rw [e]; exact ho
  · by_cases e : i = n
    · subst e
      simp only [if_true]
      exact (OwnZ.other hn fun q hq => by
        rw [ownBlock_blk] at hq
        exact hg.block q (hout q hq).2 (fun e' => by have := hz q (.inl e'.symm); have := (hout q hq).1; omega)).base hBZ
    · simp only [if_neg e]
      have hi' : i < n := by omega
      exact OwnZ.other (h.inner i hi') fun q hq => by
        have hq2 := hq
        rw [ownBlock_blk] at hq2
        exact hg.block q ((h.inner i hi').lt q hq).2 (fun e' => h.osep i hi' q e'.symm hq2)
  · by_cases ei : i = n
    · subst ei
      have ej : j ≠ i := fun e => hij e.symm
      simp only [if_true] at hq
      simp only [if_neg ej]
      intro e'
      have := hz q (.inr ⟨j, by omega, e'⟩)
      have := (hout q hq).1
      omega
    · simp only [if_neg ei] at hq
      by_cases ej : j = n
      · subst ej
        simp only [if_true]
        intro e'
        have := hz q (.inr ⟨i, by omega, hq⟩)
        have := (hout q e').1
        omega
      · simp only [if_neg ej]
        exact h.sep i j (by omega) (by omega) hij q hq
  · by_cases ei : i = n
    · subst ei
      simp only [if_true]
      intro e'
      have h1 := hout q e'
      rcases hat with h2 | h2
      · rw [h2] at hq; have := hz q (.inl hq); omega
      · rw [h2] at hq; simp at hq; omega
    · simp only [if_neg ei]
      intro e'
      have hi' : i < n := by omega
      rcases hat with h2 | h2
      · rw [h2] at hq; exact h.osep i hi' q hq e'
      · rw [h2] at hq; simp at hq; have := (h.lt q (.inr ⟨i, hi', e'⟩)).2; omega

/-- row t grown by an append, its slice written back. -/
theorem OwnV.put {w w1 : World} {B n c t g : Nat} {A' : Option Addr} {m c' : Nat} {l : List Int} {RA : Nat → Option Addr} {RC : Nat → Nat} {R : Nat → List Int}
    (h : OwnV w B (some ⟨g, 0, none⟩) n c RA RC R) (ht : t < n) (hn : OwnZ w1 B A' m c' l) (hg : w.grownBy w1 (blkOf (RA t))) (hat : blkOf A' = blkOf (RA t) ∨ blkOf A' = some w.heap.size) :
    OwnV (w1.setCell ⟨g, t, none⟩ (.slice A' m c')) B (some ⟨g, 0, none⟩) n c (fun i => if i = t then A' else RA i) (fun i => if i = t then c' else RC i) (fun i => if i = t then l else R i) := by
  have hm : m = l.length := (OwnZ.len hn).symm
  subst hm
  have hgl := (h.lt g (.inl rfl)).2
  have hgA : blkOf A' ≠ some g := fun e => by
    rcases hat with h2 | h2
    · exact h.osep t ht g rfl (by rw [← h2]; exact e)
    · rw [h2] at e; simp at e; omega
  refine ⟨?_, fun i hi => ?_, fun i j hi hj hij q hq => ?_, fun i hi q hq => ?_⟩
  · have h1 : w1.ownsRow B 22 1 (.slice (some ⟨g, 0, none⟩) n c) n ((List.range n).map fun i => Value.slice (RA i) (R i).length (RC i)) :=
      own_of_block h.outer fun q hq => hg.block q (World.ownsRow.lt h.outer q hq).2 (fun e => h.osep t ht q (by rw [← ownBlock_blk _ n c]; exact hq) e.symm)
    have e : ((List.range n).map fun i => Value.slice (if i = t then A' else RA i) (if i = t then l else R i).length (if i = t then c' else RC i)) = ((List.range n).map fun i => Value.slice (RA i) (R i).length (RC i)).set t (.slice A' l.length c') := by
      apply List.ext_getElem
      · simp
      · intro i h1 h2
        simp only [List.getElem_map, List.getElem_range, List.getElem_set]
        by_cases e : i = t
        · subst e; simp
        · have : ¬ t = i := fun h => e h.symm
          simp [e, this]
    rw [e]
    exact (World.ownsRow.stored h1 t (.slice A' l.length c')).1
  · by_cases e : i = t
    · subst e
      simp only [if_true]
      exact OwnZ.other hn fun q hq => Below.heap_setCell _ _ _ _ (fun e => hgA (by rw [ownBlock_blk] at hq; rw [hq, e]))
    · simp only [if_neg e]
      refine OwnZ.other (h.inner i hi) fun q hq => ?_
      have hq2 := hq
      rw [ownBlock_blk] at hq2
      rw [Below.heap_setCell _ _ _ _ (fun e' => h.osep i hi g rfl (by rw [hq2, e']))]
      exact hg.block q ((h.inner i hi).lt q hq).2 (fun e' => h.sep i t hi ht e q hq2 e'.symm)
  · by_cases ei : i = t
    · subst ei
      have ej : j ≠ i := fun e => hij e.symm
      simp only [if_true] at hq
      simp only [if_neg ej]
      intro e'
      rcases hat with h2 | h2
      · rw [h2] at hq; exact h.sep i j hi hj hij q hq e'
      · rw [h2] at hq; simp at hq; have := (h.lt q (.inr ⟨j, hj, e'⟩)).2; omega
    · simp only [if_neg ei] at hq
      by_cases ej : j = t
      · subst ej
        simp only [if_true]
        intro e'
        rcases hat with h2 | h2
        · rw [h2] at e'; exact h.sep i j hi hj ei q hq e'
        · rw [h2] at e'; simp at e'; have := (h.lt q (.inr ⟨i, hi, hq⟩)).2; omega
      · simp only [if_neg ej]
        exact h.sep i j hi hj hij q hq
  · have hq' : g = q := by simpa [blkOf] using hq
    subst hq'
    by_cases ei : i = t
    · subst ei; simp only [if_true]; exact hgA
    · simp only [if_neg ei]; exact h.osep i hi g rfl

def nobj (n : Nat) : Obj := .cells (madeCells #[.slice none 0 0] (n * 1)) 22
theorem run_mkn (n : Nat) (hn : n ≤ 65536) (w : World) : (Instr.makeSlice 26 (.int .i64 (n : Int)) (.int .i64 (n : Int))).run Try.prog w = .ok (.slice (some ⟨w.heap.size, 0, none⟩) n n) (w.alloc (nobj n)) := by
  obtain ⟨i0, hi0, hz0, hz1, hz2⟩ := info_parts slice_info
  have h := run_make (P := Try.prog) w 26 22 i0 _ Try.underlying26 hi0 hz0 .i64 .i64 (n : Int) (n : Int) (by omega) (Int.le_refl _) (by rw [hz2]; omega) (by omega)
  rw [hz1, Int.toNat_natCast] at h
  exact h
theorem ownV_made (w : World) (n : Nat) (hn : n ≤ 65536) : OwnV (w.alloc (nobj n)) w.heap.size (some ⟨w.heap.size, 0, none⟩) n n (fun _ => none) (fun _ => 0) (fun _ => []) := by
  have h := heap_alloc_new w (nobj n)
  have e : nobj n = .cells (List.replicate n (Value.slice none 0 0)).toArray 22 (0, 0) := by
    unfold nobj
    congr 1
    apply Array.toList_inj.1
    rw [toList_madeCells_one]
    simp
  have e2 : ((List.range n).map fun _ => Value.slice none 0 0) = List.replicate n (Value.slice none 0 0) := by rw [List.map_const', List.length_range]
  rw [e] at h
  refine ⟨?_, fun i _ => OwnZ.nil _ _, fun i j _ _ _ q hq => (by cases hq), fun i _ q _ e => (by cases e)⟩
  rw [e]
  simp only [List.length_nil]
  rw [e2]
  exact own_shut h (by simp) (Nat.le_refl _) (by simp only [maxLen]; omega) (by simp) (Nat.le_refl _)
end Go.Proofs.Ytfihbcpainlpcaa
