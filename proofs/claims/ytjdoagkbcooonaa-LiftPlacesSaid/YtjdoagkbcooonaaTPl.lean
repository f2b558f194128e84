/-
  Parts of rows: the plain law of LiftPlaces, and rows of parts in memory.
-/
import Derived.Test.YtjdoagkbcooonaaProg
import Derived.Test.YtjdoagkbcooonaaTBack
namespace Go.Proofs.Ytjdoagkbcooonaa
open Go.RowKit

/-- the numbers a .. b - 1 of a row, with d = b - a. -/
def partL (a d : Nat) (l : List Int) : List Int := (l.drop a).take d
theorem partL_len {a d : Nat} {l : List Int} (h : a + d ≤ l.length) : (partL a d l).length = d := by simp [partL]; omega
theorem partL_ix {a d i : Nat} {l : List Int} (h : i < d) : ix (partL a d l) i = ix l (a + i) := by unfold partL; rw [ix_take h, ix_drop]
theorem partL_wide {a d : Nat} {l : List Int} (hd : a + d ≤ l.length) (h : allWideB l = true) : allWideB (partL a d l) = true :=
  allWideB_true.2 fun k hk => by
    rw [partL_len hd] at hk
    rw [partL_ix hk]
    exact allWideB_true.1 h _ (by omega)
theorem app_part {a d : Nat} {x y : List Int} (g sg : Int) (hx : a + d ≤ x.length) : appRow (partL a d y) (partL a d x) g sg = partL a d (appRow y x g sg) := by
  refine ix_ext _ _ (by rw [appRow_len, partL_len hx, partL_len (by rw [appRow_len]; exact hx)]) fun i hi => ?_
  rw [appRow_len, partL_len hx] at hi
  rw [appRow_ix (by rw [partL_len hx]; exact hi), partL_ix hi, partL_ix hi, partL_ix hi, appRow_ix (by omega)]
theorem goL_part {sg : Int} {r m a d : Nat} (hd : a + d ≤ m) : ∀ {ls : List Lft} {R Q : Nat → List Int}, (∀ s ∈ ls, liftOk (r : Int) s.1 s.2.1 s.2.2 = true) → Lvl R r m → goL sg R ls = some Q → goL sg (fun i => partL a d (R i)) ls = some fun i => partL a d (Q i)
  | [], R, Q, _, _, hg => by cases hg; rfl
  | s :: ls, R, Q, hv, h, hg => by
    rw [goL_cons] at hg
    split at hg
    · rename_i hw
      have hs := liftOk_true.1 (hv s (List.mem_cons_self ..))
      obtain ⟨s1, s2, s3, s4, s5, _⟩ := hs
      have lf := (h s.1.toNat (by omega)).1
      have ih := goL_part hd (fun s hs => hv s (List.mem_cons_of_mem _ hs)) (h.app (by omega) hw) hg
      have ea := app_part (y := R s.2.1.toNat) s.2.2 sg (show a + d ≤ (R s.1.toNat).length by omega)
      rw [goL_cons]
      have hw2 : allWideB (appRow (partL a d (R s.2.1.toNat)) (partL a d (R s.1.toNat)) s.2.2 sg) = true := by
        rw [ea]; exact partL_wide (by rw [appRow_len]; omega) hw
      rw [if_pos hw2]
      have ef : appP (fun i => partL a d (R i)) s.1.toNat s.2.1.toNat s.2.2 sg = fun i => partL a d (appP R s.1.toNat s.2.1.toNat s.2.2 sg i) := by
        funext j
        by_cases e : j = s.2.1.toNat
        · subst e; rw [appP_t, appP_t]; exact ea
        · rw [appP_o e, appP_o e]
      rw [ef]
      exact ih
    · cases hg
theorem rows_part {R : Nat → List Int} {r a d : Nat} (h : rowsB R r = true) (hd : a + d ≤ (R 0).length) : rowsB (fun i => partL a d (R i)) r = true := by
  obtain ⟨r1, r2, r3, r4⟩ := rowsB_true.1 h
  refine rowsB_true.2 ⟨r1, r2, by rw [partL_len hd]; omega, fun i hi => ?_⟩
  have := (r4 i hi).1
  exact ⟨by rw [partL_len hd, partL_len (by omega)], partL_wide (by omega) (r4 i hi).2⟩
theorem doP_part {R Q : Nat → List Int} {r a d : Nat} {ls : List Lft} (h : doP 1 R r ls = .ok Q) (hd : a + d ≤ (R 0).length) : doP 1 (fun i => partL a d (R i)) r ls = .ok fun i => partL a d (Q i) := by
  obtain ⟨hrow, hl, hgo⟩ := doP_okc h
  exact doP_some (rows_part hrow hd) hl (goL_part hd (liftB_mem hl) (lvl_of hrow) hgo)

/-- n rows of m numbers that lie below B; the row of them is the call's own. -/
structure OwnP (w : World) (B : Nat) (A : Option Addr) (n c m : Nat) (RA : Nat → Option Addr) (RC : Nat → Nat) (R : Nat → List Int) : Prop where
  outer : w.ownsRow B 33 1 (.slice A n c) n ((List.range n).map fun i => Value.slice (RA i) m (RC i))
  inner : ∀ i, i < n → Ints .i64 w B (RA i) (R i)
  len : ∀ i, i < n → (R i).length = m
  cap : ∀ i, i < n → m ≤ RC i
section
variable {w w' : World} {B n c m : Nat} {A : Option Addr} {RA : Nat → Option Addr} {RC : Nat → Nat} {R : Nat → List Int}
theorem ownP_nil (w : World) (B m : Nat) (RA : Nat → Option Addr) (RC : Nat → Nat) (R : Nat → List Int) : OwnP w B none 0 0 m RA RC R :=
  ⟨World.ownsRow_nil _ _ _ _, fun i h => by omega, fun i h => by omega, fun i h => by omega⟩
theorem OwnP.below (h : OwnP w B A n c m RA RC R) (hb : Below w.heap.size w w') (hB : B ≤ w.heap.size) : OwnP w' B A n c m RA RC R :=
  { h with outer := own_below h.outer hb (Nat.le_refl _), inner := fun i hi => (h.inner i hi).below (hb.mono hB) }
theorem OwnP.rw (h : OwnP w B A n c m RA RC R) (hB : B ≤ w.heap.size) (hm : m ≤ 100000) : Rw w w.heap.size A n RA RC R :=
  ⟨fun h0 => by
    obtain ⟨g, rfl, h1, h2⟩ := own_addr h.outer h0
    refine ⟨g, 0, rfl, h2, fun i hi => ?_⟩
    rw [Nat.zero_add, h.len i hi, World.ownsRow.cellAt h.outer i (by omega)]
    simp [hi], fun i hi => (h.inner i hi).more hB, fun i hi => by rw [h.len i hi]; omega, fun i hi => by rw [h.len i hi]; exact h.cap i hi⟩
theorem OwnP.push {w4 : World} {c4 c' : Nat} {A4 A' : Option Addr} (h : OwnP w B A n c m RA RC R) (hB : B ≤ w.heap.size) (hin : Ints .i64 w B A' (R n)) (hl : (R n).length = m) (hc : m ≤ c')
    (ho : w4.ownsRow B 33 1 (.slice A4 (n + 1) c4) (n + 1) (((List.range n).map fun i => Value.slice (RA i) m (RC i)) ++ [.slice A' m c'])) (hb : Below B w w4) :
    OwnP w4 B A4 (n + 1) c4 m (fun i => if i = n then A' else RA i) (fun i => if i = n then c' else RC i) R := by
  refine ⟨?_, fun i hi => ?_, fun i hi => ?_, fun i hi => ?_⟩
  · have e : ((List.range (n + 1)).map fun i => Value.slice (if i = n then A' else RA i) m (if i = n then c' else RC i)) = ((List.range n).map fun i => Value.slice (RA i) m (RC i)) ++ [.slice A' m c'] := by
      rw [List.range_succ, List.map_append]
      congr 1
      · apply List.map_congr_left
        intro i hi
        have : i ≠ n := by simp at hi; omega
        simp [this]
      · simp
    rw [e]; exact ho
  · by_cases e : i = n
    · subst e; simp only [if_true]; exact hin.below hb
    · simp only [if_neg e]; exact (h.inner i (by omega)).below hb
  · by_cases e : i = n
    · subst e; exact hl
    · exact h.len i (by omega)
  · by_cases e : i = n
    · subst e; simp only [if_true]; exact hc
    · simp only [if_neg e]; exact h.cap i (by omega)
end
theorem ints_part {w : World} {B g o a d : Nat} {l : List Int} (h : Ints .i64 w B (some ⟨g, o, none⟩) l) (hd : a + d ≤ l.length) : Ints .i64 w B (some ⟨g, o + a, none⟩) (partL a d l) := fun h0 => by
  rw [List.length_map, partL_len hd] at h0
  obtain ⟨b, off, e, hB, hc⟩ := h.lt (by omega)
  simp only [Option.some.injEq, Addr.mk.injEq, and_true] at e
  obtain ⟨rfl, rfl⟩ := e
  refine ⟨g, o + a, rfl, hB, fun i u hu => ?_⟩
  have hi : i < d := by
    have := (List.getElem?_eq_some_iff.1 hu).1
    rwa [List.length_map, partL_len hd] at this
  rw [get?_ints (by rw [partL_len hd]; exact hi), partL_ix hi] at hu
  cases hu
  rw [Nat.add_assoc]
  exact hc (a + i) (by omega)
theorem part_zero (a : Nat) (l : List Int) : partL a 0 l = [] := by simp [partL]
theorem part_read {w : World} {B g o a d : Nat} {sp : Option Nat} {l : List Int} (h : Ints .i64 w B (some ⟨g, o, sp⟩) l) (hd : a + d ≤ l.length) : Ints .i64 w B (some (Addr.add ⟨g, o, sp⟩ a)) (partL a d l) := by
  by_cases h0 : d = 0
  · subst h0; rw [part_zero]; exact Ints.nil
  · obtain ⟨b, off, e, _⟩ := h.at_ (i := 0) (by omega)
    simp only [Option.some.injEq, Addr.mk.injEq] at e
    obtain ⟨rfl, rfl, rfl⟩ := e
    have ea : Addr.add ⟨g, o, none⟩ a = ⟨g, o + a, none⟩ := by
      simp only [Addr.add]
      split
      · rename_i h; subst h; rfl
      · rfl
    rw [ea]
    exact ints_part h hd
theorem and16 (o : Int) : 0 ≤ bits .and .i64 o 65535 ∧ bits .and .i64 o 65535 ≤ 65535 := by
  have h : ((BitVec.ofInt 64 o) &&& (BitVec.ofInt 64 65535)).toNat ≤ 65535 := by
    rw [BitVec.toNat_and]; exact Nat.le_trans Nat.and_le_right (by decide)
  have e : bits .and .i64 o 65535 = IntKind.i64.wrap (((BitVec.ofInt 64 o) &&& (BitVec.ofInt 64 65535)).toNat : Int) := rfl
  rw [e, IntWalk.i64_in _ (by omega)]
  omega
end Go.Proofs.Ytjdoagkbcooonaa
