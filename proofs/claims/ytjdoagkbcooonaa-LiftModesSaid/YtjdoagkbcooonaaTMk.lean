/-
  make of a row of numbers; samples of 16 bits.
-/
import Derived.Test.YtjdoagkbcooonaaProg
import Derived.Test.YtjdoagkbcooonaaTMp
import Derived.Test.YtjdoagkbcooonaaTC
import Derived.Test.YtjdoagkbcooonaaAI
import Derived.Test.YtjdoagkbcooonaaTK
import Derived.Test.YtjdoagkbcooonaaO
namespace Go.Proofs.Ytjdoagkbcooonaa
open Go.RowKit

def zobj (n : Nat) : Obj := .cells (madeCells #[.int .i64 0] (n * 1)) 3
theorem run_mk (n : Nat) (hn : n ≤ 65536) (w : World) : (Instr.makeSlice 33 (.int .i64 (n : Int)) (.int .i64 (n : Int))).run Try.prog w = .ok (.slice (some ⟨w.heap.size, 0, none⟩) n n) (w.alloc (zobj n)) := by
  obtain ⟨i0, hi0, hz0, hz1, hz2⟩ := info_parts intInfo
  have h := run_make (P := Try.prog) w 33 3 i0 _ Try.underlying33 hi0 hz0 .i64 .i64 (n : Int) (n : Int) (by omega) (Int.le_refl _) (by rw [hz2]; omega) (by omega)
  rw [hz1, Int.toNat_natCast] at h
  exact h
theorem run_mk0 (n : Nat) (hn : n ≤ 65536) (w : World) : (Instr.makeSlice 33 (.int .i64 0) (.int .i64 (n : Int))).run Try.prog w = .ok (.slice (some ⟨w.heap.size, 0, none⟩) 0 n) (w.alloc (zobj n)) := by
  obtain ⟨i0, hi0, hz0, hz1, hz2⟩ := info_parts intInfo
  have h := run_make (P := Try.prog) w 33 3 i0 _ Try.underlying33 hi0 hz0 .i64 .i64 0 (n : Int) (by omega) (by omega) (by rw [hz2]; omega) (by omega)
  rw [hz1, Int.toNat_natCast] at h
  exact h
theorem own_mk0 (w : World) (n : Nat) (hn : n ≤ 65536) : OwnZ (w.alloc (zobj n)) w.heap.size (some ⟨w.heap.size, 0, none⟩) 0 n [] :=
  World.ownsRow_made w _ n (Nat.le_refl _) (by simp only [maxLen]; omega) (size_madeCells _ _)
theorem zobj_eq (n : Nat) : zobj n = .cells ((List.replicate n (0 : Int)).map (Value.int .i64)).toArray 3 (0, 0) := by
  unfold zobj
  congr 1
  apply Array.toList_inj.1
  rw [toList_madeCells_one]
  simp
theorem own_mk (w : World) (n : Nat) (hn : n ≤ 65536) : OwnZ (w.alloc (zobj n)) w.heap.size (some ⟨w.heap.size, 0, none⟩) n n (List.replicate n 0) := by
  have h := heap_alloc_new w (zobj n)
  rw [zobj_eq] at h
  unfold OwnZ
  rw [zobj_eq]
  exact own_shut h (by simp) (Nat.le_refl _) (by simp only [maxLen]; omega) (by simp) (Nat.le_refl _)


theorem fit16 {l : List Int} (h : Fit .i16 l) (k : Nat) : -32768 ≤ ix l k ∧ ix l k ≤ 32767 := by
  by_cases hk : k < l.length
  · have := h (ix l k) (by simp [ix, hk])
    have m3 : IntKind.i16.min = -32768 := by decide
    have m4 : IntKind.i16.max = 32767 := by decide
    simp [Lit.wf, m3, m4] at this
    omega
  · rw [show ix l k = 0 from by simp [ix, hk]]; omega
theorem own_zero {W : World} {B g n : Nat} (h : W.heap[g]? = some (zobj n)) (hB : B ≤ g) (hn : n ≤ 65536) : OwnZ W B (some ⟨g, 0, none⟩) n n (List.replicate n 0) := by
  rw [zobj_eq] at h
  unfold OwnZ
  exact own_shut h (by simp) (Nat.le_refl _) (by simp only [maxLen]; omega) (by simp) hB
theorem ownM_made {w W : World} {B n ga gb g : Nat} (hB : B ≤ w.heap.size) (hn : n ≤ 65536) (h : (ga = w.heap.size ∧ gb = w.heap.size + 1) ∨ (ga = w.heap.size + 1 ∧ gb = w.heap.size)) (hg : g = w.heap.size + 2)
    (hW : W.heap = (((w.alloc (zobj n)).alloc (zobj n)).alloc (.cells #[.slice (some ⟨ga, 0, none⟩) n n, .slice (some ⟨gb, 0, none⟩) n n] 33)).heap) :
    OwnM W B (some ⟨g, 0, none⟩) 2 2 n (two (some ⟨ga, 0, none⟩) (some ⟨gb, 0, none⟩)) (two n n) (two (List.replicate n 0) (List.replicate n 0)) := by
  have z0 : W.heap[w.heap.size]? = some (zobj n) := by
    rw [hW, Below.heap_alloc _ _ _ (by simp; omega), Below.heap_alloc _ _ _ (by simp)]
    exact heap_alloc_new w _
  have z1 : W.heap[w.heap.size + 1]? = some (zobj n) := by
    rw [hW, Below.heap_alloc _ _ _ (by simp)]
    have := heap_alloc_new (w.alloc (zobj n)) (zobj n)
    rwa [World.size_alloc] at this
  have z2 : W.heap[g]? = some (.cells #[.slice (some ⟨ga, 0, none⟩) n n, .slice (some ⟨gb, 0, none⟩) n n] 33 (0, 0)) := by
    rw [hW, hg]
    have := heap_alloc_new ((w.alloc (zobj n)).alloc (zobj n)) (.cells #[.slice (some ⟨ga, 0, none⟩) n n, .slice (some ⟨gb, 0, none⟩) n n] 33)
    rwa [World.size_alloc, World.size_alloc] at this
  have za : W.heap[ga]? = some (zobj n) := by rcases h with ⟨rfl, _⟩ | ⟨rfl, _⟩ <;> assumption
  have zb : W.heap[gb]? = some (zobj n) := by rcases h with ⟨_, rfl⟩ | ⟨_, rfl⟩ <;> assumption
  refine ⟨?_, fun i hi => ?_, fun i j hi hj hij q hq => ?_, fun i hi q hq => ?_⟩
  · exact own_shut (cur := [.slice (some ⟨ga, 0, none⟩) n n, .slice (some ⟨gb, 0, none⟩) n n]) z2 rfl (Nat.le_refl _) (by simp only [maxLen]; omega) (by simp [two, List.range_succ]) (by omega)
  · rcases two_lt hi with rfl | rfl
    · exact own_zero za (by omega) hn
    · exact own_zero zb (by omega) hn
  · rcases two_lt hi with rfl | rfl <;> rcases two_lt hj with rfl | rfl <;> simp [two, Value.ownBlock] at hq hij ⊢ <;> omega
  · rcases two_lt hi with rfl | rfl <;> simp [two, Value.ownBlock] at hq ⊢ <;> omega
theorem cell_set_ne {w : World} {p q : Addr} {v u : Value} (h : w.cell? p = some v) (hne : p.block ≠ q.block) : (w.setCell q u).cell? p = some v := (World.cell?_of_block (Below.heap_setCell _ _ _ _ hne)).trans h
/-- zeros whose first k numbers are those of ys. -/
def upto (n : Nat) (ys : List Int) (k : Nat) : List Int := (List.range n).map fun j => if j < k then ix ys j else 0
theorem upto_zero (n : Nat) (ys : List Int) : upto n ys 0 = List.replicate n 0 := ix_ext _ _ (by simp [upto]) fun j hj => by
  have hj' : j < n := by simpa [upto] using hj
  unfold upto; rw [ix_map_range _ _ _ hj', if_neg (by omega)]; simp [ix, hj']
theorem upto_ix {n : Nat} {ys : List Int} {k j : Nat} (h : j < n) : ix (upto n ys k) j = if j < k then ix ys j else 0 := by unfold upto; rw [ix_map_range _ _ _ h]
theorem upto_set {n : Nat} {ys : List Int} {k : Nat} (h : k < n) : (upto n ys k).set k (ix ys k) = upto n ys (k + 1) := by
  refine ix_ext _ _ (by simp [upto]) fun j hj => ?_
  have hj' : j < n := by simpa [upto] using hj
  rw [ix_set _ _ _ _ (by simpa [upto] using h), upto_ix hj', upto_ix hj']
  by_cases e : j = k
  · subst e; simp
  · rw [if_neg e]
    by_cases h' : j < k
    · rw [if_pos h', if_pos (by omega)]
    · rw [if_neg h', if_neg (by omega)]
theorem upto_all {n : Nat} {ys : List Int} (h : ys.length = n) : upto n ys n = ys := ix_ext _ _ (by simp [upto, h]) fun j hj => by
  have hj' : j < n := by simpa [upto] using hj
  rw [upto_ix hj', if_pos hj']

/-- rows of zeros that are on the way to xs, ys. -/
theorem two_zero (n : Nat) : ∀ i, i < 2 → (two (List.replicate n (0 : Int)) (List.replicate n 0) i).length = n := fun i hi => by
  rcases two_lt hi with rfl | rfl <;> simp [two]
end Go.Proofs.Ytjdoagkbcooonaa
