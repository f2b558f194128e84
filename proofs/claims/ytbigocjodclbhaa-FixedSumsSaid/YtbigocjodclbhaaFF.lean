/-
  The reference's FixedBack.
-/
import Derived.Test.YtbigocjodclbhaaProg
import Derived.Test.YtbigocjodclbhaaFE
namespace Go.Proofs.Ytbigocjodclbhaa
open Go.RowKit

def pascalF (o : Nat) : List Int :=
  match o with
  | 1 => [1]
  | 2 => [2, -1]
  | 3 => [3, -3, 1]
  | 4 => [4, -6, 4, -1]
  | _ => []
def rTo (cs out : List Int) (x : Int) : Nat → Int
  | 0 => x
  | k + 1 => wrap64 (rTo cs out x k + wrap64 (ix cs k * ix out (out.length - 1 - k)))
theorem rTo_guess {out : List Int} {o : Nat} {x : Int} (ho : o ≤ 4) (hl : o ≤ out.length) (hw : allWideB out = true) (hx1 : -1073741824 ≤ x) (hx2 : x < 1073741824) : rTo (pascalF o) out x o = x + guessF out o := by
  have e : ∀ k, out.length - 1 - k = out.length - (k + 1) := fun k => by omega
  rcases o with _ | _ | _ | _ | _ | o
  · simp [rTo, guessF]
  · have h1 := pk_wide hw (k := 1) (by omega) (by omega)
    simp only [rTo, guessF, pascalF, ix, e, pk] at h1 ⊢
    simp only [List.getD_cons_zero, Nat.zero_add] at h1 ⊢
    simp (disch := omega) only [IntWalk.wrap64_in]
    omega
  · have h1 := pk_wide hw (k := 1) (by omega) (by omega)
    have h2 := pk_wide hw (k := 2) (by omega) (by omega)
    simp only [rTo, guessF, pascalF, ix, e, pk] at h1 h2 ⊢
    simp only [List.getD_cons_zero, List.getD_cons_succ, Nat.zero_add, Nat.reduceAdd] at h1 h2 ⊢
    simp (disch := omega) only [IntWalk.wrap64_in]
    omega
  · have h1 := pk_wide hw (k := 1) (by omega) (by omega)
    have h2 := pk_wide hw (k := 2) (by omega) (by omega)
    have h3 := pk_wide hw (k := 3) (by omega) (by omega)
    simp only [rTo, guessF, pascalF, ix, e, pk] at h1 h2 h3 ⊢
    simp only [List.getD_cons_zero, List.getD_cons_succ, Nat.zero_add, Nat.reduceAdd] at h1 h2 h3 ⊢
    simp (disch := omega) only [IntWalk.wrap64_in]
    omega
  · have h1 := pk_wide hw (k := 1) (by omega) (by omega)
    have h2 := pk_wide hw (k := 2) (by omega) (by omega)
    have h3 := pk_wide hw (k := 3) (by omega) (by omega)
    have h4 := pk_wide hw (k := 4) (by omega) (by omega)
    simp only [rTo, guessF, pascalF, ix, e, pk] at h1 h2 h3 h4 ⊢
    simp only [List.getD_cons_zero, List.getD_cons_succ, Nat.zero_add, Nat.reduceAdd] at h1 h2 h3 h4 ⊢
    simp (disch := omega) only [IntWalk.wrap64_in]
    omega
  · omega

theorem heap_alloc_q (w : World) (o : Obj) (g : Nat) : (w.alloc o).heap[g]? = if g = w.heap.size then some o else w.heap[g]? := by
  show (w.heap.push o)[g]? = _
  rw [Array.getElem?_push]
theorem ints_block {w : World} {k : IntKind} {g : Nat} {arr : Array Value} {t : TypeId} {xs : List Int} (hg : w.heap[g]? = some (.cells arr t (0, 0))) (ha : arr.toList = xs.map (.int k)) : Ints k w w.heap.size (some ⟨g, 0, none⟩) xs := fun _ => by
  refine ⟨g, 0, rfl, (Array.getElem?_eq_some_iff.1 hg).1, fun i u hu => ?_⟩
  rw [Nat.zero_add, cell_of_row w g i arr t (0, 0) hg]
  rw [← ha] at hu
  simpa using hu

def SlQ (xs : List Int) (w : World) (e : Ending) (w' : World) : Prop := ∃ A c, e = .returned (.slice A xs.length c) ∧ Ints .i64 w' w'.heap.size A xs ∧ (∀ b off, A = some ⟨b, off, none⟩ → w.heap.size ≤ b) ∧ Below w.heap.size w w'

set_option maxHeartbeats 1000000 in
theorem pascal_any (o : Nat) (ho : o ≤ 4) (w : World) : Calls Try.prog 25 #[.int .i64 (o : Int)] w (SlQ (pascalF o) w) := by
  rcases o with _ | _ | _ | _ | _ | o
  · go_enter Try.func25, Try.ntmps25
    go_wp2
    go_ret
    exact ⟨none, 0, rfl, Rd.nil, fun b off h => by simp at h, bal (bal (bal (bal (bal (brefl w) _) _) _) _) _⟩
  · go_enter Try.func25, Try.ntmps25
    go_wp2
    go_ret
    refine ⟨_, _, rfl, ints_block (arr := #[.int .i64 1]) (t := 3) ?_ rfl, fun b off h => by simp at h; omega, bal (bal (bal (bal (bal (brefl w) _) _) _) _) _⟩
    rw [heap_alloc_q, if_neg (by simp only [World.size_alloc]; omega)]
    rw [heap_alloc_q, if_neg (by simp only [World.size_alloc]; omega)]
    rw [heap_alloc_q, if_neg (by simp only [World.size_alloc]; omega)]
    rw [heap_alloc_q, if_neg (by simp only [World.size_alloc]; omega)]
    rw [heap_alloc_q, if_pos (by rfl)]
  · go_enter Try.func25, Try.ntmps25
    go_wp2
    go_ret
    refine ⟨_, _, rfl, ints_block (arr := #[.int .i64 2, .int .i64 (-1)]) (t := 3) ?_ rfl, fun b off h => by simp at h; omega, bal (bal (bal (bal (bal (brefl w) _) _) _) _) _⟩
    rw [heap_alloc_q, if_neg (by simp only [World.size_alloc]; omega)]
    rw [heap_alloc_q, if_neg (by simp only [World.size_alloc]; omega)]
    rw [heap_alloc_q, if_neg (by simp only [World.size_alloc]; omega)]
    rw [heap_alloc_q, if_pos (by simp only [World.size_alloc])]
  · go_enter Try.func25, Try.ntmps25
    go_wp2
    go_ret
    refine ⟨_, _, rfl, ints_block (arr := #[.int .i64 3, .int .i64 (-3), .int .i64 1]) (t := 3) ?_ rfl, fun b off h => by simp at h; omega, bal (bal (bal (bal (bal (brefl w) _) _) _) _) _⟩
    rw [heap_alloc_q, if_neg (by simp only [World.size_alloc]; omega)]
    rw [heap_alloc_q, if_neg (by simp only [World.size_alloc]; omega)]
    rw [heap_alloc_q, if_pos (by simp only [World.size_alloc])]
  · go_enter Try.func25, Try.ntmps25
    go_wp2
    go_ret
    refine ⟨_, _, rfl, ints_block (arr := #[.int .i64 4, .int .i64 (-6), .int .i64 4, .int .i64 (-1)]) (t := 3) ?_ rfl, fun b off h => by simp at h; omega, bal (bal (bal (bal (bal (brefl w) _) _) _) _) _⟩
    rw [heap_alloc_q, if_neg (by simp only [World.size_alloc]; omega)]
    rw [heap_alloc_q, if_pos (by simp only [World.size_alloc])]
  · omega
end Go.Proofs.Ytbigocjodclbhaa
