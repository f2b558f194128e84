/-
  learn.Back: the walk.
-/
import Derived.Test.YtjhmmbejpdibhaaProg
import Derived.Test.YtjhmmbejpdibhaaLBk
import Derived.Test.YtjhmmbejpdibhaaRK
import Derived.Test.YtjhmmbejpdibhaaLQ
import Derived.Test.YtjhmmbejpdibhaaLRests
namespace Go.Proofs.Ytjhmmbejpdibhaa
open Go.RowKit Go.Shelf

attribute [local go_sem] Oper.semAt_some


set_option maxRecDepth 100000 in
set_option maxHeartbeats 2000000 in
theorem lbackL_bad (l : List Int) (ss : List (Int × Int)) (n : Nat) (hs : ss.length ≤ 9223372036854775807) (h : mayB ss = false) (A B : Option Addr) (c d : Nat) (w : World) (hb : Stgs w w.heap.size B ss) :
    Calls Try.prog 28 #[.slice A n c, .slice B ss.length d] w (LPairQ (lbackP l ss) w) := by
  rw [lbackP_bad h]
  have Hm := Lib.hid h
  clear h
  refine (callsIn_wide (n := 20)).1 ?_
  refine callsIn_of_wp_marks Try.func28 rfl trivial ?_ rfl
  simp only [Try.ntmps28, List.size_toArray, List.length_cons, List.length_nil, Nat.reduceAdd, Nat.reduceSub, Array.replicate_succ, Array.replicate_zero, List.push_toArray, List.append_toArray, List.nil_append, List.cons_append]
  have hb0 := bal (bal (brefl w) (.cells #[.slice none 0 0] 24)) (.cells #[.int .i64 0] 27)
  gi_wp2_with fail
  refine ⟨trivial, ?_⟩
  (with_reducible refine (callsIn_wide.2 (mayL_any ss _ rfl hs _ _ _ ((hb.below hb0).more hb0.size))).mono ?_); rintro e w1 ⟨rfl, b1⟩
  rw [Hm.out]
  have x0 : Boxed w1 w.heap.size 24 (.slice none 0 0) := bxBelow (Boxed.alloc (Boxed.new w _ _) _) b1 (by simp; omega)
  have x1 : Boxed w1 (w.heap.size + 1) 27 (.int .i64 0) := by
    have := Boxed.new (w.alloc (.cells #[.slice none 0 0] 24)) 27 (.int .i64 0)
    rw [World.size_alloc] at this
    exact bxBelow this b1 (by simp)
  have B1 : Below w.heap.size w w1 := hb0.trans (b1.mono hb0.size)
  have c0 := x0.cell
  have c1 := x1.cell
  have f0 := x0.frozen
  have f1 := x1.frozen
  have y0 := Boxed.other (x0.set (.slice none 0 0)) (B' := w.heap.size + 1) (by omega) (.int .i64 1)
  have y1 := (Boxed.other x1 (B' := w.heap.size) (by omega) (.slice none 0 0)).set (.int .i64 1)
  have z0 := y0.cell
  have z1 := y1.cell
  gi_wp2_with fail
  refine ⟨.tuple #[.slice none 0 0, .int .i64 1], ?_, lpair_err ((B1.setCell (p := ⟨w.heap.size, 0, none⟩) (Nat.le_refl _) _).setCell (p := ⟨w.heap.size + 1, 0, none⟩) (by simp) _)⟩
  simp [results, Try.f28, go_sem, z0, z1]

set_option maxRecDepth 100000 in
set_option maxHeartbeats 2000000 in
theorem lbackL_far (l : List Int) (ss : List (Int × Int)) (hs : ss.length ≤ 9223372036854775807) (hl : l.length ≤ 60000) (h : mayB ss = true) (h2 : allWideB l = false) (A B : Option Addr) (c d : Nat) (w : World) (ha : Ints .i64 w w.heap.size A l) (hb : Stgs w w.heap.size B ss) :
    Calls Try.prog 28 #[.slice A l.length c, .slice B ss.length d] w (LPairQ (lbackP l ss) w) := by
  rw [lbackP_far h h2]
  have Hm := Lib.hid h
  have Hw := Lib.hid h2
  clear h h2
  refine (callsIn_wide (n := 20)).1 ?_
  refine callsIn_of_wp_marks Try.func28 rfl trivial ?_ rfl
  simp only [Try.ntmps28, List.size_toArray, List.length_cons, List.length_nil, Nat.reduceAdd, Nat.reduceSub, Array.replicate_succ, Array.replicate_zero, List.push_toArray, List.append_toArray, List.nil_append, List.cons_append]
  have hb0 := bal (bal (brefl w) (.cells #[.slice none 0 0] 24)) (.cells #[.int .i64 0] 27)
  gi_wp2_with fail
  refine ⟨trivial, ?_⟩
  (with_reducible refine (callsIn_wide.2 (mayL_any ss _ rfl hs _ _ _ ((hb.below hb0).more hb0.size))).mono ?_); rintro e w1 ⟨rfl, b1⟩
  rw [Hm.out]
  have x0 : Boxed w1 w.heap.size 24 (.slice none 0 0) := bxBelow (Boxed.alloc (Boxed.new w _ _) _) b1 (by simp; omega)
  have x1 : Boxed w1 (w.heap.size + 1) 27 (.int .i64 0) := by
    have := Boxed.new (w.alloc (.cells #[.slice none 0 0] 24)) 27 (.int .i64 0)
    rw [World.size_alloc] at this
    exact bxBelow this b1 (by simp)
  have B1 : Below w.heap.size w w1 := hb0.trans (b1.mono hb0.size)
  have c0 := x0.cell
  have c1 := x1.cell
  have f0 := x0.frozen
  have f1 := x1.frozen
  have y0 := Boxed.other (x0.set (.slice none 0 0)) (B' := w.heap.size + 1) (by omega) (.int .i64 6)
  have y1 := (Boxed.other x1 (B' := w.heap.size) (by omega) (.slice none 0 0)).set (.int .i64 6)
  have z0 := y0.cell
  have z1 := y1.cell
  gi_wp2_with fail
  refine ⟨trivial, ?_⟩
  (with_reducible refine (callsIn_wide.2 (allWideL_any l _ rfl (by omega) _ _ _ _ (ha.below B1))).mono ?_); rintro e w' ⟨rfl, rfl⟩
  rw [Hw.out]
  gi_wp2_with fail
  refine ⟨.tuple #[.slice none 0 0, .int .i64 6], ?_, lpair_err ((B1.setCell (p := ⟨w.heap.size, 0, none⟩) (Nat.le_refl _) _).setCell (p := ⟨w.heap.size + 1, 0, none⟩) (by simp) _)⟩
  simp [results, Try.f28, go_sem, z0, z1]
end Go.Proofs.Ytjhmmbejpdibhaa
