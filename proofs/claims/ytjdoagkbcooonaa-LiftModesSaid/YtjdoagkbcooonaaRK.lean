/-
  Words for the body of a loop over an iterator: which blocks a round changes; a row and boxes that abide. No program is named.
-/
import Derived.RangeFuncNested
import Derived.RangeFuncBound
import Derived.RangeFuncCalls
import Derived.RangeFuncLeaves
import Derived.RangeFuncBox
import Derived.Shelf.Abstract
import Derived.Shelf.RegionOpen
import Derived.WalkKit
import Derived.OwnWalkIn
import Derived.TacticsInMore
import Derived.LoopNIn
import Derived.LoopIn
import Derived.Test.YtjdoagkbcooonaaK
namespace Go.Proofs.Ytjdoagkbcooonaa
open Go.RowKit Go.Shelf

theorem bxBelow {W W' : World} {B0 B : Nat} {t : TypeId} {v : Value} (h : Boxed W B t v) (hb : Below B0 W W') (hB : B < B0) : Boxed W' B t v := (hb.block B hB).trans h
theorem bxKeep {W W' : World} {B : Nat} {t : TypeId} {v : Value} (h : Boxed W B t v) (hb : W'.heap[B]? = W.heap[B]?) : Boxed W' B t v := hb.trans h
theorem rowKept {W W' : World} {row : Option Nat} {base : Nat} {e : TypeId} {size n : Nat} {v : Value} {vs : List Value} (h : W.ownsRow base e size v n vs) (hg : W.grownBy W' row) (hr : ∀ r, row = some r → ∃ o : Obj, W.heap[r]? = some o ∧ o.isCells = false) : W'.ownsRow base e size v n vs := by
  refine h.kept hg ?_
  rcases h.2 with ⟨rfl, _⟩ | ⟨g, cap, cur, rfl, _, hgb, _⟩
  · exact .inl rfl
  · refine .inr fun e' => ?_
    obtain ⟨o, ho, hc⟩ := hr g (by simpa [Value.ownBlock] using e'.symm)
    rw [hgb] at ho; cases ho; cases hc
theorem bxKept {W W' : World} {row : Option Nat} {B : Nat} {t : TypeId} {v : Value} (h : Boxed W B t v) (hg : W.grownBy W' row) (hr : ∀ r, row = some r → ∃ o : Obj, W.heap[r]? = some o ∧ o.isCells = false) : Boxed W' B t v :=
  boxed_own B t (fun (_ : Unit) => v) () W W' row h hg hr
theorem blockKept {W W' : World} {row : Option Nat} {B : Nat} {o : Obj} (h : W.heap[B]? = some o) (ho : o.isCells = true) (hg : W.grownBy W' row) (hr : ∀ r, row = some r → ∃ o : Obj, W.heap[r]? = some o ∧ o.isCells = false) : W'.heap[B]? = some o :=
  (grownBy_keeps_cells hg hr h ho).trans h

/-- between W and W' a round has changed no block below Z but the row's, and no block that is no cells from Z on; nothing below n₀. -/
structure RK (n₀ Z : Nat) (rb : Option Nat) (W W' : World) : Prop where
  kf : KeepsFrom Z W W'
  bl : Below n₀ W W'
  blk : ∀ k, k < Z → some k ≠ rb → W'.heap[k]? = W.heap[k]?
section
variable {n₀ Z : Nat} {rb : Option Nat} {W W' W'' : World}
theorem RK.refl (n₀ Z : Nat) (rb : Option Nat) (W : World) : RK n₀ Z rb W W := ⟨KeepsFrom.refl _ _, Below.refl _ _, fun _ _ _ => rfl⟩
theorem RK.trans (h : RK n₀ Z rb W W') (k : RK n₀ Z rb W' W'') : RK n₀ Z rb W W'' := ⟨h.kf.trans k.kf, h.bl.trans k.bl, fun i hi hr => (k.blk i hi hr).trans (h.blk i hi hr)⟩
theorem RK.of_below (h : Below W.heap.size W W') (hZ : Z ≤ W.heap.size) (hn : n₀ ≤ Z) : RK n₀ Z rb W W' :=
  ⟨⟨h.size, fun k o _ hk _ => (h.block k (Array.getElem?_eq_some_iff.1 hk).1).trans hk⟩, h.mono (by omega), fun k hk _ => h.block k (by omega)⟩
theorem RK.of_kp {S : Nat → Prop} (h : Kp S W W') (hS : ∀ k, S k → Z ≤ k ∧ ∃ o : Obj, W.heap[k]? = some o ∧ o.isCells = true) (hZ : Z ≤ W.heap.size) (hn : n₀ ≤ Z) : RK n₀ Z rb W W' :=
  ⟨⟨h.size, fun k o _ hk ho => (h.block k (Array.getElem?_eq_some_iff.1 hk).1 (fun hs => by obtain ⟨_, o', h1, h2⟩ := hS k hs; rw [hk] at h1; cases h1; rw [ho] at h2; cases h2)).trans hk⟩,
    h.below (fun k hs => by have := (hS k hs).1; omega) (by omega), fun k hk _ => h.block k (by omega) (fun hs => by have := (hS k hs).1; omega)⟩
theorem RK.set_ {g i : Nat} (hrb : rb = some g) (hg : n₀ ≤ g) (u : Value) : RK n₀ Z rb W (W.setCell ⟨g, i, none⟩ u) :=
  ⟨(KeepsOthers.setCell _ _ _).from _, (Below.refl _ _).setCell (p := ⟨g, i, none⟩) hg _, fun k _ hr => Below.heap_setCell _ _ _ _ (fun e => hr (by rw [hrb, e]))⟩
theorem RK.box {B : Nat} {t : TypeId} {v : Value} (h : RK n₀ Z rb W W') (hB : Boxed W B t v) (hZ : B < Z) (hr : some B ≠ rb) : Boxed W' B t v := bxKeep hB (h.blk B hZ hr)
end
end Go.Proofs.Ytjdoagkbcooonaa
