/-
  A block under way: its variable, and the rows that it has so far.
-/
import Derived.Test.YtfihbcpainlpcaaProg
import Derived.Test.YtfihbcpainlpcaaQPa
namespace Go.Proofs.Ytfihbcpainlpcaa
open Go.RowKit
set_option linter.unusedVariables false
set_option linter.unusedSimpArgs false

/-- the variable lies in block g; the rows are of the call's own, from wx on; of the older blocks g alone has changed. -/
def GrowR (wx : World) (g : Nat) (bits : Int) (Q : Nat → List Int) (k : Nat) (A' : Option Addr) (c' : Nat) (wr : World) : Prop :=
  wr.cell? ⟨g, 0, none⟩ = some (.int .i64 bits) ∧ wr.cell? ⟨g, 1, none⟩ = some (.slice A' k c') ∧ wr.frozen? ⟨g, 1, none⟩ = false ∧ (∃ RA RC, OwnV wr wx.heap.size A' k c' RA RC Q) ∧ Kp (fun q => q = g) wx wr
theorem growR_start (w : World) (bits : Int) (Q : Nat → List Int) : GrowR (w.alloc (.cells #[.int .i64 bits, .slice none 0 0] 28)) w.heap.size bits Q 0 none 0 (w.alloc (.cells #[.int .i64 bits, .slice none 0 0] 28)) := by
  obtain ⟨c0, c1, _, f1⟩ := blk_cell (heap_alloc_new w (.cells #[.int .i64 bits, .slice none 0 0] 28))
  exact ⟨c0, c1, f1, ⟨fun _ => none, fun _ => 0, ownV_nil _ _ _ _ _⟩, Kp.refl _ _⟩
theorem GrowR.below {wx wo : World} {g : Nat} {bits : Int} {Q : Nat → List Int} {k : Nat} {A : Option Addr} {c B : Nat} (h : GrowR wx g bits Q k A c wo) (hB : B ≤ g) (hg : g < wx.heap.size) : Below B wx wo :=
  h.2.2.2.2.below (fun _ e => by subst e; exact hB) (by omega)
theorem GrowR.at_ {wx wo : World} {g q : Nat} {bits : Int} {Q : Nat → List Int} {k : Nat} {A : Option Addr} {c : Nat} (h : GrowR wx g bits Q k A c wo) (hq : q < wx.heap.size) (hne : q ≠ g) : wo.heap[q]? = wx.heap[q]? := h.2.2.2.2.block q hq hne
/-- behind the append of a row: the older blocks. -/
theorem grow_keep {wx wo w5 w7 : World} {g : Nat} {Q : Nat → List Int} {k : Nat} {A : Option Addr} {c : Nat} {o : Obj} {RA : Nat → Option Addr} {RC : Nat → Nat} (ov : OwnV wo wx.heap.size A k c RA RC Q) (hk : Kp (fun q => q = g) wx wo) (b5 : Below wo.heap.size wo w5) (hg7 : (w5.alloc o).grownBy w7 (blkOf A)) :
    ∀ q, q < wx.heap.size → w7.heap[q]? = wo.heap[q]? := fun q hq => by
  have hs := hk.size
  have hs5 := b5.size
  have hqo : q < wo.heap.size := by omega
  rw [hg7.block q (by simp; omega) (fun e => by have := (ov.lt q (.inl e.symm)).1; omega), Below.heap_alloc _ _ _ (by omega)]
  exact b5.block q hqo
theorem grow_step {wx wo w5 w7 : World} {g : Nat} {bits : Int} {Q : Nat → List Int} {k : Nat} {A A5 A7 : Option Addr} {c m c5 c7 : Nat} {o : Obj} {RA : Nat → Option Addr} {RC : Nat → Nat} (c0 : wo.cell? ⟨g, 0, none⟩ = some (.int .i64 bits)) (c1 : wo.cell? ⟨g, 1, none⟩ = some (.slice A k c)) (f1 : wo.frozen? ⟨g, 1, none⟩ = false)
    (ov : OwnV wo wx.heap.size A k c RA RC Q) (hk : Kp (fun q => q = g) wx wo) (hgx : g < wx.heap.size) (b5 : Below wo.heap.size wo w5) (ho5 : OwnZ w5 wo.heap.size A5 m c5 (Q k))
    (ho7 : w7.ownsRow wx.heap.size 22 1 (.slice A7 (k + 1) c7) (k + 1) (((List.range k).map fun i => Value.slice (RA i) (Q i).length (RC i)) ++ [.slice A5 m c5])) (hg7 : (w5.alloc o).grownBy w7 (blkOf A))
    (hat : blkOf A7 = blkOf A ∨ blkOf A7 = some (w5.alloc o).heap.size) :
    GrowR wx g bits Q (k + 1) A7 c7 (w7.setCell ⟨g, 1, none⟩ (.slice A7 (k + 1) c7)) := by
  have hkp := grow_keep ov hk b5 hg7
  have hs := hk.size
  have hs5 := b5.size
  have d0 := (World.cell?_of_block (a := ⟨g, 0, none⟩) (hkp g hgx)).trans c0
  have d1 := (World.cell?_of_block (a := ⟨g, 1, none⟩) (hkp g hgx)).trans c1
  have e1 := (World.frozen?_of_block (a := ⟨g, 1, none⟩) (hkp g hgx)).trans f1
  have hsz7 := hg7.size
  rw [World.size_alloc] at hsz7
  refine ⟨by simp [go_sem, d0], by simp [go_sem, d1], by rw [World.frozen?_setCell]; exact e1, ?_, ?_⟩
  · have ov6 := (ov.below b5 (Nat.le_refl _)).below (bal (brefl w5) o) (Nat.le_refl _)
    have hp := OwnV.push (Z := wo.heap.size) ov6 (fun q hq => (ov.lt q hq).2) (ho5.alloc o) hs ho7 (by rw [ownBlock_blk]; exact hg7) (by rw [ownBlock_blk, ownBlock_blk]; exact hat)
    exact ⟨_, _, hp.other fun q hq => Below.heap_setCell _ _ _ _ (fun e => by have := (hp.lt q hq).1; simp at e; omega)⟩
  · have k7 : Kp (fun q => q = g) wx w7 :=
      ⟨hg7.os.trans (b5.os.trans hk.os), hg7.tape.trans (b5.tape.trans hk.tape), hg7.output.trans (b5.output.trans hk.output), by omega, fun q hq hne => (hkp q hq).trans (hk.block q hq hne)⟩
    exact k7.set_ rfl _
end Go.Proofs.Ytfihbcpainlpcaa
