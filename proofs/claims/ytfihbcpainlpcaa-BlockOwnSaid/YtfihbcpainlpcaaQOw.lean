/-
  BlockOwn: what the two loops keep.
-/
import Derived.Test.YtfihbcpainlpcaaProg
import Derived.Test.YtfihbcpainlpcaaQV
namespace Go.Proofs.Ytfihbcpainlpcaa
open Go.RowKit
set_option linter.unusedVariables false
set_option linter.unusedSimpArgs false

/-- the rows of the block that is written over: at row i. -/
def OwnR (Z0 Z1 gm r c n : Nat) (wx : World) (i : Nat) (wr : World) : Prop :=
  (∃ RA RC R, OwnV wr Z0 (some ⟨gm, 0, none⟩) r c RA RC R ∧ (∀ j, i ≤ j → j < r → (R j).length = n) ∧ ∀ j, j < r → ∀ q, blkOf (RA j) = some q → q < Z1 ∨ wx.heap.size ≤ q) ∧ Kp (fun q => Z0 ≤ q ∧ q < Z1) wx wr
theorem OwnR.set_ {Z0 Z1 gm r c n i t g k : Nat} {wx wr : World} {RA : Nat → Option Addr} {RC : Nat → Nat} {R : Nat → List Int} (ho : OwnV wr Z0 (some ⟨gm, 0, none⟩) r c RA RC R) (hn : ∀ j, i ≤ j → j < r → (R j).length = n)
    (hq : ∀ j, j < r → ∀ q, blkOf (RA j) = some q → q < Z1 ∨ wx.heap.size ≤ q) (hk : Kp (fun q => Z0 ≤ q ∧ q < Z1) wx wr) (ht : t < r) (hg : RA t = some ⟨g, 0, none⟩) (x : Int) :
    OwnR Z0 Z1 gm r c n wx i (wr.setCell ⟨g, k, none⟩ (.int .i64 x)) := by
  have hb : blkOf (RA t) = some g := by rw [hg]; rfl
  refine ⟨⟨RA, RC, _, ho.set_ ht hg k x, fun j h1 h2 => ?_, hq⟩, ?_⟩
  · by_cases e : j = t
    · subst e; simp only [if_true, List.length_set]; exact hn _ h1 h2
    · simp only [if_neg e]; exact hn _ h1 h2
  · have h1 := (ho.lt g (.inr ⟨t, ht, hb⟩)).1
    refine ⟨hk.os, hk.tape, hk.output, Nat.le_trans hk.size (by simp [World.setCell]), fun q hq1 hq2 => ?_⟩
    have h2 := hq t ht g hb
    rw [Below.heap_setCell _ _ _ _ (by show q ≠ g; intro e; subst e; rcases h2 with h2 | h2; exact hq2 ⟨h1, h2⟩; omega)]
    exact hk.block q hq1 hq2
theorem OwnR.app {Z0 Z1 gm r c n u : Nat} {wx wr w4 : World} {RA : Nat → Option Addr} {RC : Nat → Nat} {R : Nat → List Int} {l : List Int} {o : Obj} {A4 : Option Addr} {k4 m : Nat} (ho : OwnV wr Z0 (some ⟨gm, 0, none⟩) r c RA RC R) (hn : ∀ j, u ≤ j → j < r → (R j).length = n)
    (hq : ∀ j, j < r → ∀ q, blkOf (RA j) = some q → q < Z1 ∨ wx.heap.size ≤ q) (hk : Kp (fun q => Z0 ≤ q ∧ q < Z1) wx wr) (hu : u < r)
    (ho4 : OwnZ w4 Z0 A4 m k4 l) (hg : ((wr.alloc o).drew).grownBy w4 (blkOf (RA u))) (hat : blkOf A4 = blkOf (RA u) ∨ blkOf A4 = some (wr.alloc o).drew.heap.size) (hgm : Z0 ≤ gm ∧ gm < Z1) :
    OwnR Z0 Z1 gm r c n wx (u + 1) (w4.setCell ⟨gm, u, none⟩ (.slice A4 m k4)) := by
  have ho' : OwnV (wr.alloc o).drew Z0 (some ⟨gm, 0, none⟩) r c RA RC R := (ho.below (bal (brefl wr) o) (Nat.le_refl _)).drew
  have hs := hk.size
  refine ⟨⟨_, _, _, ho'.put hu ho4 hg hat, fun j h1 h2 => ?_, fun j hj q h => ?_⟩, ?_⟩
  · simp only [if_neg (show j ≠ u by omega)]
    exact hn j (by omega) h2
  · by_cases e : j = u
    · subst e
      simp only [if_true] at h
      rcases hat with h2 | h2
      · rw [h2] at h; exact hq j hu q h
      · rw [h2] at h; simp at h; right; omega
    · simp only [if_neg e] at h; exact hq j hj q h
  · have k1 : Kp (fun q => Z0 ≤ q ∧ q < Z1) wx (wr.alloc o).drew := (hk.alloc o).drew
    have k2 : Kp (fun q => Z0 ≤ q ∧ q < Z1) wx w4 :=
      ⟨hg.os.trans k1.os, hg.tape.trans k1.tape, hg.output.trans k1.output, Nat.le_trans k1.size hg.size, fun k hk' hS =>
        (hg.block k (Nat.lt_of_lt_of_le hk' k1.size) (fun e => by
          have h1 := hq u hu k e.symm
          have h2 := (ho.lt k (.inr ⟨u, hu, e.symm⟩)).1
          rcases h1 with h1 | h1
          · exact hS ⟨h2, h1⟩
          · omega)).trans (k1.block k hk' hS)⟩
    exact k2.set_ hgm _
end Go.Proofs.Ytfihbcpainlpcaa
