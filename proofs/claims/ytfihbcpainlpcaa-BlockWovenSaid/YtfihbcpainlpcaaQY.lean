/-
  A guarded append in a region that draws its order.
-/
import Derived.Test.YtfihbcpainlpcaaProg
import Derived.Test.YtfihbcpainlpcaaQV
import Derived.Test.YtfihbcpainlpcaaAB
namespace Go.Proofs.Ytfihbcpainlpcaa
open Go.RowKit
set_option linter.unusedVariables false
set_option linter.unusedSimpArgs false

/-- append of numbers to a row of the call's own, behind a guard that holds; what is not the row's block stays. -/
theorem step_appI {ops : Array Oper} {o : Oper} {a : Act} {K : Act → World → Prop} {Q : Exit → Act → World → Prop} {E : Prop} (w : World) (hw : Region.wanted o (yielded ops a.tmps) = true) (s x : Operand)
    (ho : o.op = .call { callee := .builtin .append, args := #[s, x], argTypes := #[22, 22] }) (W0 : World) (A1 : Option Addr) (n c1 : Nat) (xs : List Int) (hs : a.eval s = .slice A1 n c1) (hown : OwnZ w W0.heap.size A1 n c1 xs)
    (B1 : Nat) (A : Option Addr) (m c : Nat) (news : List Int) (hx : a.eval x = .slice A m c) (hl : news.length = m) (hr : Ints .i64 w B1 A news) (hsz : n + m ≤ 100000) (hb : Below W0.heap.size W0 w)
    (h : ∀ A' c' w', OwnZ w' W0.heap.size A' (n + m) c' (xs ++ news) → Below W0.heap.size W0 w' → w.grownBy w' (blkOf A1) → (blkOf A' = blkOf A1 ∨ blkOf A' = some w.heap.size) → K (a.put o.dst (.slice A' (n + m) c')) w') :
    if Region.wanted o (yielded ops a.tmps) = true then Oper.wp Try.prog o a w K Q else E := by
  rw [if_pos hw]
  obtain ⟨i0, hi0, hz0, hz1, hz2⟩ := info_parts intInfo
  refine wp_app w s x 22 ho W0.heap.size 3 i0 _ 1 8 Try.underlying22 hi0 hz0 hz1 hz2 rfl (by omega) _ n _ hs hown B1 A m c (news.map (Value.int .i64)) hx (by simpa using hl) hr (oneCell_ints _ _) (by simp only [maxLen]; omega) (by omega) hb.size fun A' c' w' h2 h3 h4 => h A' c' w' ?_ (below_app hb hown h3 hb.size) (by rw [← ownBlock_blk A1 n c1]; exact h3) (by rw [← ownBlock_blk A1 n c1, ← ownBlock_blk A' (n + m) c']; exact h4)
  unfold OwnZ
  rw [List.map_append]
  exact h2
theorem step_appB {ops : Array Oper} {o : Oper} {a : Act} {K : Act → World → Prop} {Q : Exit → Act → World → Prop} {E : Prop} (w : World) (hw : Region.wanted o (yielded ops a.tmps) = true) (s x : Operand)
    (ho : o.op = .call { callee := .builtin .append, args := #[s, x], argTypes := #[41, 41] }) (W0 : World) (A1 : Option Addr) (n c1 : Nat) (xs : List Int) (hs : a.eval s = .slice A1 n c1) (hown : OwnB w W0.heap.size A1 n c1 xs)
    (B1 : Nat) (A : Option Addr) (m c : Nat) (news : List Int) (hx : a.eval x = .slice A m c) (hl : news.length = m) (hr : Ints .u8 w B1 A news) (hsz : n + m ≤ 200000) (hb : Below W0.heap.size W0 w)
    (h : ∀ A' c' w', OwnB w' W0.heap.size A' (n + m) c' (xs ++ news) → Below W0.heap.size W0 w' → K (a.put o.dst (.slice A' (n + m) c')) w') :
    if Region.wanted o (yielded ops a.tmps) = true then Oper.wp Try.prog o a w K Q else E := by
  rw [if_pos hw]
  obtain ⟨i0, hi0, hz0, hz1, hz2⟩ := info_parts byte_info
  refine wp_app w s x 41 ho W0.heap.size 5 i0 _ 1 1 Try.underlying41 hi0 hz0 hz1 hz2 rfl (by omega) _ n _ hs hown B1 A m c (news.map (Value.int .u8)) hx (by simpa using hl) hr (oneCell_ints _ _) (by simp only [maxLen]; omega) (by omega) hb.size fun A' c' w' h2 h3 h4 => h A' c' w' ?_ (below_app hb hown h3 hb.size)
  unfold OwnB
  rw [List.map_append]
  exact h2
theorem own_emptyB' (w : World) : OwnB (w.alloc (.cells #[] 5)) w.heap.size (some ⟨w.heap.size, 0, none⟩) 0 0 [] := own_empty w _ _
end Go.Proofs.Ytfihbcpainlpcaa
