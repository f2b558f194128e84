/-
  append of numbers to a row of the call's own, twice in a statement.
-/
import Derived.Test.YtfihbcpainlpcaaProg
import Derived.Test.YtfihbcpainlpcaaK
namespace Go.Proofs.Ytfihbcpainlpcaa
open Go.RowKit
set_option linter.unusedVariables false
set_option linter.unusedSimpArgs false

theorem intInfo : (Try.prog.info? 3).map (fun i => (i.zero, i.size, i.bytes)) = some (some (.int .i64 0), 1, 8) := by kernel_rfl
/-- a row of numbers of the call's own. -/
def OwnZ (w : World) (B : Nat) (A : Option Addr) (n c : Nat) (l : List Int) : Prop := w.ownsRow B 3 1 (.slice A n c) n (l.map (.int .i64))
theorem own_emptyZ (w : World) : OwnZ (w.alloc (.cells #[] 3)) w.heap.size (some ⟨w.heap.size, 0, none⟩) 0 0 [] := own_empty w _ _
theorem OwnZ.ints {w : World} {B : Nat} {A : Option Addr} {n c : Nat} {l : List Int} (h : OwnZ w B A n c l) : Ints .i64 w w.heap.size A l := own_ints h
theorem OwnZ.base {w : World} {B B' : Nat} {A : Option Addr} {n c : Nat} {l : List Int} (h : OwnZ w B A n c l) (hB : B' ≤ B) : OwnZ w B' A n c l := own_base h hB
theorem OwnZ.alloc {w : World} {B : Nat} {A : Option Addr} {n c : Nat} {l : List Int} (h : OwnZ w B A n c l) (o : Obj) : OwnZ (w.alloc o) B A n c l := World.ownsRow.alloc h o
theorem OwnZ.below {w w' : World} {B B1 : Nat} {A : Option Addr} {n c : Nat} {l : List Int} (h : OwnZ w B A n c l) (hb : Below B1 w w') (hB : w.heap.size ≤ B1) : OwnZ w' B A n c l := own_below h hb hB
theorem OwnZ.nil (w : World) (B : Nat) : OwnZ w B none 0 0 [] := World.ownsRow_nil _ _ _ _
/-- append of numbers to a row of the call's own (from W0's size on). -/
theorem app_z {ops : Array Oper} {rest : List Oper} {o : Oper} {a : Act} {Q : Exit → Act → World → Prop} (w : World) (hgd : o.guard = none) (s x : Operand)
    (ho : o.op = .call { callee := .builtin .append, args := #[s, x], argTypes := #[22, 22] }) (W0 : World) (A1 : Option Addr) (n c1 : Nat) (xs : List Int) (hs : a.eval s = .slice A1 n c1) (hown : OwnZ w W0.heap.size A1 n c1 xs)
    (B1 : Nat) (A : Option Addr) (m c : Nat) (news : List Int) (hx : a.eval x = .slice A m c) (hl : news.length = m) (hr : Ints .i64 w B1 A news) (hsz : n + m ≤ 1000000) (hb : Below W0.heap.size W0 w)
    (h : ∀ A' c' w', OwnZ w' W0.heap.size A' (n + m) c' (xs ++ news) → Below W0.heap.size W0 w' → wpList Try.prog ops Q rest (a.put o.dst (.slice A' (n + m) c')) w') : wpList Try.prog ops Q (o :: rest) a w := by
  obtain ⟨i0, hi0, hz0, hz1, hz2⟩ := info_parts intInfo
  refine wpList_app w hgd s x 22 ho W0.heap.size 3 i0 _ 1 8 Try.underlying22 hi0 hz0 hz1 hz2 rfl (by omega) _ n _ hs hown B1 A m c (news.map (Value.int .i64)) hx (by simpa using hl) hr (oneCell_ints _ _) (by simp only [maxLen]; omega) (by omega) hb.size fun A' c' w' h2 h3 _ => h A' c' w' ?_ (below_app hb hown h3 hb.size)
  unfold OwnZ
  rw [List.map_append]
  exact h2
theorem app_z0 {ops : Array Oper} {rest : List Oper} {o : Oper} {a : Act} {Q : Exit → Act → World → Prop} (w : World) (hgd : o.guard = none) (s x : Operand)
    (ho : o.op = .call { callee := .builtin .append, args := #[s, x], argTypes := #[22, 22] }) (W0 : World) (A1 : Option Addr) (c1 : Nat) (hs : a.eval s = .slice A1 0 c1) (hown : OwnZ w W0.heap.size A1 0 c1 [])
    (B1 : Nat) (A : Option Addr) (m c : Nat) (news : List Int) (hx : a.eval x = .slice A m c) (hl : news.length = m) (hr : Ints .i64 w B1 A news) (hsz : m ≤ 1000000) (hb : Below W0.heap.size W0 w)
    (h : ∀ A' c' w', OwnZ w' W0.heap.size A' m c' news → Below W0.heap.size W0 w' → wpList Try.prog ops Q rest (a.put o.dst (.slice A' m c')) w') : wpList Try.prog ops Q (o :: rest) a w := by
  refine app_z w hgd s x ho W0 A1 0 c1 [] hs hown B1 A m c news hx hl hr (by omega) hb fun A' c' w' h1 h2 => ?_
  rw [Nat.zero_add] at h1 ⊢
  exact h A' c' w' h1 h2

/-- the same where the operation is guarded and its guard is met. -/
theorem app_zw {ops : Array Oper} {rest : List Oper} {o : Oper} {a : Act} {Q : Exit → Act → World → Prop} (w : World) (hgd : Region.wanted o (yielded ops a.tmps) = true) (s x : Operand)
    (ho : o.op = .call { callee := .builtin .append, args := #[s, x], argTypes := #[22, 22] }) (W0 : World) (A1 : Option Addr) (n c1 : Nat) (xs : List Int) (hs : a.eval s = .slice A1 n c1) (hown : OwnZ w W0.heap.size A1 n c1 xs)
    (B1 : Nat) (A : Option Addr) (m c : Nat) (news : List Int) (hx : a.eval x = .slice A m c) (hl : news.length = m) (hr : Ints .i64 w B1 A news) (hsz : n + m ≤ 1000000) (hb : Below W0.heap.size W0 w)
    (h : ∀ A' c' w', OwnZ w' W0.heap.size A' (n + m) c' (xs ++ news) → Below W0.heap.size W0 w' → wpList Try.prog ops Q rest (a.put o.dst (.slice A' (n + m) c')) w') : wpList Try.prog ops Q (o :: rest) a w := by
  obtain ⟨i0, hi0, hz0, hz1, hz2⟩ := info_parts intInfo
  refine wpList_step fun K hK => ?_
  rw [if_pos hgd]
  refine wp_app w s x 22 ho W0.heap.size 3 i0 _ 1 8 Try.underlying22 hi0 hz0 hz1 hz2 rfl (by omega) _ n _ hs hown B1 A m c (news.map (Value.int .i64)) hx (by simpa using hl) hr (oneCell_ints _ _) (by simp only [maxLen]; omega) (by omega) hb.size fun A' c' w' h2 h3 _ => hK _ _ (h A' c' w' ?_ (below_app hb hown h3 hb.size))
  unfold OwnZ
  rw [List.map_append]
  exact h2
theorem app_zw0 {ops : Array Oper} {rest : List Oper} {o : Oper} {a : Act} {Q : Exit → Act → World → Prop} (w : World) (hgd : Region.wanted o (yielded ops a.tmps) = true) (s x : Operand)
    (ho : o.op = .call { callee := .builtin .append, args := #[s, x], argTypes := #[22, 22] }) (W0 : World) (A1 : Option Addr) (c1 : Nat) (hs : a.eval s = .slice A1 0 c1) (hown : OwnZ w W0.heap.size A1 0 c1 [])
    (B1 : Nat) (A : Option Addr) (m c : Nat) (news : List Int) (hx : a.eval x = .slice A m c) (hl : news.length = m) (hr : Ints .i64 w B1 A news) (hsz : m ≤ 1000000) (hb : Below W0.heap.size W0 w)
    (h : ∀ A' c' w', OwnZ w' W0.heap.size A' m c' news → Below W0.heap.size W0 w' → wpList Try.prog ops Q rest (a.put o.dst (.slice A' m c')) w') : wpList Try.prog ops Q (o :: rest) a w := by
  refine app_zw w hgd s x ho W0 A1 0 c1 [] hs hown B1 A m c news hx hl hr (by omega) hb fun A' c' w' h1 h2 => ?_
  rw [Nat.zero_add] at h1 ⊢
  exact h A' c' w' h1 h2
end Go.Proofs.Ytfihbcpainlpcaa
