/-
  Rows of the call's own: append of a slice to a row of slices; slices.Clone.
-/
import Derived.Test.YtfihbcpainlpcaaProg
import Derived.Test.YtfihbcpainlpcaaQA
namespace Go.Proofs.Ytfihbcpainlpcaa
open Go.RowKit
set_option linter.unusedVariables false
set_option linter.unusedSimpArgs false

theorem OwnZ.nilz (w : World) (B : Nat) : OwnZ w B none 0 0 [] := OwnZ.nil w B
theorem OwnZ.other {w w' : World} {B : Nat} {A : Option Addr} {n c : Nat} {l : List Int} (h : OwnZ w B A n c l) (hk : ∀ q, (Value.slice A n c).ownBlock = some q → w'.heap[q]? = w.heap[q]?) : OwnZ w' B A n c l := own_of_block h hk
theorem OwnZ.lt {w : World} {B : Nat} {A : Option Addr} {n c : Nat} {l : List Int} (h : OwnZ w B A n c l) : ∀ q, (Value.slice A n c).ownBlock = some q → B ≤ q ∧ q < w.heap.size := fun q hq => World.ownsRow.lt h q hq
theorem OwnZ.len {w : World} {B : Nat} {A : Option Addr} {n c : Nat} {l : List Int} (h : OwnZ w B A n c l) : l.length = n := own_len h
theorem OwnZ.drewN {w : World} {B : Nat} {A : Option Addr} {n c : Nat} {l : List Int} (h : OwnZ w B A n c l) (m : Nat) : OwnZ (w.drewN m) B A n c l := own_drewN h m

theorem slice_info : (Try.prog.info? 22).map (fun i => (i.zero, i.size, i.bytes)) = some (some (.slice none 0 0), 1, 24) := by kernel_rfl
/-- append of a slice to a row of slices. -/
theorem app_s {ops : Array Oper} {rest : List Oper} {o : Oper} {a : Act} {Q : Exit → Act → World → Prop} (w : World) (hgd : o.guard = none) (s x : Operand)
    (ho : o.op = .call { callee := .builtin .append, args := #[s, x], argTypes := #[26, 26] }) (B : Nat) (A1 : Option Addr) (n c1 : Nat) (vs : List Value) (hs : a.eval s = .slice A1 n c1) (hown : w.ownsRow B 22 1 (.slice A1 n c1) n vs)
    (B1 : Nat) (A : Option Addr) (c : Nat) (v : Value) (hx : a.eval x = .slice A 1 c) (hr : Rd w B1 A [v]) (h1 : v.oneCell' = true) (hsz : n + 1 ≤ 100000) (hB : B ≤ w.heap.size)
    (h : ∀ A' c' w', w'.ownsRow B 22 1 (.slice A' (n + 1) c') (n + 1) (vs ++ [v]) → w.grownBy w' (Value.slice A1 n c1).ownBlock → ((Value.slice A' (n + 1) c').ownBlock = (Value.slice A1 n c1).ownBlock ∨ (Value.slice A' (n + 1) c').ownBlock = some w.heap.size) → wpList Try.prog ops Q rest (a.put o.dst (.slice A' (n + 1) c')) w') : wpList Try.prog ops Q (o :: rest) a w := by
  obtain ⟨i0, hi0, hz0, hz1, hz2⟩ := info_parts slice_info
  exact wpList_app w hgd s x 26 ho B 22 i0 _ 1 24 Try.underlying26 hi0 hz0 hz1 hz2 rfl (by omega) _ n vs hs hown B1 A 1 c [v] hx rfl hr (by intro u hu; simp at hu; subst hu; exact h1) (by simp only [maxLen]; omega) (by omega) hB h

def SliceZ (xs : List Int) (w : World) (e : Ending) (w' : World) : Prop := ∃ A c, e = .returned (.slice A xs.length c) ∧ OwnZ w' w.heap.size A xs.length c xs ∧ Below w.heap.size w w'
theorem clone_any (xs : List Int) (n : Nat) (hn : n = xs.length) (hm : n ≤ 100000) (A : Option Addr) (c : Nat) (w : World) (ha : Ints .i64 w w.heap.size A xs) :
    Calls Try.prog 41 #[.slice A n c] w (SliceZ xs w) := by
  have Hn := Lib.hid hn
  clear hn
  cases A with
  | none =>
    have hx : xs = [] := by
      cases xs with
      | nil => rfl
      | cons a l => obtain ⟨b, o, h, _⟩ := ha.at_ (i := 0) (by simp); cases h
    subst hx
    have h0 : n = 0 := by have := Hn.out; simpa using this
    subst h0
    have hnil := fun w => Lib.run_eql_slice_nil (P := Try.prog) w 22 3 none 0 c 0 0 Try.underlying22
    go_enter Try.func41, Try.ntmps41
    go_wp2_with fail
    go_ret
    exact ⟨none, 0, rfl, OwnZ.nil _ _, brefl w⟩
  | some ad =>
    have hnil := fun w => Lib.run_eql_slice_nil (P := Try.prog) w 22 3 (some ad) n c 0 0 Try.underlying22
    go_enter Try.func41, Try.ntmps41
    go_wp2_with (at_builtin; refine app_z0 _ rfl (.tmp 5) (.tmp 6) rfl w _ _ rfl (own_emptyZ w) _ _ n c xs rfl Hn.out.symm (ha.below (bal (brefl w) _)) (by omega) (bal (brefl w) _) ?_; intro A1 c1 w1 ho1 hb1)
    go_ret
    have h := Hn.out
    exact ⟨A1, c1, by rw [← h]; rfl, by rw [← h]; exact ho1, hb1⟩

end Go.Proofs.Ytfihbcpainlpcaa
