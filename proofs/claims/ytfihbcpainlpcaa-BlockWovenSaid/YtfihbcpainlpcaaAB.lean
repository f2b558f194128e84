/-
  Bytes: append to a row of the call's own; masks; numbers that are bytes.
-/
import Derived.Test.YtfihbcpainlpcaaProg
import Derived.Test.YtfihbcpainlpcaaK
namespace Go.Proofs.Ytfihbcpainlpcaa
open Go.RowKit
set_option linter.unusedVariables false
set_option linter.unusedSimpArgs false

theorem byte_info : (Try.prog.info? 5).map (fun i => (i.zero, i.size, i.bytes)) = some (some (.int .u8 0), 1, 1) := by kernel_rfl
/-- a row of bytes of the call's own. -/
def OwnB (w : World) (B : Nat) (A : Option Addr) (n c : Nat) (l : List Int) : Prop := w.ownsRow B 5 1 (.slice A n c) n (l.map (.int .u8))
theorem own_emptyB (w : World) : OwnB (w.alloc (.cells #[] 5)) w.heap.size (some ⟨w.heap.size, 0, none⟩) 0 0 [] := own_empty w _ _
theorem OwnB.ints {w : World} {B : Nat} {A : Option Addr} {n c : Nat} {l : List Int} (h : OwnB w B A n c l) : Ints .u8 w w.heap.size A l := own_ints h
theorem OwnB.base {w : World} {B B' : Nat} {A : Option Addr} {n c : Nat} {l : List Int} (h : OwnB w B A n c l) (hB : B' ≤ B) : OwnB w B' A n c l := own_base h hB
theorem OwnB.alloc {w : World} {B : Nat} {A : Option Addr} {n c : Nat} {l : List Int} (h : OwnB w B A n c l) (o : Obj) : OwnB (w.alloc o) B A n c l := World.ownsRow.alloc h o
theorem OwnB.below {w w' : World} {B B1 : Nat} {A : Option Addr} {n c : Nat} {l : List Int} (h : OwnB w B A n c l) (hb : Below B1 w w') (hB : w.heap.size ≤ B1) : OwnB w' B A n c l := own_below h hb hB

/-- append of bytes to a row of the call's own (from W0's size on). -/
theorem app_b {ops : Array Oper} {rest : List Oper} {o : Oper} {a : Act} {Q : Exit → Act → World → Prop} (w : World) (hgd : o.guard = none) (s x : Operand)
    (ho : o.op = .call { callee := .builtin .append, args := #[s, x], argTypes := #[41, 41] }) (W0 : World) (A1 : Option Addr) (n c1 : Nat) (xs : List Int) (hs : a.eval s = .slice A1 n c1) (hown : OwnB w W0.heap.size A1 n c1 xs)
    (B1 : Nat) (A : Option Addr) (m c : Nat) (news : List Int) (hx : a.eval x = .slice A m c) (hl : news.length = m) (hr : Ints .u8 w B1 A news) (hsz : n + m ≤ 100000) (hb : Below W0.heap.size W0 w)
    (h : ∀ A' c' w', OwnB w' W0.heap.size A' (n + m) c' (xs ++ news) → Below W0.heap.size W0 w' → wpList Try.prog ops Q rest (a.put o.dst (.slice A' (n + m) c')) w') : wpList Try.prog ops Q (o :: rest) a w := by
  obtain ⟨i0, hi0, hz0, hz1, hz2⟩ := info_parts byte_info
  refine wpList_app w hgd s x 41 ho W0.heap.size 5 i0 _ 1 1 Try.underlying41 hi0 hz0 hz1 hz2 rfl (by omega) _ n _ hs hown B1 A m c (news.map (Value.int .u8)) hx (by simpa using hl) hr (oneCell_ints _ _) (by simp only [maxLen]; omega) (by omega) hb.size fun A' c' w' h2 h3 _ => h A' c' w' ?_ (below_app hb hown h3 hb.size)
  unfold OwnB
  rw [List.map_append]
  exact h2
theorem app_b0 {ops : Array Oper} {rest : List Oper} {o : Oper} {a : Act} {Q : Exit → Act → World → Prop} (w : World) (hgd : o.guard = none) (s x : Operand)
    (ho : o.op = .call { callee := .builtin .append, args := #[s, x], argTypes := #[41, 41] }) (W0 : World) (A1 : Option Addr) (c1 : Nat) (hs : a.eval s = .slice A1 0 c1) (hown : OwnB w W0.heap.size A1 0 c1 [])
    (B1 : Nat) (A : Option Addr) (m c : Nat) (news : List Int) (hx : a.eval x = .slice A m c) (hl : news.length = m) (hr : Ints .u8 w B1 A news) (hsz : m ≤ 100000) (hb : Below W0.heap.size W0 w)
    (h : ∀ A' c' w', OwnB w' W0.heap.size A' m c' news → Below W0.heap.size W0 w' → wpList Try.prog ops Q rest (a.put o.dst (.slice A' m c')) w') : wpList Try.prog ops Q (o :: rest) a w := by
  refine app_b w hgd s x ho W0 A1 0 c1 [] hs hown B1 A m c news hx hl hr (by omega) hb fun A' c' w' h1 h2 => ?_
  rw [Nat.zero_add] at h1 ⊢
  exact h A' c' w' h1 h2

theorem OwnB.nil (w : World) (B : Nat) : OwnB w B none 0 0 [] := World.ownsRow_nil _ _ _ _
theorem ownB_cell {w : World} {B g n c : Nat} {l : List Int} (h : OwnB w B (some ⟨g, 0, none⟩) n c l) {i : Nat} (hi : i < n) : w.cell? ⟨g, i, none⟩ = some (.int .u8 (ix l i)) := own_cell h hi
theorem ownB_set {w : World} {B g n c : Nat} {l : List Int} (h : OwnB w B (some ⟨g, 0, none⟩) n c l) (i : Nat) (x : Int) : OwnB (w.setCell ⟨g, i, none⟩ (.int .u8 x)) B (some ⟨g, 0, none⟩) n c (l.set i x) := own_set h i x
theorem ownB_addr {w : World} {B n c : Nat} {A : Option Addr} {l : List Int} (h : OwnB w B A n c l) (hn : 0 < n) : ∃ g, A = some ⟨g, 0, none⟩ ∧ B ≤ g ∧ g < w.heap.size := own_addr h hn
theorem i64_mask (n : Int) (i : Nat) (hi : i < 63) (k : Int) (hk : (BitVec.ofInt 64 k).toNat = 2 ^ i - 1) : bits .and .i64 n k = n % ((2 ^ i : Nat) : Int) := by
  have key : (BitVec.ofInt 64 n &&& BitVec.ofInt 64 k).toNat = (n % ((2 ^ 64 : Nat) : Int)).toNat % 2 ^ i := by
    rw [BitVec.toNat_and, BitVec.toNat_ofInt, hk, Nat.and_two_pow_sub_one_eq_mod]
  show IntKind.i64.wrap ((BitVec.ofInt 64 n &&& BitVec.ofInt 64 k).toNat : Nat) = _
  have hp : (2 : Nat) ^ i ≤ 2 ^ 62 := Nat.pow_le_pow_right (by omega) (by omega)
  have hp0 : 0 < (2 : Nat) ^ i := Nat.two_pow_pos i
  have h1 : (n % ((2 ^ 64 : Nat) : Int)).toNat % 2 ^ i < 2 ^ i := Nat.mod_lt _ hp0
  rw [key, IntWalk.i64_in _ (by constructor <;> omega)]
  have h2 : ((n % ((2 ^ 64 : Nat) : Int)).toNat : Int) = n % ((2 ^ 64 : Nat) : Int) := Int.toNat_of_nonneg (Int.emod_nonneg _ (by omega))
  rw [Int.natCast_emod, h2, Int.emod_emod_of_dvd]
  exact Int.natCast_dvd_natCast.2 (Nat.pow_dvd_pow 2 (by omega))
end Go.Proofs.Ytfihbcpainlpcaa
