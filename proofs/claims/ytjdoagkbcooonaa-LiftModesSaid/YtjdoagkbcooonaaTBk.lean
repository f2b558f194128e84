/-
  slices.Backward over a row of lifts: the maker, and the iterator's contract.
-/
import Derived.RangeFuncNested
import Derived.RangeFuncBound
import Derived.RangeFuncCalls
import Derived.RangeFuncLeaves
import Derived.RangeFuncBox
import Derived.Shelf.Abstract
import Derived.Shelf.RegionOpen
import Derived.WalkKit
import Derived.OwnWalkIn
import Derived.TacticsInMore
import Derived.LoopNIn
import Derived.LoopIn
import Derived.Test.YtjdoagkbcooonaaProg
import Derived.Test.YtjdoagkbcooonaaTA
namespace Go.Proofs.Ytjdoagkbcooonaa
open Go.RowKit Go.Shelf

attribute [local go_sem] Oper.semAt_some

/-- what has come when k rounds are over: f 0, .., f (k - 1). -/
def cameTo {α : Type} (f : Nat → α) (k : Nat) : List α := (List.range k).map f
theorem cameTo_succ {α : Type} (f : Nat → α) (k : Nat) : cameTo f (k + 1) = cameTo f k ++ [f k] := by simp [cameTo, List.range_succ]
theorem cameTo_len {α : Type} (f : Nat → α) (k : Nat) : (cameTo f k).length = k := by simp [cameTo]
/-- a place of the row of lifts (none, where there are none). -/
abbrev BkX (ss : List Lft) := {q : Nat // q < ss.length ∨ ss.length = 0}
/-- the place of round j, from behind. -/
def bkAt (ss : List Lft) (j : Nat) : BkX ss := ⟨ss.length - 1 - j, by omega⟩
def lfX (ss : List Lft) (q : Nat) : Lft := (lfF ss q, lfT ss q, lfG ss q)
def bkEnc (ss : List Lft) (x : BkX ss) : Array Value := #[.int .i64 (x.1 : Int), .agg #[.int .i64 (lfF ss x.1), .int .i64 (lfT ss x.1), .int .i64 (lfG ss x.1)]]

set_option maxHeartbeats 1000000 in
theorem backward_in (F : Fence) (n : Nat) (hf : F.fn 37) (hro : F.round = none) (a : Option Addr) (len cap : Nat) (w : World) :
    CallsIn F n Try.prog 37 #[.slice a len cap] w fun e w' => e = .returned (.func (.func 47) #[] #[.pointer (some ⟨w.heap.size, 0, none⟩)]) ∧ w' = w.alloc (.cells #[.slice a len cap] 23) := by
  refine callsIn_of_wp Try.func37 rfl hf ?_ hro
  simp only [Try.ntmps37, List.size_toArray, List.length_cons, List.length_nil, Nat.reduceAdd, Nat.reduceSub, Array.replicate_succ, Array.replicate_zero, List.push_toArray, List.append_toArray, List.nil_append, List.cons_append]
  gi_wp2
  go_ret
  exact ⟨rfl, rfl⟩

/-- what a round keeps: all below n₀, and the box of the slice. -/
def BkKp (n₀ Bs : Nat) (W W' : World) : Prop := Below n₀ W W' ∧ W'.heap[Bs]? = W.heap[Bs]?
theorem BkKp.refl (n₀ Bs : Nat) (W : World) : BkKp n₀ Bs W W := ⟨Below.refl _ _, rfl⟩
theorem BkKp.trans {n₀ Bs : Nat} {A B C : World} (h : BkKp n₀ Bs A B) (k : BkKp n₀ Bs B C) : BkKp n₀ Bs A C := ⟨h.1.trans k.1, k.2.trans h.2⟩
theorem bkKp_b {n₀ Bs : Nat} {w : World} (h : n₀ ≤ w.heap.size) (hB : Bs < w.heap.size) (W : World) (l : Nat) (o o' : Obj) (hl : w.heap.size ≤ l) (ho : W.heap[l]? = some o) (hc : o.isCells = false) (hk : o.isWalk = false) : BkKp n₀ Bs W (W.putObj l o') :=
  ⟨belowK_b h W l o o' hl ho hc hk, World.putObj_heap_other (by omega)⟩

set_option maxRecDepth 100000 in
set_option maxHeartbeats 2000000 in
theorem backward1_in (F : Fence) (n : Nat) (hf : F.fn 47) (hro : F.round = none) (hn : 1 ≤ n) (l Bs n₀ len cap : Nat) (A : Option Addr) (ss : List Lft) (hlen : len = ss.length) (hreach : len ≤ 1000) (J Jx : List (BkX ss) → World → Prop)
    (hY : ∀ pre x W, J pre W → pre.length < len → YieldAt F (n - 1) Try.prog l (bkEnc ss x) W fun e W' =>
      (e = .returned (.bool true) ∧ J (pre ++ [x]) W' ∧ BkKp n₀ Bs W W') ∨ (e = .returned (.bool false) ∧ Jx (pre ++ [x]) W'))
    (W : World) (hBs : W.cell? ⟨Bs, 0, none⟩ = some (.slice A len cap)) (hc : Lfts W n₀ A ss) (h0 : J [] W) :
    CallsIn F n Try.prog 47 #[.func (.yield l) #[] #[], .pointer (some ⟨Bs, 0, none⟩)] W fun e W' => (∃ v, e = .returned v) ∧
      ((∃ ys, ys = cameTo (bkAt ss) len ∧ J ys W') ∨ (∃ pre, (∃ k, k ≤ len ∧ pre = cameTo (bkAt ss) k) ∧ Jx pre W')) := by
  refine callsIn_of_wp Try.func47 rfl hf ?_ hro
  simp only [Try.ntmps47, List.size_toArray, List.length_cons, List.length_nil, Nat.reduceAdd, Nat.reduceSub, Array.replicate_succ, Array.replicate_zero, List.push_toArray, List.append_toArray, List.nil_append, List.cons_append]
  have Hlen := Lib.hid hlen
  clear hlen
  gi_wp2
  gi_loopw [3] (fun i wr => ∃ k : Nat, k ≤ len ∧ i = .int .i64 ((len : Int) - 1 - (k : Int)) ∧ J (cameTo (bkAt ss) k) wr ∧ BkKp n₀ Bs W wr)
    (fun i _ => (intOf i + 1).toNat)
  case atStart => exact ⟨0, Nat.zero_le _, by go_num, h0, BkKp.refl _ _ _⟩
  case round =>
    obtain ⟨k, hk, rfl, hJs, hnx⟩ := hrel
    have hBx := (World.cell?_of_block (a := ⟨Bs, 0, none⟩) hnx.2).trans hBs
    by_cases hlt : k < len
    · obtain ⟨q, hq⟩ : ∃ q : Nat, q = len - 1 - k := ⟨_, rfl⟩
      have hqI : (len : Int) - 1 - (k : Int) = (q : Int) := by omega
      have hql : q < len := by omega
      obtain ⟨b, off, rfl, hc1, hc2, hc3⟩ := (hc.below hnx.1).at_ (i := q) (by rw [← Hlen.out]; exact hql)
      obtain ⟨fn, tmps, assign, body, hy, hR⟩ := hY _ (bkAt ss k) wr hJs (by rw [cameTo_len]; exact hlt)
      have hbk : bkEnc ss (bkAt ss k) = #[.int .i64 (q : Int), .agg #[.int .i64 (lfF ss q), .int .i64 (lfT ss q), .int .i64 (lfG ss q)]] := by
        unfold bkAt bkEnc; simp only [← Hlen.out, ← hq]
      rw [hbk] at hy
      have Hq := Lib.hid hq
      have HqI := Lib.hid hqI
      rw [hqI]
      clear hq hqI hbk
      gi_wp2
      refine hR.mono ?_
      rintro e W3 (⟨rfl, hJ3, hk3⟩ | ⟨rfl, hJx3⟩)
      · gi_wp2
        go_roundw
        case rel => exact ⟨k + 1, by omega, by rw [← HqI.out]; go_num, by rw [cameTo_succ]; exact hJ3, hnx.trans hk3⟩
        case measure => simp [intOf]
      · gi_wp2
        refine bodyPost_ret (results_none rfl _ _ _) rfl ?_
        exact ⟨⟨_, rfl⟩, .inr ⟨_, ⟨k + 1, by omega, (cameTo_succ _ _).symm⟩, hJx3⟩⟩
    · obtain rfl : k = len := by omega
      have hneg : (k : Int) - 1 - (k : Int) = -1 := by omega
      rw [hneg]
      gi_wp2
      go_end0
      exact ⟨⟨_, rfl⟩, .inl ⟨_, rfl, hJs⟩⟩

theorem backward_stops (F : Fence) (n : Nat) (hf : F.fn 47) (hro : F.round = none) (hn : 1 ≤ n) (Bs n₀ : Nat) (A : Option Addr) (cap : Nat) (ss : List Lft) (hreach : ss.length ≤ 1000) (w : World) (hBs : Bs < w.heap.size) (hn₀ : n₀ ≤ w.heap.size)
    (hc : w.cell? ⟨Bs, 0, none⟩ = some (.slice A ss.length cap)) (hI : Lfts w n₀ A ss) :
    SeqStopsK F n Try.prog 47 #[.pointer (some ⟨Bs, 0, none⟩)] (bkEnc ss) (BkKp n₀ Bs) (fun ys => ys = cameTo (bkAt ss) ss.length) (fun pre => ∃ k, k ≤ ss.length ∧ pre = cameTo (bkAt ss) k) ss.length w := fun l J Jx W hW _ _ hY h0 => by
  have hc' := (hW.cell (p := ⟨Bs, 0, none⟩) hBs).trans hc
  exact backward1_in F n hf hro hn l Bs n₀ ss.length cap A ss rfl hreach J Jx hY W hc' (hI.below (hW.mono hn₀)) h0
end Go.Proofs.Ytjdoagkbcooonaa
