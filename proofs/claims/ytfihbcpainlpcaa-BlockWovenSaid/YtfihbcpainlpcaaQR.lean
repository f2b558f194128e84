/-
  Right of both; BlockLen of the reference.
-/
import Derived.Test.YtfihbcpainlpcaaProg
import Derived.Test.YtfihbcpainlpcaaQP
import Derived.Test.YtfihbcpainlpcaaQV
import Derived.Laws.ResultCell
namespace Go.Proofs.Ytfihbcpainlpcaa
open Go.RowKit
set_option linter.unusedVariables false
set_option linter.unusedSimpArgs false

theorem rightL_any (rate ch bits : Int) (w : World) : Calls Try.prog 26 #[.agg #[.int .i64 rate, .int .i64 ch, .int .i64 bits]] w fun e w' => e = .returned (.bool (rightB rate ch bits)) ∧ Below w.heap.size w w' := by
  by_cases h1 : 1 ≤ rate
  · by_cases h2 : rate ≤ 1048576
    · by_cases h3 : 1 ≤ ch
      · by_cases h4 : ch ≤ 8
        · have hr : Hid (rightB rate ch bits = (decide (4 ≤ bits) && decide (bits ≤ 24))) := by show _ = _; simp [rightB, h1, h2, h3, h4]
          go_enter Try.func26, Try.ntmps26
          go_wp2_with fail
          (with_reducible refine (depth_any _ _).mono ?_); rintro e w' ⟨rfl, rfl⟩
          go_wp2_with fail
          go_ret
          exact ⟨ret_bool hr.out.symm, bal (brefl w) _⟩
        · have hr := Lib.hid (rightB_no (rate := rate) (ch := ch) (bits := bits) (by omega))
          go_enter Try.func26, Try.ntmps26
          go_wp2_with fail
          go_ret
          exact ⟨ret_bool hr.out.symm, bal (brefl w) _⟩
      · have hr := Lib.hid (rightB_no (rate := rate) (ch := ch) (bits := bits) (by omega))
        go_enter Try.func26, Try.ntmps26
        go_wp2_with fail
        go_ret
        exact ⟨ret_bool hr.out.symm, bal (brefl w) _⟩
    · have hr := Lib.hid (rightB_no (rate := rate) (ch := ch) (bits := bits) (by omega))
      go_enter Try.func26, Try.ntmps26
      go_wp2_with fail
      go_ret
      exact ⟨ret_bool hr.out.symm, bal (brefl w) _⟩
  · have hr := Lib.hid (rightB_no (rate := rate) (ch := ch) (bits := bits) (by omega))
    go_enter Try.func26, Try.ntmps26
    go_wp2_with fail
    go_ret
    exact ⟨ret_bool hr.out.symm, bal (brefl w) _⟩

theorem rightR_any (rate ch bits : Int) (w : World) : Calls Try.prog 32 #[.agg #[.int .i64 rate, .int .i64 ch, .int .i64 bits]] w fun e w' => e = .returned (.bool (rightB rate ch bits)) ∧ Below w.heap.size w w' := by
  by_cases h : 1 ≤ rate ∧ rate ≤ 1048576 ∧ 1 ≤ ch ∧ ch ≤ 8 ∧ 4 ≤ bits ∧ bits ≤ 24
  · have hr := Lib.hid (rightB_true.2 h)
    obtain ⟨h1, h2, h3, h4, h5, h6⟩ := h
    go_enter Try.func32, Try.ntmps32
    go_wp2_with fail
    go_ret
    exact ⟨ret_bool hr.out.symm, bal (brefl w) _⟩
  · have hr := Lib.hid (rightB_no h)
    by_cases h1 : 1 ≤ rate
    · by_cases h2 : rate ≤ 1048576
      · by_cases h3 : 1 ≤ ch
        · by_cases h4 : ch ≤ 8
          · by_cases h5 : 4 ≤ bits
            · have h6 : 24 < bits := by omega
              clear h
              go_enter Try.func32, Try.ntmps32
              go_wp2_with fail
              go_ret
              exact ⟨ret_bool ((decide_eq_false (by omega)).trans hr.out.symm), bal (brefl w) _⟩
            · clear h
              go_enter Try.func32, Try.ntmps32
              go_wp2_with fail
              go_ret
              exact ⟨ret_bool hr.out.symm, bal (brefl w) _⟩
          · clear h
            go_enter Try.func32, Try.ntmps32
            go_wp2_with fail
            go_ret
            exact ⟨ret_bool hr.out.symm, bal (brefl w) _⟩
        · clear h
          go_enter Try.func32, Try.ntmps32
          go_wp2_with fail
          go_ret
          exact ⟨ret_bool hr.out.symm, bal (brefl w) _⟩
      · clear h
        go_enter Try.func32, Try.ntmps32
        go_wp2_with fail
        go_ret
        exact ⟨ret_bool hr.out.symm, bal (brefl w) _⟩
    · clear h
      go_enter Try.func32, Try.ntmps32
      go_wp2_with fail
      go_ret
      exact ⟨ret_bool hr.out.symm, bal (brefl w) _⟩

theorem lenR_any (R : Nat → List Int) (r : Nat) (hr1 : r ≤ 1000) (RA : Nat → Option Addr) (RC : Nat → Nat) (A : Option Addr) (c : Nat) (bits : Int) (w : World) (h : Rw w w.heap.size A r RA RC R) :
    Calls Try.prog 33 #[.agg #[.int .i64 bits, .slice A r c]] w fun e w' => e = .returned (.int .i64 (lenI R r)) ∧ Below w.heap.size w w' := by
  by_cases h0 : r = 0
  · subst h0
    have e0 : (((0 : Nat) : Int) == 0) = true := by decide
    go_enter Try.func33, Try.ntmps33
    go_wp2
    go_ret
    exact ⟨rfl, bal (brefl w) _⟩
  · have hl : Hid (lenI R r = ((R 0).length : Int)) := by show _ = _; unfold lenI; rw [if_neg h0]
    have e0 : ((r : Int) == 0) = false := by simp; omega
    have h' := h.below (bal (brefl w) (.cells #[.int .i64 bits, .slice A r c] 28))
    obtain ⟨b1, o1, rfl, hc⟩ := h'.at_ (i := 0) (by omega)
    rw [Nat.add_zero] at hc
    have s1 : (0 : Int) < (r : Int) := by omega
    go_enter Try.func33, Try.ntmps33
    go_wp2
    go_ret
    exact ⟨ret_int hl.out.symm, bal (brefl w) _⟩

theorem results_blk {fn : Func} (h : fn.results = #[.cell 4 28, .tmp 5]) (tmps : Array Value) (w : World) {g : Nat} {bits : Int} {A : Option Addr} {r c : Nat} (ht : tmps.getD 4 undef = .pointer (some ⟨g, 0, none⟩))
    (c0 : w.cell? ⟨g, 0, none⟩ = some (.int .i64 bits)) (c1 : w.cell? ⟨g, 1, none⟩ = some (.slice A r c)) : (results fn tmps).run Try.prog w = .ok (.tuple #[.agg #[.int .i64 bits, .slice A r c], tmps.getD 5 undef]) w := by
  rw [results_cell_tmp h, ht]
  simp [go_sem, c0, c1]
/-- what a function that gives a block and an error leaves. -/
def BlkQ (x : BR) (w : World) (e : Ending) (w' : World) : Prop :=
  ∃ A c RA RC, e = .returned (.tuple #[.agg #[.int .i64 x.bits, .slice A x.r c], .int .i64 x.code]) ∧ OwnV w' w.heap.size A x.r c RA RC x.R ∧ Below w.heap.size w w'
theorem blk_err {c : Int} {w w' : World} (h : Below w.heap.size w w') : BlkQ (errB c) w (.returned (.tuple #[.agg #[.int .i64 0, .slice none 0 0], .int .i64 c])) w' := ⟨none, 0, fun _ => none, fun _ => 0, rfl, ownV_nil _ _ _ _ _, h⟩
/-- the two cells of a block, written. -/
theorem blk_set {w : World} {g : Nat} {u0 u1 : Value} (d0 : w.cell? ⟨g, 0, none⟩ = some u0) (d1 : w.cell? ⟨g, 1, none⟩ = some u1) (x y : Value) :
    ((w.setCell ⟨g, 0, none⟩ x).setCell ⟨g, 1, none⟩ y).cell? ⟨g, 0, none⟩ = some x ∧ ((w.setCell ⟨g, 0, none⟩ x).setCell ⟨g, 1, none⟩ y).cell? ⟨g, 1, none⟩ = some y := by
  constructor <;> simp [go_sem, d0, d1]
theorem below_set2 {B : Nat} {w w' : World} (h : Below B w w') {g : Nat} (hg : B ≤ g) (x y : Value) : Below B w ((w'.setCell ⟨g, 0, none⟩ x).setCell ⟨g, 1, none⟩ y) :=
  (h.setCell (p := ⟨g, 0, none⟩) hg _).setCell (p := ⟨g, 1, none⟩) hg _
theorem blk_of {x y : BR} {w w' : World} {e : Ending} (h : x = y) (k : BlkQ y w e w') : BlkQ x w e w' := by rw [h]; exact k
end Go.Proofs.Ytfihbcpainlpcaa
