/-
  The given statement BlockWoven: called with any arguments that can be read, the law returns true, and its arguments read as before. Conditions: none.
-/
import Derived.Test.YtfihbcpainlpcaaRows
import Derived.Test.YtfihbcpainlpcaaQU
import Derived.Test.YtfihbcpainlpcaaQWoven
import Derived.Test.YtfihbcpainlpcaaO
namespace Go.Proofs.Ytfihbcpainlpcaa.blockWovenP
open Go.ChangeShapes Go.WideShapes Go.ChangeAt Go.RowKit
set_option linter.unusedVariables false
set_option linter.unusedSimpArgs false

set_option maxRecDepth 100000 in
theorem lifted (os : Os) (started : os.Started) (H : Type) (enc : TypeId × Value → H) :
    ReturnsInHanded {} Try.checked os 9 .any (Rows.blockWovenSpec.pre6 enc Try.prog Try.f9 Rows.blockWovenRow.domain false) (Rows.blockWovenSpec.post enc Try.prog Try.f9 false true false false) := by
  refine returnsInHanded_of_change (C := Try.checked) own_knob started (by kernel_rfl) Try.func9
    (ChangeSpec.witness6 (enc := enc) (C := Try.checked) false ⟨#[], #[.agg #[.int .i64 0, .slice none 0 0], .agg #[.int .i64 0, .slice none 0 0]], []⟩ 8 (by kernel_rfl) (by kernel_rfl) (by kernel_rfl) (by kernel_rfl)) ?_
  intro W base args ds gs before hval0 hW hcnd _
  have hval : ∀ (j : Nat) t v, Try.f9.params[j]? = some t → args[j]? = some v → Value.okWide Try.prog W .any base t v := hval0
  have hW' := hW
  obtain ⟨p, q, hA0, hV, rfl, hfz, hnd⟩ := hW
  have hA : DataW.TrodAll enc Try.prog W 0 (fun _ => true) true Try.f9.params.toList args.toList ds p := hA0
  rw [Try.params9] at hA hval
  obtain ⟨v0, vs0, d0, ds0, p0, q0, hargs, rfl, rfl, h0, r0⟩ := trodAll_cons hA
  obtain ⟨v1, vs1, d1, ds1, p1, q1, rfl, rfl, rfl, h1, r1⟩ := trodAll_cons r0
  obtain ⟨rfl, rfl, rfl⟩ := trodAll_nil r1
  obtain rfl : args = #[v0, v1] := by cases args; simp_all
  obtain ⟨rfl, rfl⟩ := trodVars_none hV
  have k0 := h0
  have lt0 : ∀ x ∈ p0, x.block < W.heap.size := by obtain ⟨m, hm⟩ := k0; exact DataW.trod_lt m _ _ _ hm
  obtain ⟨bi0, A0, c0, n0, RA0, RC0, RL0, rfl, m0, mm0, x0⟩ := open_block Try.underlying28 (by kernel_rfl) (by kernel_rfl) Try.underlying3 Try.underlying26 Try.underlying22 Try.underlying3 (by kernel_rfl) (by kernel_rfl) (hval 0 28 v0 rfl rfl) h0
  have k1 := h1
  have lt1 : ∀ x ∈ p1, x.block < W.heap.size := by obtain ⟨m, hm⟩ := k1; exact DataW.trod_lt m _ _ _ hm
  obtain ⟨bi1, A1, c1, n1, RA1, RC1, RL1, rfl, m1, mm1, x1⟩ := open_block Try.underlying28 (by kernel_rfl) (by kernel_rfl) Try.underlying3 Try.underlying26 Try.underlying22 Try.underlying3 (by kernel_rfl) (by kernel_rfl) (hval 1 28 v1 rfl rfl) h1
  clear hA0 hval0
  refine (woven_any bi0 A0 c0 n0 RA0 RC0 RL0 m0 mm0 bi1 A1 c1 n1 RA1 RC1 RL1 m1 mm1 W x0 x1).mono fun e W' ⟨he, bel⟩ => ?_
  subst he
  exact ⟨_, rfl, _, _, _, [], _, [], hW', trodAll_mk1 (shut_bool Try.underlying4 _), (trodAll_cons_mk (Below.trod laid_out (by kernel_rfl) (of_decide_eq_true (by kernel_rfl)) k0 bel lt0) (trodAll_cons_mk (Below.trod laid_out (by kernel_rfl) (of_decide_eq_true (by kernel_rfl)) k1 bel lt1) trodAll_mk0)), rfl, bel.frame _, fun h => by cases h⟩

theorem over : Rows.blockWovenRow.holds Try.pinned (OpenSpec.ofChange Rows.blockWovenSpec) :=
  OpenClaim.holds_of_wide 9 Try.f9 rfl rfl rfl rfl rfl rfl rfl ⟨rfl, rfl, rfl, rfl, rfl⟩ rfl rfl rfl rfl rfl (by kernel_rfl) Try.func9 (by kernel_rfl)
    (of_decide_eq_true (by kernel_rfl)) (by unfold Func.isWrapper; first | (rw [if_pos (by decide +kernel)]; kernel_rfl) | (rw [if_neg (by decide +kernel)]; exact ⟨rfl, rfl⟩))
    (fun os started H enc _ => lifted os started H enc)

theorem proved : Rows.BlockWovenSaid := over
end Go.Proofs.Ytfihbcpainlpcaa.blockWovenP
namespace Go.Proofs.Ytfihbcpainlpcaa
theorem blockWoven_holds : Rows.BlockWovenSaid := blockWovenP.proved
#print axioms blockWoven_holds
end Go.Proofs.Ytfihbcpainlpcaa
