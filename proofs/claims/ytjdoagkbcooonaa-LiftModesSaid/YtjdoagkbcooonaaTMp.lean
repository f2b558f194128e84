/-
  Plain: what the modes 1, 2 and 3 make of two rows.
-/
import Derived.Test.YtjdoagkbcooonaaProg
import Derived.Test.YtjdoagkbcooonaaTQ
namespace Go.Proofs.Ytjdoagkbcooonaa
open Go.RowKit

theorem goL_was {sg : Int} {R Q : Nat → List Int} {s : Lft} {ss : List Lft} (h : goL sg R (s :: ss) = some Q) : goL sg (appP R s.1.toNat s.2.1.toNat s.2.2 sg) ss = some Q := by
  rw [goL_cons] at h
  split at h
  · exact h
  · cases h
theorem do_one {R Q : Nat → List Int} (h : doP 1 R 2 (namedP 1) = .ok Q) : Q = appP R 0 1 (-256) 1 := by
  have h1 : goL 1 R (namedP 1) = some Q := (doP_okc h).2.2
  have h2 := goL_was (s := (0, 1, -256)) (ss := []) h1
  have h3 : some (appP R 0 1 (-256) 1) = some Q := h2
  exact (Option.some.inj h3).symm
theorem do_two {R Q : Nat → List Int} (h : doP 1 R 2 (namedP 2) = .ok Q) : Q = appP R 1 0 (-256) 1 := by
  have h1 : goL 1 R (namedP 2) = some Q := (doP_okc h).2.2
  have h2 := goL_was (s := (1, 0, -256)) (ss := []) h1
  have h3 : some (appP R 1 0 (-256) 1) = some Q := h2
  exact (Option.some.inj h3).symm
theorem do_three {R Q : Nat → List Int} (h : doP 1 R 2 (namedP 3) = .ok Q) : Q = appP (appP R 1 0 (-256) 1) 0 1 128 1 := by
  have h1 : goL 1 R (namedP 3) = some Q := (doP_okc h).2.2
  have h2 := goL_was (s := (1, 0, -256)) (ss := [(0, 1, 128)]) h1
  have h4 := goL_was (s := (0, 1, 128)) (ss := []) h2
  have h3 : some (appP (appP R 1 0 (-256) 1) 0 1 128 1) = some Q := h4
  exact (Option.some.inj h3).symm
section
variable {R Q : Nat → List Int} {n i : Nat}
/-- mode 1: left, and right - left. -/
theorem mode1 (h : doP 1 R 2 (namedP 1) = .ok Q) (h0 : (R 0).length = n) (hi : i < n) : Q 0 = R 0 ∧ ix (Q 1) i = ix (R 1) i - ix (R 0) i := by
  rw [do_one h]
  refine ⟨appP_o (by omega), ?_⟩
  rw [appP_t, appRow_ix (by omega)]
  omega
/-- mode 2: left - right, and right. -/
theorem mode2 (h : doP 1 R 2 (namedP 2) = .ok Q) (h1 : (R 1).length = n) (hi : i < n) : Q 1 = R 1 ∧ ix (Q 0) i = ix (R 0) i - ix (R 1) i := by
  rw [do_two h]
  refine ⟨appP_o (by omega), ?_⟩
  rw [appP_t, appRow_ix (by omega)]
  omega
/-- mode 3: left - right, and the mean. -/
theorem mode3 (h : doP 1 R 2 (namedP 3) = .ok Q) (h1 : (R 1).length = n) (hi : i < n) : ix (Q 0) i = ix (R 0) i - ix (R 1) i ∧ ix (Q 1) i = (ix (R 0) i + ix (R 1) i) / 2 := by
  rw [do_three h]
  have e0 : appP (appP R 1 0 (-256) 1) 0 1 128 1 0 = appRow (R 0) (R 1) (-256) 1 := by rw [appP_o (by omega), appP_t]
  have e1 : appP (appP R 1 0 (-256) 1) 0 1 128 1 1 = appRow (R 1) (appRow (R 0) (R 1) (-256) 1) 128 1 := by rw [appP_t, appP_t, appP_o (by omega)]
  have v0 : ix (appRow (R 0) (R 1) (-256) 1) i = ix (R 0) i - ix (R 1) i := by rw [appRow_ix (by omega)]; omega
  refine ⟨by rw [e0]; exact v0, ?_⟩
  rw [e1, appRow_ix (by rw [appRow_len]; omega), v0]
  omega
end
end Go.Proofs.Ytjdoagkbcooonaa
