/-
  Rows of rows in memory; which are level.
-/
import Derived.Test.YtfihbcpainlpcaaProg
import Derived.Test.YtfihbcpainlpcaaAI
import Derived.Test.YtfihbcpainlpcaaR2
import Derived.Deep.LoopGhost
import Derived.Deep.DeepCutAuto
import Derived.Deep.CutBlock
namespace Go.Proofs.Ytfihbcpainlpcaa
open Go.RowKit
set_option linter.unusedVariables false
set_option linter.unusedSimpArgs false

/-- r rows: row i lies at RA i and reads R i. -/
structure Rw (w : World) (B : Nat) (A : Option Addr) (r : Nat) (RA : Nat → Option Addr) (RC : Nat → Nat) (R : Nat → List Int) : Prop where
  out : 0 < r → ∃ b off, A = some ⟨b, off, none⟩ ∧ b < B ∧ ∀ i, i < r → w.cell? ⟨b, off + i, none⟩ = some (.slice (RA i) (R i).length (RC i))
  ints : ∀ i, i < r → Ints .i64 w B (RA i) (R i)
  len : ∀ i, i < r → (R i).length ≤ 9223372036854775807
  cap : ∀ i, i < r → (R i).length ≤ RC i
section
variable {w w' : World} {B B2 r : Nat} {A : Option Addr} {RA : Nat → Option Addr} {RC : Nat → Nat} {R : Nat → List Int}
theorem Rw.below (h : Rw w B A r RA RC R) (hb : Below B w w') : Rw w' B A r RA RC R :=
  { h with
    out := fun h0 => by
      obtain ⟨b, off, e, hB, hc⟩ := h.out h0
      exact ⟨b, off, e, hB, fun i hi => (hb.cell (p := ⟨b, off + i, none⟩) hB).trans (hc i hi)⟩
    ints := fun i hi => (h.ints i hi).below hb }
theorem Rw.more (h : Rw w B A r RA RC R) (hB : B ≤ B2) : Rw w B2 A r RA RC R :=
  { h with
    out := fun h0 => by
      obtain ⟨b, off, e, hb, hc⟩ := h.out h0
      exact ⟨b, off, e, by omega, hc⟩
    ints := fun i hi => (h.ints i hi).more hB }
theorem Rw.nil {RA : Nat → Option Addr} {RC : Nat → Nat} {R : Nat → List Int} : Rw w B A 0 RA RC R := ⟨fun h => by omega, fun i h => by omega, fun i h => by omega, fun i h => by omega⟩
theorem Rw.at_ (h : Rw w B A r RA RC R) {i : Nat} (hi : i < r) : ∃ b off, A = some ⟨b, off, none⟩ ∧ w.cell? ⟨b, off + i, none⟩ = some (.slice (RA i) (R i).length (RC i)) := by
  obtain ⟨b, off, e, _, hc⟩ := h.out (by omega)
  exact ⟨b, off, e, hc i hi⟩
theorem Rw.at0 (h : Rw w B A r RA RC R) {i : Nat} (hi : i < r) : ∃ b off, A = some ⟨b, off, none⟩ ∧ w.cell? ⟨b, off + i, none⟩ = some (.slice (RA i) (R i).length (RC i)) ∧ w.cell? ⟨b, off, none⟩ = some (.slice (RA 0) (R 0).length (RC 0)) := by
  obtain ⟨b, off, e, _, hc⟩ := h.out (by omega)
  exact ⟨b, off, e, hc i hi, by have := hc 0 (by omega); simpa using this⟩
theorem Rw.drewN (h : Rw w B A r RA RC R) (n : Nat) : Rw (w.drewN n) B A r RA RC R := ⟨h.out, h.ints, h.len, h.cap⟩
theorem Rw.cong {R' : Nat → List Int} (h : Rw w B A r RA RC R) (he : ∀ i, i < r → R' i = R i) : Rw w B A r RA RC R' :=
  ⟨fun h0 => by
    obtain ⟨b, off, e, hb, hc⟩ := h.out h0
    exact ⟨b, off, e, hb, fun i hi => by rw [he i hi]; exact hc i hi⟩, fun i hi => by rw [he i hi]; exact h.ints i hi, fun i hi => by rw [he i hi]; exact h.len i hi, fun i hi => by rw [he i hi]; exact h.cap i hi⟩
end
/-- 1 to 8 rows, all as long. -/
def levB (R : Nat → List Int) (r : Nat) : Bool := decide (1 ≤ r) && decide (r ≤ 8) && (List.range r).all fun i => decide ((R i).length = (R 0).length)
theorem levB_true {R : Nat → List Int} {r : Nat} : levB R r = true ↔ 1 ≤ r ∧ r ≤ 8 ∧ ∀ i, i < r → (R i).length = (R 0).length := by simp [levB, and_assoc]
theorem levB_no {R : Nat → List Int} {r : Nat} (h : ¬ (1 ≤ r ∧ r ≤ 8 ∧ ∀ i, i < r → (R i).length = (R 0).length)) : levB R r = false := by
  cases e : levB R r with
  | false => rfl
  | true => exact absurd (levB_true.1 e) h

set_option maxHeartbeats 1000000 in
theorem level_any (R : Nat → List Int) (r : Nat) (hr1 : r ≤ 1000) (hR : ∀ i, i < r → (R i).length ≤ 100000) (RA : Nat → Option Addr) (RC : Nat → Nat) (A : Option Addr) (b c : Nat) (w : World) (h : Rw w b A r RA RC R) :
    Calls Try.prog 42 #[.slice A r c] w fun e w' => e = .returned (.bool (levB R r)) ∧ ∃ q, w' = w.drewN q := by
  by_cases h1 : r < 1
  · have hr := Lib.hid (levB_no (R := R) (r := r) (by omega))
    have hI : (r : Int) < 1 := by omega
    clear h1
    go_enter Try.func42, Try.ntmps42
    go_wp2
    go_ret
    exact ⟨ret_bool hr.out.symm, 0, rfl⟩
  have hI1 : (1 : Int) ≤ (r : Int) := by omega
  by_cases h2 : 8 < r
  · have hr := Lib.hid (levB_no (R := R) (r := r) (by omega))
    have hI : (8 : Int) < (r : Int) := by omega
    clear h1 h2
    go_enter Try.func42, Try.ntmps42
    go_wp2
    go_ret
    exact ⟨ret_bool hr.out.symm, 0, rfl⟩
  have hI2 : (r : Int) ≤ 8 := by omega
  have r0 : 0 < r := by omega
  have Hyes : Hid ((∀ i, i < r → (R i).length = (R 0).length) → levB R r = true) := fun h => levB_true.2 ⟨by omega, by omega, h⟩
  have Hno : Hid (∀ i, i < r → (R i).length ≠ (R 0).length → levB R r = false) := fun i hi h => levB_no fun h' => h (h'.2.2 i hi)
  clear h1 h2
  go_enter Try.func42, Try.ntmps42
  go_wp2
  go_loopw [3] (fun iv wr => (∃ k : Nat, k ≤ r ∧ iv = .int .i64 k ∧ ∀ i, i < k → (R i).length = (R 0).length) ∧ ∃ q, wr = w.drewN q) (fun iv _ => r - (intOf iv).toNat)
  case atStart => exact ⟨⟨0, Nat.zero_le _, rfl, fun i h => absurd h (by omega)⟩, 0, rfl⟩
  case round =>
    obtain ⟨⟨k, hk, rfl, hj⟩, q, rfl⟩ := hrel
    have Hj := Lib.hid hj
    clear hj
    by_cases hlt : k < r
    · obtain ⟨b1, o1, rfl, hc, hc0⟩ := h.at0 hlt
      have s1 : (k : Int) < (r : Int) := by omega
      have s2 : (0 : Int) ≤ (k : Int) := by omega
      have s3 : (0 : Int) < (r : Int) := by omega
      by_cases hl : (R k).length = (R 0).length
      · have hne : (((R k).length : Int) != ((R 0).length : Int)) = false := by simp [hl]
        have Hl := Lib.hid hl
        clear hl
        go_wp2
        go_quiet (fail)
        go_wp2
        go_roundw
        case rel =>
          refine ⟨⟨k + 1, by omega, by go_num, fun i hi => ?_⟩, q + nq, rfl⟩
          by_cases e : i = k
          · subst e; exact Hl.out
          · exact Hj.out i (by omega)
        case measure => simp [intOf]; omega
      · have hne : (((R k).length : Int) != ((R 0).length : Int)) = true := by simp; omega
        have hr := Lib.hid (Hno.out k hlt hl)
        clear hl
        go_wp2
        go_quiet (fail)
        go_wp2
        go_ret
        exact ⟨ret_bool hr.out.symm, q + nq, World.drewN_drewN _ _ _⟩
    · have hr := Lib.hid (Hyes.out fun i hi => Hj.out i (by omega))
      go_wp2
      go_ret
      exact ⟨ret_bool hr.out.symm, q, rfl⟩

end Go.Proofs.Ytfihbcpainlpcaa
