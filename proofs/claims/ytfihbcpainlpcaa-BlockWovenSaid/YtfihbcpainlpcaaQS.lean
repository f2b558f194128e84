/-
  The laws' Small; SameRows of equal rows.
-/
import Derived.Test.YtfihbcpainlpcaaProg
import Derived.Test.YtfihbcpainlpcaaQA
namespace Go.Proofs.Ytfihbcpainlpcaa
open Go.RowKit
set_option linter.unusedVariables false
set_option linter.unusedSimpArgs false

def smallB (R : Nat → List Int) (r : Nat) (most : Int) : Bool := decide (r ≤ 12) && (List.range r).all fun i => decide (((R i).length : Int) ≤ most)
theorem smallB_true {R : Nat → List Int} {r : Nat} {most : Int} : smallB R r most = true ↔ r ≤ 12 ∧ ∀ i, i < r → ((R i).length : Int) ≤ most := by simp [smallB]
theorem smallB_no {R : Nat → List Int} {r : Nat} {most : Int} (h : ¬ (r ≤ 12 ∧ ∀ i, i < r → ((R i).length : Int) ≤ most)) : smallB R r most = false := by
  cases e : smallB R r most with
  | false => rfl
  | true => exact absurd (smallB_true.1 e) h

set_option maxHeartbeats 1000000 in
theorem small9_any (R : Nat → List Int) (r : Nat) (hr1 : r ≤ 9223372036854775807) (RA : Nat → Option Addr) (RC : Nat → Nat) (A : Option Addr) (c : Nat) (bits most : Int) (w : World) (h : Rw w w.heap.size A r RA RC R) :
    Calls Try.prog 16 #[.agg #[.int .i64 bits, .slice A r c], .int .i64 most] w fun e w' => e = .returned (.bool (smallB R r most)) ∧ Below w.heap.size w w' := by
  by_cases h1 : 12 < r
  · have hr := Lib.hid (smallB_no (R := R) (r := r) (most := most) (by omega))
    have hI : (12 : Int) < (r : Int) := by omega
    clear h1
    go_enter Try.func16, Try.ntmps16
    go_wp2
    go_ret
    exact ⟨ret_bool hr.out.symm, bal (brefl w) _⟩
  have hI : (r : Int) ≤ 12 := by omega
  have r12 : r ≤ 12 := by omega
  clear h1
  have h' := h.below (bal (brefl w) (.cells #[.int .i64 bits, .slice A r c] 28))
  go_enter Try.func16, Try.ntmps16
  go_wp2
  go_loop [5] (fun iv => ∃ k : Nat, k ≤ r ∧ iv = .int .i64 k ∧ ∀ i, i < k → ((R i).length : Int) ≤ most) (fun iv => r - (intOf iv).toNat)
  case atStart => exact ⟨0, Nat.zero_le _, rfl, fun i h => absurd h (by omega)⟩
  case round =>
    obtain ⟨k, hk, rfl, hj⟩ := hrel
    have Hj := Lib.hid hj
    clear hj
    by_cases hlt : k < r
    · obtain ⟨b1, o1, rfl, hc⟩ := h'.at_ hlt
      have hll := h.len k hlt
      have s1 : (k : Int) < (r : Int) := by omega
      have s2 : (0 : Int) ≤ (k : Int) := by omega
      by_cases hl : most < ((R k).length : Int)
      · have hr := Lib.hid (smallB_no (R := R) (r := r) (most := most) (fun h => by have := h.2 k hlt; omega))
        go_wp2
        go_ret
        exact ⟨ret_bool hr.out.symm, bal (brefl w) _⟩
      · have hl2 : ((R k).length : Int) ≤ most := by omega
        have Hl2 := Lib.hid hl2
        go_wp2
        go_round
        case rel =>
          refine ⟨k + 1, by omega, by go_num, fun i hi => ?_⟩
          by_cases e : i = k
          · subst e; exact Hl2.out
          · exact Hj.out i (by omega)
        case measure => simp [intOf]; omega
    · have hr := Lib.hid (smallB_true (R := R) (r := r) (most := most) |>.2 ⟨r12, fun i hi => Hj.out i (by omega)⟩)
      go_wp2
      go_ret
      exact ⟨ret_bool hr.out.symm, bal (brefl w) _⟩

theorem sameRows_any (R : Nat → List Int) (r : Nat) (hr1 : r ≤ 1000) (hR : ∀ i, i < r → (R i).length ≤ 100000) (RA RA2 : Nat → Option Addr) (RC RC2 : Nat → Nat) (A A2 : Option Addr) (b b2 c c2 : Nat) (w : World) (h : Rw w b A r RA RC R) (h2 : Rw w b2 A2 r RA2 RC2 R) :
    Calls Try.prog 38 #[.slice A r c, .slice A2 r c2] w fun e w' => e = .returned (.bool true) ∧ Below w.heap.size w w' := by
  have HR := Lib.hid hR
  have hne : ((r : Int) != (r : Int)) = false := by simp
  clear hR
  go_enter Try.func38, Try.ntmps38
  go_wp2
  go_loopw [5] (fun iv wr => (∃ k : Nat, k ≤ r ∧ iv = .int .i64 k) ∧ ∃ q, wr = w.drewN q) (fun iv _ => r - (intOf iv).toNat)
  case atStart => exact ⟨⟨0, Nat.zero_le _, rfl⟩, 0, rfl⟩
  case round =>
    obtain ⟨⟨k, hk, rfl⟩, q, rfl⟩ := hrel
    by_cases hlt : k < r
    · obtain ⟨wq, hwq⟩ : ∃ wq, wq = w.drewN q := ⟨_, rfl⟩
      have g1 : Rw wq b A r RA RC R := by rw [hwq]; exact h.drewN q
      have g2 : Rw wq b2 A2 r RA2 RC2 R := by rw [hwq]; exact h2.drewN q
      obtain ⟨b1, o1, rfl, hc1⟩ := g1.at_ hlt
      obtain ⟨b3, o3, rfl, hc2⟩ := g2.at_ hlt
      have i1 := Lib.hid (g1.ints k hlt)
      have i2 := Lib.hid (g2.ints k hlt)
      have Hwq := Lib.hid hwq
      have s1 : (k : Int) < (r : Int) := by omega
      have s2 : (0 : Int) ≤ (k : Int) := by omega
      have hl := HR.out k hlt
      have he : eqI (R k) (R k) = true := eqI_refl _
      rw [← hwq]
      clear hwq g1 g2
      go_wp2
      go_quiet ((go_at_call 29; exact Calls.quiet_of (same_any (R k) (R k) _ _ rfl rfl (by omega) (by omega) _ _ _ _ _ _ _ (i1.out.drewN _) (i2.out.drewN _))))
      rw [he]
      go_wp2
      go_roundw
      case rel => exact ⟨⟨k + 1, by omega, by go_num⟩, q + nq, by rw [Hwq.out, World.drewN_drewN]⟩
      case measure => simp [intOf]; omega
    · go_wp2
      go_ret
      exact ⟨rfl, below_drewN (brefl w) q⟩
end Go.Proofs.Ytfihbcpainlpcaa
