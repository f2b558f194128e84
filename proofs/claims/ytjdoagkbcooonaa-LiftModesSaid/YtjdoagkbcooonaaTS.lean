/-
  The laws' Small, small, sameLifts, known.
-/
import Derived.Test.YtjdoagkbcooonaaProg
import Derived.Test.YtjdoagkbcooonaaTN
import Derived.Test.YtjdoagkbcooonaaTU
namespace Go.Proofs.Ytjdoagkbcooonaa
open Go.RowKit

def smallB (R : Nat → List Int) (r : Nat) (most : Int) : Bool := decide (r ≤ 12) && (List.range r).all fun i => decide (((R i).length : Int) ≤ most)
theorem smallB_true {R : Nat → List Int} {r : Nat} {most : Int} : smallB R r most = true ↔ r ≤ 12 ∧ ∀ i, i < r → ((R i).length : Int) ≤ most := by simp [smallB]
theorem smallB_no {R : Nat → List Int} {r : Nat} {most : Int} (h : ¬ (r ≤ 12 ∧ ∀ i, i < r → ((R i).length : Int) ≤ most)) : smallB R r most = false := by
  cases e : smallB R r most with
  | false => rfl
  | true => exact absurd (smallB_true.1 e) h

set_option maxHeartbeats 1000000 in
theorem small9_any (R : Nat → List Int) (r : Nat) (hr1 : r ≤ 9223372036854775807) (RA : Nat → Option Addr) (RC : Nat → Nat) (A : Option Addr) (c : Nat) (bits most : Int) (w : World) (h : Rw w w.heap.size A r RA RC R) :
    Calls Try.prog 27 #[.agg #[.int .i64 bits, .slice A r c], .int .i64 most] w fun e w' => e = .returned (.bool (smallB R r most)) ∧ Below w.heap.size w w' := by
  by_cases h1 : 12 < r
  · have hr := Lib.hid (smallB_no (R := R) (r := r) (most := most) (by omega))
    have hI : (12 : Int) < (r : Int) := by omega
    clear h1
    go_enter Try.func27, Try.ntmps27
    go_wp2
    go_ret
    exact ⟨ret_bool hr.out.symm, bal (brefl w) _⟩
  have hI : (r : Int) ≤ 12 := by omega
  have r12 : r ≤ 12 := by omega
  clear h1
  have h' := h.below (bal (brefl w) (.cells #[.int .i64 bits, .slice A r c] 45))
  go_enter Try.func27, Try.ntmps27
  go_wp2
  go_loop [5] (fun iv => ∃ k : Nat, k ≤ r ∧ iv = .int .i64 k ∧ ∀ i, i < k → ((R i).length : Int) ≤ most) (fun iv => r - (intOf iv).toNat)
  case atStart => exact ⟨0, Nat.zero_le _, rfl, fun i h => absurd h (by omega)⟩
  case round =>
    obtain ⟨k, hk, rfl, hj⟩ := hrel
    have Hj := Lib.hid hj
    clear hj
    by_cases hlt : k < r
    · obtain ⟨b1, o1, rfl, hc⟩ := h'.at_ hlt
      have hll := h.len k hlt
      have s1 : (k : Int) < (r : Int) := by omega
      have s2 : (0 : Int) ≤ (k : Int) := by omega
      by_cases hl : most < ((R k).length : Int)
      · have hr := Lib.hid (smallB_no (R := R) (r := r) (most := most) (fun h => by have := h.2 k hlt; omega))
        go_wp2
        go_ret
        exact ⟨ret_bool hr.out.symm, bal (brefl w) _⟩
      · have hl2 : ((R k).length : Int) ≤ most := by omega
        have Hl2 := Lib.hid hl2
        go_wp2
        go_round
        case rel =>
          refine ⟨k + 1, by omega, by go_num, fun i hi => ?_⟩
          by_cases e : i = k
          · subst e; exact Hl2.out
          · exact Hj.out i (by omega)
        case measure => simp [intOf]; omega
    · have hr := Lib.hid (smallB_true (R := R) (r := r) (most := most) |>.2 ⟨r12, fun i hi => Hj.out i (by omega)⟩)
      go_wp2
      go_ret
      exact ⟨ret_bool hr.out.symm, bal (brefl w) _⟩

set_option maxHeartbeats 1000000 in
theorem small_any (R : Nat → List Int) (r : Nat) (hr1 : r ≤ 9223372036854775807) (RA : Nat → Option Addr) (RC : Nat → Nat) (A B : Option Addr) (c d n : Nat) (hn : n ≤ 9223372036854775807) (most : Int) (w : World) (h : Rw w w.heap.size A r RA RC R) :
    Calls Try.prog 12 #[.slice A r c, .slice B n d, .int .i64 most] w fun e w' => e = .returned (.bool (smallB R r most && decide (n ≤ 20))) ∧ Below w.heap.size w w' := by
  go_enter Try.func12, Try.ntmps12
  go_wp2_with fail
  (with_reducible refine (small9_any R r hr1 RA RC _ _ _ _ _ h).mono ?_); rintro e w1 ⟨rfl, b1⟩
  cases hs : smallB R r most with
  | false =>
    go_wp2_with fail
    go_ret
    exact ⟨by simp [hs], b1⟩
  | true =>
    by_cases hn2 : n ≤ 20
    · have hI : (n : Int) ≤ 20 := by omega
      go_wp2_with fail
      go_ret
      exact ⟨by simp [hs, hn2] <;> omega, b1⟩
    · have hI : (20 : Int) < (n : Int) := by omega
      go_wp2_with fail
      go_ret
      exact ⟨by simp [hs, hn2] <;> omega, b1⟩

theorem sameLifts_any (ls : List Lft) (n : Nat) (hn : n = ls.length) (hm : n ≤ 1000) (A A2 : Option Addr) (b b2 c c2 : Nat) (w : World) (h : Lfts w b A ls) (h2 : Lfts w b2 A2 ls) :
    Calls Try.prog 23 #[.slice A n c, .slice A2 n c2] w fun e w' => e = .returned (.bool true) ∧ Below w.heap.size w w' := by
  have Hn := Lib.hid hn
  have hne : ((n : Int) != (n : Int)) = false := by simp
  clear hn
  go_enter Try.func23, Try.ntmps23
  go_wp2
  go_loopw [5] (fun iv wr => (∃ k : Nat, k ≤ n ∧ iv = .int .i64 k) ∧ ∃ q, wr = w.drewN q) (fun iv _ => n - (intOf iv).toNat)
  case atStart => exact ⟨⟨0, Nat.zero_le _, rfl⟩, 0, rfl⟩
  case round =>
    obtain ⟨⟨k, hk, rfl⟩, q, rfl⟩ := hrel
    by_cases hlt : k < n
    · have hkl : k < ls.length := by rw [← Hn.out]; exact hlt
      obtain ⟨b1, o1, rfl, hc1, hc2, hc3⟩ := h.at_ hkl
      obtain ⟨b3, o3, rfl, hd1, hd2, hd3⟩ := h2.at_ hkl
      have nz1 := World.new_ne w _ hc1
      have nz2 := World.new_ne w _ hc2
      have nz3 := World.new_ne w _ hc3
      have nz4 := World.new_ne w _ hd1
      have nz5 := World.new_ne w _ hd2
      have nz6 := World.new_ne w _ hd3
      have s1 : (k : Int) < (n : Int) := by omega
      have s2 : (0 : Int) ≤ (k : Int) := by omega
      go_wp2
      go_quiet (fail)
      go_wp2
      go_roundw
      case rel => exact ⟨⟨k + 1, by omega, by go_num⟩, q + nq, by simp [World.drewN_drewN]⟩
      case measure => simp [intOf]; omega
    · go_wp2
      go_ret
      exact ⟨rfl, below_drewN (brefl w) q⟩
end Go.Proofs.Ytjdoagkbcooonaa
