/-
  The hash: times, the reference's Print, Power and Join of both.
-/
import Derived.Test.YtfihbcpainlpcaaProg
import Derived.Test.YtfihbcpainlpcaaQSD
namespace Go.Proofs.Ytfihbcpainlpcaa
open Go.RowKit
set_option linter.unusedVariables false
set_option linter.unusedSimpArgs false

set_option maxHeartbeats 1000000 in
theorem printR_any (l : List Int) (hf : Byt l) (n : Nat) (hn : n = l.length) (hm : n ≤ 140737488355328) (A : Option Addr) (b c : Nat) (w : World) (ha : Ints .u8 w b A l) :
    Calls Try.prog 50 #[.slice A n c] w (U64Q (printN l) w) := by
  subst hn
  go_enter Try.func50, Try.ntmps50
  go_wp2_with fail
  go_loopw [3, 4] (fun s i wr => (∃ k : Nat, k ≤ l.length ∧ i = .int .i64 k ∧ s = .int .u64 (printN (l.take k) : Int)) ∧ ∃ m, wr = w.drewN m) (fun _ i _ => l.length - (intOf i).toNat)
  case atStart => exact ⟨⟨0, Nat.zero_le _, rfl, rfl⟩, 0, rfl⟩
  case round =>
    obtain ⟨⟨k, hk, rfl, rfl⟩, m, rfl⟩ := hrel
    by_cases hlt : k < l.length
    · obtain ⟨bb, oo, rfl, hc1⟩ := ha.at_ hlt
      obtain ⟨x0, x1⟩ := hf.ix_ hlt
      obtain ⟨wo, hwo⟩ : ∃ wo, wo = w.drewN m := ⟨_, rfl⟩
      have hc2 : wo.cell? ⟨bb, oo + k, none⟩ = some (.int .u8 (ix l k)) := by rw [hwo]; exact hc1
      rw [← hwo]
      have Hwo := Lib.hid hwo
      clear hwo hc1
      have hp := printN_lt (l.take k)
      obtain ⟨h, hh⟩ : ∃ h, h = printN (l.take k) := ⟨_, rfl⟩
      have hs := printN_snoc (l.take k) (ix l k)
      rw [← take_succ_ix hlt, ← hh] at hs
      rw [← hh] at hp ⊢
      have he : Hid (((h : Int) * 1000003 % 2305843009213693951 + (ix l k + 1)) % 2305843009213693951 = ((printN (l.take (k + 1)) : Nat) : Int)) := by
        show _ = _
        rw [hs]
        generalize printN (l.take (k + 1)) = r
        omega
      have Hh := Lib.hid hh
      clear hh hs
      have b1 : (0 : Int) ≤ (h : Int) := by omega
      have b2 : (h : Int) < 2305843009213693951 := by omega
      have cb : ∀ w, Calls Try.prog 64 #[.int .u64 h] w fun e w' => e = .returned (.int .u64 ((h : Int) * 1000003 % 2305843009213693951)) ∧ w' = w := fun w => (base_any h b1 b2 w).mono fun _ _ ⟨h1, h2⟩ => ⟨h1, h2.symm⟩
      have cp : ∀ w, Calls Try.prog 63 #[.int .u64 ((h : Int) * 1000003 % 2305843009213693951), .int .u64 (ix l k + 1)] w fun e w' => e = .returned (.int .u64 (((h : Int) * 1000003 % 2305843009213693951 + (ix l k + 1)) % 2305843009213693951)) ∧ w' = w := fun w => (plus_any _ _ (by omega) (by omega) w).mono fun _ _ ⟨h1, h2⟩ => ⟨h1, h2.symm⟩
      have Cb := Lib.hid cb
      have Cp := Lib.hid cp
      clear cb cp hp
      have t2 : (0 : Int) ≤ (k : Int) := by omega
      have t3 : (k : Int) < (l.length : Int) := by omega
      go_wp2_with fail
      have t4 : IntKind.u64.wrap (ix l k) = ix l k := by rw [IntKind.wrap_u64]; omega
      have t5 : IntKind.u64.wrap (ix l k + 1) = ix l k + 1 := by rw [IntKind.wrap_u64]; omega
      go_quiet ((first | (go_at_call 64; exact Calls.quiet_of_same (Cb.out _)) | (go_at_call 63; exact Calls.quiet_of_same (Cp.out _))))
      clear t4 t5
      go_wp2_with fail
      go_roundw
      case rel => exact ⟨⟨k + 1, by omega, by go_num, by rw [he.out]⟩, m + nq, by rw [Hwo.out]; exact World.drewN_drewN _ _ _⟩
      case measure => simp [intOf]; omega
    · have e : k = l.length := by omega
      subst e
      go_wp2_with fail
      go_ret
      exact ⟨ret_int (by rw [List.take_length]), m, rfl⟩
end Go.Proofs.Ytfihbcpainlpcaa
