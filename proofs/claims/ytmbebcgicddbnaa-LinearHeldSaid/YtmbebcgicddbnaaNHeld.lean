/-
  LinearHeld: the walk of the law.
-/
import Derived.Test.YtmbebcgicddbnaaProg
import Derived.Test.YtmbebcgicddbnaaNK
import Derived.Test.YtmbebcgicddbnaaNF
import Derived.Test.YtmbebcgicddbnaaNI
namespace Go.Proofs.Ytmbebcgicddbnaa
open Go.RowKit

theorem run_mk8 (n : Nat) (hn : n ≤ 255) (w : World) : (Instr.makeSlice 22 (.int .u8 (n : Int)) (.int .u8 (n : Int))).run Try.prog w = .ok (.slice (some ⟨w.heap.size, 0, none⟩) n n) (w.alloc (zobj n)) := by
  obtain ⟨i0, hi0, hz0, hz1, hz2⟩ := info_parts intInfo
  have h := run_make (P := Try.prog) w 22 3 i0 _ Try.underlying22 hi0 hz0 .u8 .u8 (n : Int) (n : Int) (by omega) (Int.le_refl _) (by rw [hz2]; omega) (by omega)
  rw [hz1, Int.toNat_natCast] at h
  exact h

set_option maxHeartbeats 1000000 in
theorem held_any (l : List Int) (hm : l.length ≤ 9223372036854775807) (A : Option Addr) (c : Nat) (o : Int) (x : Int) (w : World) (ha : Ints .i64 w w.heap.size A l) (_f1 : Fit .i64 l) (_f2 : (Lit.int .i64 o).wf = true) (f3 : (Lit.int .u8 x).wf = true) :
    Calls Try.prog 9 #[.slice A l.length c, .int .i64 o, .int .u8 x] w fun e w' => e = .returned (.bool true) ∧ Below w.heap.size w w' := by
  obtain ⟨x0, x1⟩ : 0 ≤ x ∧ x ≤ 255 := by
    have m3 : IntKind.u8.min = 0 := by decide
    have m4 : IntKind.u8.max = 255 := by decide
    simpa [Lit.wf, m3, m4] using f3
  obtain ⟨n, rfl⟩ := Int.eq_ofNat_of_zero_le x0
  have n255 : n ≤ 255 := by omega
  clear x0 x1 f3
  by_cases q1 : 200 < l.length
  · have hI : (200 : Int) < (l.length : Int) := by omega
    go_enter Try.func9, Try.ntmps9
    go_wp2_with fail
    (with_reducible refine (known_any _).mono ?_); rintro e w1 ⟨rfl, b1⟩
    go_wp2_with fail
    go_ret
    exact ⟨rfl, b1⟩
  have hI : (l.length : Int) ≤ 200 := by omega
  have hll := @refP_small l o
  have hz := Lib.hid (refP_zeros (n := n) (by omega))
  have hmk := run_mk8 n n255
  have hlr : (List.replicate n (0 : Int)).length = n := by simp
  have Hlr := Lib.hid hlr
  have q4 : eqI [0, 0, 0, 0] [0, 0, 0, 0] = true := eqI_refl _
  clear q1 hlr
  by_cases h : (refP l o).2 = 0
  · have h1 : ((refP l o).2 == 0) = true := by simp [h]
    have hlen : (((refP l o).1.length : Int) != o) = false := by have := (refP_len h).2.2.1; simp; omega
    have hbd := Lib.hid (refP_len h).2.2.2
    clear h
    go_enter Try.func9, Try.ntmps9
    go_wp2_with fail
    (with_reducible refine (known_any _).mono ?_); rintro e w1 ⟨rfl, b1⟩
    go_wp2_with fail
    (with_reducible refine (reflectL_any l _ rfl hm _ _ _ _ ((ha.below b1).more b1.size)).mono ?_); rintro e w2 ⟨R2, r2, rfl, hr2, b2⟩
    have B2 := bth b1 b2
    have z2 := OwnZ.ints hr2
    clear hr2 b1 b2
    generalize hRl : (refP l o).1 = R at *
    clear hRl
    go_wp2_with fail
    go_loop [9] (fun iv => ∃ k : Nat, k ≤ R.length ∧ iv = .int .i64 k) (fun iv => R.length - (intOf iv).toNat)
    case atStart => exact ⟨0, Nat.zero_le _, rfl⟩
    case round =>
      obtain ⟨k, hk, rfl⟩ := hrel
      by_cases hlt : k < R.length
      · obtain ⟨g1, o1, rfl, hc1⟩ := z2.at_ hlt
        obtain ⟨y1, y2⟩ := hbd.out k hlt
        go_wp2_with fail
        go_round
        case rel => exact ⟨k + 1, by omega, by go_num⟩
        case measure => simp [intOf]; omega
      · go_wp2_with fail
        have ho1 := own_mk w2 n (by omega)
        (with_reducible refine (reflectL_any (List.replicate n 0) n Hlr.out.symm (by omega) 4 _ _ _ (OwnZ.ints ho1)).mono ?_); rintro e w3 ⟨R3, r3, rfl, hr3, b3⟩
        rw [hz.out] at hr3 ⊢
        have C3 := bth (bal (brefl w2) (zobj n)) b3
        have B3 := bth B2 C3
        have z3 := OwnZ.ints hr3
        clear hr3 b3 C3
        go_wp2_with fail
        have D0 := bal (brefl w3) (.cells #[.int .i64 0, .int .i64 0, .int .i64 0, .int .i64 0] 3)
        (with_reducible refine (same_q [0, 0, 0, 0] [0, 0, 0, 0] 4 4 rfl rfl (by omega) (by omega) _ _ _ _ _ _ _ (z3.below D0) (lit_more w3 [0, 0, 0, 0] #[.int .i64 0, .int .i64 0, .int .i64 0, .int .i64 0] rfl _ rfl)).mono ?_); rintro e w4 ⟨rfl, b4⟩
        rw [q4]
        go_wp2_with fail
        go_ret
        exact ⟨rfl, bth B3 (bth D0 b4)⟩
  · have h1 : ((refP l o).2 == 0) = false := by simp [h]
    have hnil := Lib.hid (refP_err h)
    clear h
    go_enter Try.func9, Try.ntmps9
    go_wp2_with fail
    (with_reducible refine (known_any _).mono ?_); rintro e w1 ⟨rfl, b1⟩
    go_wp2_with fail
    (with_reducible refine (reflectL_any l _ rfl hm _ _ _ _ ((ha.below b1).more b1.size)).mono ?_); rintro e w2 ⟨R2, r2, rfl, hr2, b2⟩
    have B2 := bth b1 b2
    rw [hnil.out]
    clear hr2 b1 b2
    go_wp2_with fail
    have ho1 := own_mk w2 n (by omega)
    (with_reducible refine (reflectL_any (List.replicate n 0) n Hlr.out.symm (by omega) 4 _ _ _ (OwnZ.ints ho1)).mono ?_); rintro e w3 ⟨R3, r3, rfl, hr3, b3⟩
    rw [hz.out] at hr3 ⊢
    have C3 := bth (bal (brefl w2) (zobj n)) b3
    have B3 := bth B2 C3
    have z3 := OwnZ.ints hr3
    clear hr3 b3 C3
    go_wp2_with fail
    have D0 := bal (brefl w3) (.cells #[.int .i64 0, .int .i64 0, .int .i64 0, .int .i64 0] 3)
    (with_reducible refine (same_q [0, 0, 0, 0] [0, 0, 0, 0] 4 4 rfl rfl (by omega) (by omega) _ _ _ _ _ _ _ (z3.below D0) (lit_more w3 [0, 0, 0, 0] #[.int .i64 0, .int .i64 0, .int .i64 0, .int .i64 0] rfl _ rfl)).mono ?_); rintro e w4 ⟨rfl, b4⟩
    rw [q4]
    go_wp2_with fail
    go_ret
    exact ⟨rfl, bth B3 (bth D0 b4)⟩
end Go.Proofs.Ytmbebcgicddbnaa
