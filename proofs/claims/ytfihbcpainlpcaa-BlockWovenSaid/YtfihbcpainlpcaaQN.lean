/-
  Which blocks may be, by the reference.
-/
import Derived.Test.YtfihbcpainlpcaaProg
import Derived.Test.YtfihbcpainlpcaaQM
import Derived.Test.YtfihbcpainlpcaaMA
namespace Go.Proofs.Ytfihbcpainlpcaa
open Go.RowKit
set_option linter.unusedVariables false
set_option linter.unusedSimpArgs false

set_option maxHeartbeats 4000000 in
theorem bmayR_any (R : Nat → List Int) (r : Nat) (hr1 : r ≤ 1000) (hR : ∀ i, i < r → (R i).length ≤ 100000) (RA : Nat → Option Addr) (RC : Nat → Nat) (A : Option Addr) (c : Nat) (bits : Int) (w : World) (h : Rw w w.heap.size A r RA RC R) :
    Calls Try.prog 19 #[.agg #[.int .i64 bits, .slice A r c]] w fun e w' => e = .returned (.bool (bmayB bits R r)) ∧ Below w.heap.size w w' := by
  have hc0 : (w.alloc (.cells #[.int .i64 bits, .slice A r c] 28)).cell? ⟨w.heap.size, 0, none⟩ = some (.int .i64 bits) := (cell_of_row _ _ _ _ _ _ (heap_alloc_new w _)).trans rfl
  have hc1 : (w.alloc (.cells #[.int .i64 bits, .slice A r c] 28)).cell? ⟨w.heap.size, 1, none⟩ = some (.slice A r c) := (cell_of_row _ _ _ _ _ _ (heap_alloc_new w _)).trans rfl
  have HC0 := Lib.hid hc0
  have HC1 := Lib.hid hc1
  have HR := Lib.hid hR
  clear hc0 hc1 hR
  by_cases hb1 : bits < 4
  · have hr := Lib.hid (bmayB_no (bits := bits) (R := R) (r := r) (by omega))
    go_enter Try.func19, Try.ntmps19
    go_wp2_with fail
    go_ret
    exact ⟨ret_bool hr.out.symm, bal (brefl w) _⟩
  by_cases hb2 : 24 < bits
  · have hr := Lib.hid (bmayB_no (bits := bits) (R := R) (r := r) (by omega))
    go_enter Try.func19, Try.ntmps19
    go_wp2_with fail
    go_ret
    exact ⟨ret_bool hr.out.symm, bal (brefl w) _⟩
  have b4 : 4 ≤ bits := by omega
  have b24 : bits ≤ 24 := by omega
  clear hb1 hb2
  have B1 := bal (brefl w) (.cells #[.int .i64 bits, .slice A r c] 28)
  cases hlev : levB R r with
  | false =>
    have hr := Lib.hid (bmayB_no (bits := bits) (R := R) (r := r) fun h' => by rw [levB_true.2 ⟨h'.2.2.1, h'.2.2.2.1, fun i hi => (h'.2.2.2.2.2.2 i hi).1⟩] at hlev; cases hlev)
    have Hlev := Lib.hid hlev
    clear hlev
    go_enter Try.func19, Try.ntmps19
    go_wp2_with fail
    (with_reducible refine (level_any R r hr1 HR.out RA RC _ _ _ _ (h.below B1)).mono ?_); rintro e w5 ⟨rfl, q5, hw5⟩
    rw [Hlev.out]
    have B5 : Below w.heap.size w w5 := by rw [hw5]; exact below_drewN B1 q5
    clear hw5
    go_wp2_with fail
    go_ret
    exact ⟨ret_bool hr.out.symm, B5⟩
  | true =>
    obtain ⟨h1, h2, h3⟩ := levB_true.1 hlev
    have r0 : 0 < r := by omega
    have l0 := HR.out 0 r0
    have Hlev := Lib.hid hlev
    have hI1 : (1 : Int) ≤ (r : Int) := by omega
    have hI2 : (r : Int) ≤ 8 := by omega
    have Hok : Hid (1 ≤ (R 0).length → (R 0).length ≤ 4096 → (∀ i, i < r → fitRow bits (R i) = true) → bmayB bits R r = true) := fun a1 a2 a3 => bmayB_true.2 ⟨b4, b24, h1, h2, a1, a2, fun i hi => ⟨h3 i hi, a3 i hi⟩⟩
    have Hno : Hid (¬ (1 ≤ (R 0).length ∧ (R 0).length ≤ 4096 ∧ ∀ i, i < r → fitRow bits (R i) = true) → bmayB bits R r = false) := fun hh => bmayB_no fun h' => hh ⟨h'.2.2.2.2.1, h'.2.2.2.2.2.1, fun i hi => (h'.2.2.2.2.2.2 i hi).2⟩
    clear hlev h3 h1 h2
    go_enter Try.func19, Try.ntmps19
    go_wp2_with fail
    (with_reducible refine (level_any R r hr1 HR.out RA RC _ _ _ _ (h.below B1)).mono ?_); rintro e w5 ⟨rfl, q5, hw5⟩
    rw [Hlev.out]
    have B5 : Below w.heap.size w w5 := by rw [hw5]; exact below_drewN B1 q5
    have c0 : w5.cell? ⟨w.heap.size, 0, none⟩ = some (.int .i64 bits) := by rw [hw5]; exact HC0.out
    have c1 : w5.cell? ⟨w.heap.size, 1, none⟩ = some (.slice A r c) := by rw [hw5]; exact HC1.out
    have h5 := (h.below B5).more B5.size
    clear hw5
    obtain ⟨b0, o0, rfl, hz⟩ := h5.at_ r0
    rw [Nat.add_zero] at hz
    by_cases h3 : (R 0).length < 1
    · have hr := Lib.hid (Hno.out (by omega))
      have hI : ((R 0).length : Int) < 1 := by omega
      clear h3
      go_wp2_with fail
      go_ret
      exact ⟨ret_bool hr.out.symm, B5⟩
    have hI3 : (1 : Int) ≤ ((R 0).length : Int) := by omega
    by_cases h4 : 4096 < (R 0).length
    · have hr := Lib.hid (Hno.out (by omega))
      have hI : (4096 : Int) < ((R 0).length : Int) := by omega
      clear h3 h4
      go_wp2_with fail
      go_ret
      exact ⟨ret_bool hr.out.symm, B5⟩
    have hI4 : ((R 0).length : Int) ≤ 4096 := by omega
    have Hok2 : Hid ((∀ i, i < r → fitRow bits (R i) = true) → bmayB bits R r = true) := Hok.out (by omega) (by omega)
    have Hbad : Hid (∀ i, i < r → fitRow bits (R i) = false → bmayB bits R r = false) := fun i hi hh => Hno.out fun h' => by rw [h'.2.2 i hi] at hh; cases hh
    clear h3 h4 Hok Hno
    go_wp2_with fail
    go_loopw [3, 4] (fun iv _ wr => (∃ k : Nat, k ≤ r ∧ iv = .int .i64 k ∧ ∀ i, i < k → fitRow bits (R i) = true) ∧ ∃ q, wr = w5.drewN q) (fun iv _ _ => r - (intOf iv).toNat)
    case atStart => exact ⟨⟨0, Nat.zero_le _, rfl, fun i h => absurd h (by omega)⟩, 0, rfl⟩
    case round =>
      obtain ⟨⟨k, hk, rfl, hj⟩, q, rfl⟩ := hrel
      have Hj := Lib.hid hj
      clear hj
      by_cases hlt : k < r
      · obtain ⟨b1, o1, e1, hc⟩ := h5.at_ hlt
        simp only [Option.some.injEq, Addr.mk.injEq, and_true] at e1
        obtain ⟨rfl, rfl⟩ := e1
        have lk := HR.out k hlt
        have Hin := Lib.hid (h5.ints k hlt)
        go_wp2_with fail
        go_loopw [4] (fun iv wi => (∃ j : Nat, j ≤ (R k).length ∧ iv = .int .i64 j ∧ ∀ i, i < j → fitsB (ix (R k) i) bits = true) ∧ ∃ q, wi = w5.drewN q) (fun iv _ => (R k).length - (intOf iv).toNat)
        case atStart => exact ⟨⟨0, Nat.zero_le _, rfl, fun i h => absurd h (by omega)⟩, q, rfl⟩
        case round =>
          obtain ⟨⟨j, hjl, rfl, hw⟩, q2, rfl⟩ := hrel
          have Hw := Lib.hid hw
          clear hw
          by_cases hlt2 : j < (R k).length
          · obtain ⟨b2, o2, e2, hc2⟩ := Hin.out.at_ hlt2
            rw [e2] at hc
            obtain ⟨wo, hwo⟩ : ∃ wo, wo = w5.drewN q2 := ⟨_, rfl⟩
            have k0 : wo.cell? ⟨w.heap.size, 0, none⟩ = some (.int .i64 bits) := by rw [hwo]; exact c0
            have k1 : wo.cell? ⟨w.heap.size, 1, none⟩ = some (.slice (some ⟨b0, o0, none⟩) r c) := by rw [hwo]; exact c1
            have k2 : wo.cell? ⟨b0, o0 + k, none⟩ = some (.slice (some ⟨b2, o2, none⟩) (R k).length (RC k)) := by rw [hwo]; exact hc
            have k3 : wo.cell? ⟨b2, o2 + j, none⟩ = some (.int .i64 (ix (R k) j)) := by rw [hwo]; exact hc2
            have Hwo := Lib.hid hwo
            rw [← hwo]
            have s1 : (k : Int) < (r : Int) := by omega
            have s2 : (0 : Int) ≤ (k : Int) := by omega
            have s3 : (j : Int) < ((R k).length : Int) := by omega
            have s4 : (0 : Int) ≤ (j : Int) := by omega
            cases hb : fitsB (ix (R k) j) bits with
            | false =>
              have hr := Lib.hid (Hbad.out k hlt (fitRow_false hlt2 hb))
              have Hq : Hid (∀ w', Calls Try.prog 40 #[.int .i64 (ix (R k) j), .int .i64 bits] w' fun e w'' => e = .returned (.bool false) ∧ ∃ m, w'' = w'.drewN m) := fun w' => (fitsR_any _ _ w').mono fun e w'' ⟨h1, h2⟩ => ⟨by rw [h1, hb], 0, h2⟩
              clear hb hwo hc hc2 c0 c1
              go_wp2_with fail
              go_quiet ((go_at_call 40; exact Calls.quiet_of (Hq.out _)))
              go_wp2_with fail
              go_ret
              exact ⟨ret_bool hr.out.symm, by rw [Hwo.out, World.drewN_drewN]; exact below_drewN B5 _⟩
            | true =>
              have Hb := Lib.hid hb
              have Hq : Hid (∀ w', Calls Try.prog 40 #[.int .i64 (ix (R k) j), .int .i64 bits] w' fun e w'' => e = .returned (.bool true) ∧ ∃ m, w'' = w'.drewN m) := fun w' => (fitsR_any _ _ w').mono fun e w'' ⟨h1, h2⟩ => ⟨by rw [h1, hb], 0, h2⟩
              clear hb hwo hc hc2
              go_wp2_with fail
              go_quiet ((go_at_call 40; exact Calls.quiet_of (Hq.out _)))
              go_wp2_with fail
              go_roundw
              case rel =>
                refine ⟨⟨j + 1, by omega, by go_num, fun i hi => ?_⟩, q2 + nq, by rw [Hwo.out, World.drewN_drewN]⟩
                by_cases e : i = j
                · subst e; exact Hb.out
                · exact Hw.out i (by omega)
              case measure => simp [intOf]; omega
          · have hok : Hid (fitRow bits (R k) = true) := fitRow_true.2 fun i hi => Hw.out i (by omega)
            go_wp2_with fail
            go_roundw
            case rel =>
              refine ⟨⟨k + 1, by omega, by go_num, fun i hi => ?_⟩, q2, rfl⟩
              by_cases e : i = k
              · subst e; exact hok.out
              · exact Hj.out i (by omega)
            case measure => simp [intOf]; omega
      · have hr := Lib.hid (Hok2.out fun i hi => Hj.out i (by omega))
        go_wp2_with fail
        go_ret
        exact ⟨ret_bool hr.out.symm, below_drewN B5 _⟩
end Go.Proofs.Ytfihbcpainlpcaa
