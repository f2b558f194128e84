/-
  Rows of rows: which may be, of both; the laws' fits, Small, small; SameRows.
-/
import Derived.Test.YtjdoagkbcooonaaProg
import Derived.Test.YtjdoagkbcooonaaTA
import Derived.Test.YtjdoagkbcooonaaR2W
namespace Go.Proofs.Ytjdoagkbcooonaa
open Go.RowKit

set_option maxHeartbeats 1000000 in
theorem rowsL_any (R : Nat → List Int) (r : Nat) (hr1 : r ≤ 1000) (hR : ∀ i, i < r → (R i).length ≤ 100000) (RA : Nat → Option Addr) (RC : Nat → Nat) (A : Option Addr) (b c : Nat) (w : World) (h : Rw w b A r RA RC R) :
    Calls Try.prog 31 #[.slice A r c] w fun e w' => e = .returned (.bool (rowsB R r)) ∧ w = w' := by
  by_cases h1 : r < 1
  · have hr := Lib.hid (rowsB_no (R := R) (r := r) (by omega))
    have hI : (r : Int) < 1 := by omega
    clear h1
    go_enter Try.func31, Try.ntmps31
    go_wp2
    go_ret
    exact ⟨ret_bool hr.out.symm, rfl⟩
  have hI1 : (1 : Int) ≤ (r : Int) := by omega
  by_cases h2 : 8 < r
  · have hr := Lib.hid (rowsB_no (R := R) (r := r) (by omega))
    have hI : (8 : Int) < (r : Int) := by omega
    clear h1 h2
    go_enter Try.func31, Try.ntmps31
    go_wp2
    go_ret
    exact ⟨ret_bool hr.out.symm, rfl⟩
  have hI2 : (r : Int) ≤ 8 := by omega
  have r0 : 0 < r := by omega
  obtain ⟨b0, o0, rfl, hz⟩ := h.at_ r0
  rw [Nat.add_zero] at hz
  have l0 := hR 0 r0
  by_cases h3 : 4096 < (R 0).length
  · have hr := Lib.hid (rowsB_no (R := R) (r := r) (by omega))
    have hI : (4096 : Int) < ((R 0).length : Int) := by omega
    clear h1 h2 h3
    go_enter Try.func31, Try.ntmps31
    go_wp2
    go_ret
    exact ⟨ret_bool hr.out.symm, rfl⟩
  have hI3 : ((R 0).length : Int) ≤ 4096 := by omega
  have Hyes : Hid ((∀ i, i < r → rowOk R i = true) → rowsB R r = true) := fun h => rowsB_true.2 ⟨by omega, by omega, by omega, fun i hi => rowOk_true.1 (h i hi)⟩
  clear h1 h2 h3
  go_enter Try.func31, Try.ntmps31
  go_wp2
  go_loop [4, 6, 24, 37] (fun _ _ iv _ => ∃ k : Nat, k ≤ r ∧ iv = .int .i64 k ∧ ∀ i, i < k → rowOk R i = true) (fun _ _ iv _ => r - (intOf iv).toNat)
  case atStart => exact ⟨0, Nat.zero_le _, rfl, fun i h => absurd h (by omega)⟩
  case round =>
    obtain ⟨k, hk, rfl, hj⟩ := hrel
    have Hj := Lib.hid hj
    clear hj
    by_cases hlt : k < r
    · obtain ⟨b1, o1, e1, hc⟩ := h.at_ hlt
      simp only [Option.some.injEq, Addr.mk.injEq, and_true] at e1
      obtain ⟨rfl, rfl⟩ := e1
      have lk := hR k hlt
      have hin := h.ints k hlt
      by_cases hl : (R k).length = (R 0).length
      · have hne : (((R k).length : Int) != ((R 0).length : Int)) = false := by simp [hl]
        have Hl := Lib.hid hl
        clear hl
        obtain ⟨m, hm⟩ : ∃ m, m = (R k).length := ⟨_, rfl⟩
        have Hm := Lib.hid hm
        rw [← hm] at hc hne lk
        clear hm
        obtain ⟨Ak, hA⟩ : ∃ Ak, Ak = RA k := ⟨_, rfl⟩
        rw [← hA] at hc hin
        clear hA
        go_wp2
        go_loop [6, 37] (fun _ iv => ∃ j : Nat, j ≤ m ∧ iv = .int .i64 j ∧ ∀ i, i < j → wideB (ix (R k) i) = true) (fun _ iv => m - (intOf iv).toNat)
        case atStart => exact ⟨0, Nat.zero_le _, rfl, fun i h => absurd h (by omega)⟩
        case round =>
          obtain ⟨j, hjl, rfl, hw⟩ := hrel
          have Hw := Lib.hid hw
          clear hw
          by_cases hlt2 : j < m
          · obtain ⟨b2, o2, rfl, hc2⟩ := hin.at_ (i := j) (by rw [← Hm.out]; exact hlt2)
            cases hb : wideB (ix (R k) j) with
            | false =>
              have hr := Lib.hid (rowsB_row hlt (rowOk_far (allWideB_false (by rw [← Hm.out]; exact hlt2) hb)))
              have Hb := Lib.hid hb
              clear hb
              go_wp2_with ((with_reducible refine (wideT_any _ _).mono ?_); rintro e w' ⟨rfl, rfl⟩; rw [Hb.out])
              go_ret
              exact ⟨ret_bool hr.out.symm, rfl⟩
            | true =>
              have Hb := Lib.hid hb
              clear hb
              go_wp2_with ((with_reducible refine (wideT_any _ _).mono ?_); rintro e w' ⟨rfl, rfl⟩; rw [Hb.out])
              go_round
              case rel =>
                refine ⟨j + 1, by omega, by go_num, fun i hi => ?_⟩
                by_cases e : i = j
                · subst e; exact Hb.out
                · exact Hw.out i (by omega)
              case measure => simp [intOf]; omega
          · have hok : Hid (rowOk R k = true) := rowOk_true.2 ⟨Hl.out, allWideB_true.2 fun i hi => Hw.out i (by have := Hm.out; omega)⟩
            go_wp2
            go_round
            case rel =>
              refine ⟨k + 1, by omega, by go_num, fun i hi => ?_⟩
              by_cases e : i = k
              · subst e; exact hok.out
              · exact Hj.out i (by omega)
            case measure => simp [intOf]; omega
      · have hne : (((R k).length : Int) != ((R 0).length : Int)) = true := by simp; omega
        have hr := Lib.hid (rowsB_row hlt (rowOk_len hl))
        clear hl
        go_wp2
        go_ret
        exact ⟨ret_bool hr.out.symm, rfl⟩
    · have hr := Lib.hid (Hyes.out fun i hi => Hj.out i (by omega))
      go_wp2
      go_ret
      exact ⟨ret_bool hr.out.symm, rfl⟩

/-- 1 to 8 rows, all as long. -/
def levB (R : Nat → List Int) (r : Nat) : Bool := decide (1 ≤ r) && decide (r ≤ 8) && (List.range r).all fun i => decide ((R i).length = (R 0).length)
theorem levB_true {R : Nat → List Int} {r : Nat} : levB R r = true ↔ 1 ≤ r ∧ r ≤ 8 ∧ ∀ i, i < r → (R i).length = (R 0).length := by simp [levB, and_assoc]
theorem levB_no {R : Nat → List Int} {r : Nat} (h : ¬ (1 ≤ r ∧ r ≤ 8 ∧ ∀ i, i < r → (R i).length = (R 0).length)) : levB R r = false := by
  cases e : levB R r with
  | false => rfl
  | true => exact absurd (levB_true.1 e) h

set_option maxHeartbeats 1000000 in
theorem level_any (R : Nat → List Int) (r : Nat) (hr1 : r ≤ 1000) (hR : ∀ i, i < r → (R i).length ≤ 100000) (RA : Nat → Option Addr) (RC : Nat → Nat) (A : Option Addr) (b c : Nat) (w : World) (h : Rw w b A r RA RC R) :
    Calls Try.prog 38 #[.slice A r c] w fun e w' => e = .returned (.bool (levB R r)) ∧ ∃ q, w' = w.drewN q := by
  by_cases h1 : r < 1
  · have hr := Lib.hid (levB_no (R := R) (r := r) (by omega))
    have hI : (r : Int) < 1 := by omega
    clear h1
    go_enter Try.func38, Try.ntmps38
    go_wp2
    go_ret
    exact ⟨ret_bool hr.out.symm, 0, rfl⟩
  have hI1 : (1 : Int) ≤ (r : Int) := by omega
  by_cases h2 : 8 < r
  · have hr := Lib.hid (levB_no (R := R) (r := r) (by omega))
    have hI : (8 : Int) < (r : Int) := by omega
    clear h1 h2
    go_enter Try.func38, Try.ntmps38
    go_wp2
    go_ret
    exact ⟨ret_bool hr.out.symm, 0, rfl⟩
  have hI2 : (r : Int) ≤ 8 := by omega
  have r0 : 0 < r := by omega
  have Hyes : Hid ((∀ i, i < r → (R i).length = (R 0).length) → levB R r = true) := fun h => levB_true.2 ⟨by omega, by omega, h⟩
  have Hno : Hid (∀ i, i < r → (R i).length ≠ (R 0).length → levB R r = false) := fun i hi h => levB_no fun h' => h (h'.2.2 i hi)
  clear h1 h2
  go_enter Try.func38, Try.ntmps38
  go_wp2
  go_loopw [3] (fun iv wr => (∃ k : Nat, k ≤ r ∧ iv = .int .i64 k ∧ ∀ i, i < k → (R i).length = (R 0).length) ∧ ∃ q, wr = w.drewN q) (fun iv _ => r - (intOf iv).toNat)
  case atStart => exact ⟨⟨0, Nat.zero_le _, rfl, fun i h => absurd h (by omega)⟩, 0, rfl⟩
  case round =>
    obtain ⟨⟨k, hk, rfl, hj⟩, q, rfl⟩ := hrel
    have Hj := Lib.hid hj
    clear hj
    by_cases hlt : k < r
    · obtain ⟨b1, o1, rfl, hc, hc0⟩ := h.at0 hlt
      have s1 : (k : Int) < (r : Int) := by omega
      have s2 : (0 : Int) ≤ (k : Int) := by omega
      have s3 : (0 : Int) < (r : Int) := by omega
      by_cases hl : (R k).length = (R 0).length
      · have hne : (((R k).length : Int) != ((R 0).length : Int)) = false := by simp [hl]
        have Hl := Lib.hid hl
        clear hl
        go_wp2
        go_quiet (fail)
        go_wp2
        go_roundw
        case rel =>
          refine ⟨⟨k + 1, by omega, by go_num, fun i hi => ?_⟩, q + nq, rfl⟩
          by_cases e : i = k
          · subst e; exact Hl.out
          · exact Hj.out i (by omega)
        case measure => simp [intOf]; omega
      · have hne : (((R k).length : Int) != ((R 0).length : Int)) = true := by simp; omega
        have hr := Lib.hid (Hno.out k hlt hl)
        clear hl
        go_wp2
        go_quiet (fail)
        go_wp2
        go_ret
        exact ⟨ret_bool hr.out.symm, q + nq, World.drewN_drewN _ _ _⟩
    · have hr := Lib.hid (Hyes.out fun i hi => Hj.out i (by omega))
      go_wp2
      go_ret
      exact ⟨ret_bool hr.out.symm, q, rfl⟩

def GDQ (R : Nat → List Int) (r : Nat) (ls : List Lft) (w : World) (e : Ending) (w' : World) : Prop := e = .returned (.bool (rowsB R r && liftB ls (r : Int))) ∧ Below w.heap.size w w'
theorem gd_no1 {R : Nat → List Int} {r : Nat} {ls : List Lft} (h : rowsB R r = false) : (rowsB R r && liftB ls (r : Int)) = false := by rw [h]; rfl
theorem gd_no2 {R : Nat → List Int} {r : Nat} {ls : List Lft} (h : liftB ls (r : Int) = false) : (rowsB R r && liftB ls (r : Int)) = false := by rw [h]; simp

set_option maxHeartbeats 1000000 in
theorem rowsR_any (R : Nat → List Int) (r : Nat) (hr1 : r ≤ 1000) (hR : ∀ i, i < r → (R i).length ≤ 100000) (RA : Nat → Option Addr) (RC : Nat → Nat) (ls : List Lft) (n : Nat) (hn : n = ls.length) (hm : n ≤ 9223372036854775807) (A B : Option Addr) (c d : Nat) (w : World) (h : Rw w w.heap.size A r RA RC R) (hs : Lfts w w.heap.size B ls) :
    Calls Try.prog 34 #[.slice A r c, .slice B n d] w (GDQ R r ls w) := by
  have Hn := Lib.hid hn
  clear hn
  cases hlev : levB R r with
  | false =>
    have hr := Lib.hid (gd_no1 (ls := ls) (rowsB_no (R := R) (r := r) fun h' => by rw [levB_true.2 ⟨h'.1, h'.2.1, fun i hi => (h'.2.2.2 i hi).1⟩] at hlev; cases hlev))
    have Hlev := Lib.hid hlev
    clear hlev
    go_enter Try.func34, Try.ntmps34
    go_wp2_with fail
    (with_reducible refine (level_any R r hr1 hR RA RC _ _ _ _ h).mono ?_); rintro e w5 ⟨rfl, q5, hw5⟩
    rw [Hlev.out]
    have B5 : Below w.heap.size w w5 := by rw [hw5]; exact below_drewN (brefl w) q5
    clear hw5
    go_wp2_with fail
    go_ret
    exact ⟨ret_bool hr.out.symm, B5⟩
  | true =>
    obtain ⟨h1, h2, h3⟩ := levB_true.1 hlev
    have r0 : 0 < r := by omega
    have l0 := hR 0 r0
    have Hlev := Lib.hid hlev
    have hI1 : (1 : Int) ≤ (r : Int) := by omega
    have hI2 : (r : Int) ≤ 8 := by omega
    have Hyes : Hid ((R 0).length ≤ 4096 → liftB ls (r : Int) = true → (∀ i, i < r → allWideB (R i) = true) → (rowsB R r && liftB ls (r : Int)) = true) := fun a1 a2 a3 => by
      rw [rowsB_true.2 ⟨h1, h2, a1, fun i hi => ⟨h3 i hi, a3 i hi⟩⟩, a2]; rfl
    clear hlev h3 h1 h2
    by_cases h4 : 4096 < (R 0).length
    · have hr := Lib.hid (gd_no1 (ls := ls) (rowsB_no (R := R) (r := r) (by omega)))
      have hI : (4096 : Int) < ((R 0).length : Int) := by omega
      clear h4
      go_enter Try.func34, Try.ntmps34
      go_wp2_with fail
      (with_reducible refine (level_any R r hr1 hR RA RC _ _ _ _ h).mono ?_); rintro e w5 ⟨rfl, q5, hw5⟩
      rw [Hlev.out]
      have B5 : Below w.heap.size w w5 := by rw [hw5]; exact below_drewN (brefl w) q5
      obtain ⟨b0, o0, rfl, hz⟩ := (h.below B5).at_ r0
      rw [Nat.add_zero] at hz
      clear hw5
      go_wp2_with fail
      go_ret
      exact ⟨ret_bool hr.out.symm, B5⟩
    · have hI : ((R 0).length : Int) ≤ 4096 := by omega
      have h4' : (R 0).length ≤ 4096 := by omega
      clear h4
      cases hl : liftB ls (r : Int) with
      | false =>
        have hr := Lib.hid (gd_no2 (R := R) (r := r) hl)
        have Hl := Lib.hid hl
        clear hl
        go_enter Try.func34, Try.ntmps34
        go_wp2_with fail
        (with_reducible refine (level_any R r hr1 hR RA RC _ _ _ _ h).mono ?_); rintro e w5 ⟨rfl, q5, hw5⟩
        rw [Hlev.out]
        have B5 : Below w.heap.size w w5 := by rw [hw5]; exact below_drewN (brefl w) q5
        obtain ⟨b0, o0, rfl, hz⟩ := (h.below B5).at_ r0
        rw [Nat.add_zero] at hz
        clear hw5
        go_wp2_with fail
        (with_reducible refine (mayR_any ls n Hn.out hm _ _ _ _ ((hs.below B5).more B5.size)).mono ?_); rintro e w6 ⟨rfl, b6⟩
        rw [Hl.out]
        go_wp2_with fail
        go_ret
        exact ⟨ret_bool hr.out.symm, bth B5 b6⟩
      | true =>
        have Hl := Lib.hid hl
        clear hl
        go_enter Try.func34, Try.ntmps34
        go_wp2_with fail
        (with_reducible refine (level_any R r hr1 hR RA RC _ _ _ _ h).mono ?_); rintro e w5 ⟨rfl, q5, hw5⟩
        rw [Hlev.out]
        have B5 : Below w.heap.size w w5 := by rw [hw5]; exact below_drewN (brefl w) q5
        obtain ⟨b0, o0, rfl, hz⟩ := (h.below B5).at_ r0
        rw [Nat.add_zero] at hz
        clear hw5
        go_wp2_with fail
        (with_reducible refine (mayR_any ls n Hn.out hm _ _ _ _ ((hs.below B5).more B5.size)).mono ?_); rintro e w6 ⟨rfl, b6⟩
        rw [Hl.out]
        have B6 := bth B5 b6
        have h6 := h.below B6
        clear B5 b6 hz
        go_wp2_with fail
        go_loop [5] (fun iv => ∃ k : Nat, k ≤ r ∧ iv = .int .i64 k ∧ ∀ i, i < k → allWideB (R i) = true) (fun iv => r - (intOf iv).toNat)
        case atStart => exact ⟨0, Nat.zero_le _, rfl, fun i h => absurd h (by omega)⟩
        case round =>
          obtain ⟨k, hk, rfl, hj⟩ := hrel
          have Hj := Lib.hid hj
          clear hj
          by_cases hlt : k < r
          · obtain ⟨b1, o1, e1, hc⟩ := h6.at_ hlt
            simp only [Option.some.injEq, Addr.mk.injEq, and_true] at e1
            obtain ⟨rfl, rfl⟩ := e1
            have lk := hR k hlt
            cases hb : allWideB (R k) with
            | false =>
              have hr := Lib.hid (gd_no1 (ls := ls) (rowsB_row hlt (rowOk_far hb)))
              have Hb := Lib.hid hb
              clear hb
              go_wp2_with fail
              (with_reducible refine (allWide2_any (R k) _ rfl (by omega) _ _ _ _ (h6.ints k hlt)).mono ?_); rintro e w' ⟨rfl, rfl⟩
              rw [Hb.out]
              go_wp2_with fail
              go_ret
              exact ⟨ret_bool hr.out.symm, B6⟩
            | true =>
              have Hb := Lib.hid hb
              clear hb
              go_wp2_with fail
              (with_reducible refine (allWide2_any (R k) _ rfl (by omega) _ _ _ _ (h6.ints k hlt)).mono ?_); rintro e w' ⟨rfl, rfl⟩
              rw [Hb.out]
              go_wp2_with fail
              go_round
              case rel =>
                refine ⟨k + 1, by omega, by go_num, fun i hi => ?_⟩
                by_cases e : i = k
                · subst e; exact Hb.out
                · exact Hj.out i (by omega)
              case measure => simp [intOf]; omega
          · have hr := Lib.hid (Hyes.out h4' Hl.out fun i hi => Hj.out i (by omega))
            go_wp2_with fail
            go_ret
            exact ⟨ret_bool hr.out.symm, B6⟩


set_option maxHeartbeats 1000000 in
theorem fits_any (R : Nat → List Int) (r : Nat) (hr1 : r ≤ 1000) (hR : ∀ i, i < r → (R i).length ≤ 100000) (RA : Nat → Option Addr) (RC : Nat → Nat) (ls : List Lft) (n : Nat) (hn : n = ls.length) (hm : n ≤ 9223372036854775807) (A B : Option Addr) (c d : Nat) (w : World) (h : Rw w w.heap.size A r RA RC R) (hs : Lfts w w.heap.size B ls) :
    Calls Try.prog 18 #[.slice A r c, .slice B n d] w (GDQ R r ls w) := by
  have Hn := Lib.hid hn
  clear hn
  cases hlev : levB R r with
  | false =>
    have hr := Lib.hid (gd_no1 (ls := ls) (rowsB_no (R := R) (r := r) fun h' => by rw [levB_true.2 ⟨h'.1, h'.2.1, fun i hi => (h'.2.2.2 i hi).1⟩] at hlev; cases hlev))
    have Hlev := Lib.hid hlev
    clear hlev
    go_enter Try.func18, Try.ntmps18
    go_wp2_with fail
    (with_reducible refine (level_any R r hr1 hR RA RC _ _ _ _ h).mono ?_); rintro e w5 ⟨rfl, q5, hw5⟩
    rw [Hlev.out]
    have B5 : Below w.heap.size w w5 := by rw [hw5]; exact below_drewN (brefl w) q5
    clear hw5
    go_wp2_with fail
    go_ret
    exact ⟨ret_bool hr.out.symm, B5⟩
  | true =>
    obtain ⟨h1, h2, h3⟩ := levB_true.1 hlev
    have r0 : 0 < r := by omega
    have l0 := hR 0 r0
    have Hlev := Lib.hid hlev
    have hI1 : (1 : Int) ≤ (r : Int) := by omega
    have hI2 : (r : Int) ≤ 8 := by omega
    have Hyes : Hid ((R 0).length ≤ 4096 → liftB ls (r : Int) = true → (∀ i, i < r → allWideB (R i) = true) → (rowsB R r && liftB ls (r : Int)) = true) := fun a1 a2 a3 => by
      rw [rowsB_true.2 ⟨h1, h2, a1, fun i hi => ⟨h3 i hi, a3 i hi⟩⟩, a2]; rfl
    clear hlev h3 h1 h2
    by_cases h4 : 4096 < (R 0).length
    · have hr := Lib.hid (gd_no1 (ls := ls) (rowsB_no (R := R) (r := r) (by omega)))
      have hI : (4096 : Int) < ((R 0).length : Int) := by omega
      clear h4
      go_enter Try.func18, Try.ntmps18
      go_wp2_with fail
      (with_reducible refine (level_any R r hr1 hR RA RC _ _ _ _ h).mono ?_); rintro e w5 ⟨rfl, q5, hw5⟩
      rw [Hlev.out]
      have B5 : Below w.heap.size w w5 := by rw [hw5]; exact below_drewN (brefl w) q5
      obtain ⟨b0, o0, rfl, hz⟩ := (h.below B5).at_ r0
      rw [Nat.add_zero] at hz
      clear hw5
      go_wp2_with fail
      go_ret
      exact ⟨ret_bool hr.out.symm, B5⟩
    · have hI : ((R 0).length : Int) ≤ 4096 := by omega
      have h4' : (R 0).length ≤ 4096 := by omega
      clear h4
      cases hl : liftB ls (r : Int) with
      | false =>
        have hr := Lib.hid (gd_no2 (R := R) (r := r) hl)
        have Hl := Lib.hid hl
        clear hl
        go_enter Try.func18, Try.ntmps18
        go_wp2_with fail
        (with_reducible refine (level_any R r hr1 hR RA RC _ _ _ _ h).mono ?_); rintro e w5 ⟨rfl, q5, hw5⟩
        rw [Hlev.out]
        have B5 : Below w.heap.size w w5 := by rw [hw5]; exact below_drewN (brefl w) q5
        obtain ⟨b0, o0, rfl, hz⟩ := (h.below B5).at_ r0
        rw [Nat.add_zero] at hz
        clear hw5
        go_wp2_with fail
        (with_reducible refine (mayR_any ls n Hn.out hm _ _ _ _ ((hs.below B5).more B5.size)).mono ?_); rintro e w6 ⟨rfl, b6⟩
        rw [Hl.out]
        go_wp2_with fail
        go_ret
        exact ⟨ret_bool hr.out.symm, bth B5 b6⟩
      | true =>
        have Hl := Lib.hid hl
        clear hl
        go_enter Try.func18, Try.ntmps18
        go_wp2_with fail
        (with_reducible refine (level_any R r hr1 hR RA RC _ _ _ _ h).mono ?_); rintro e w5 ⟨rfl, q5, hw5⟩
        rw [Hlev.out]
        have B5 : Below w.heap.size w w5 := by rw [hw5]; exact below_drewN (brefl w) q5
        obtain ⟨b0, o0, rfl, hz⟩ := (h.below B5).at_ r0
        rw [Nat.add_zero] at hz
        clear hw5
        go_wp2_with fail
        (with_reducible refine (mayR_any ls n Hn.out hm _ _ _ _ ((hs.below B5).more B5.size)).mono ?_); rintro e w6 ⟨rfl, b6⟩
        rw [Hl.out]
        have B6 := bth B5 b6
        have h6 := h.below B6
        clear B5 b6 hz
        go_wp2_with fail
        go_loop [5] (fun iv => ∃ k : Nat, k ≤ r ∧ iv = .int .i64 k ∧ ∀ i, i < k → allWideB (R i) = true) (fun iv => r - (intOf iv).toNat)
        case atStart => exact ⟨0, Nat.zero_le _, rfl, fun i h => absurd h (by omega)⟩
        case round =>
          obtain ⟨k, hk, rfl, hj⟩ := hrel
          have Hj := Lib.hid hj
          clear hj
          by_cases hlt : k < r
          · obtain ⟨b1, o1, e1, hc⟩ := h6.at_ hlt
            simp only [Option.some.injEq, Addr.mk.injEq, and_true] at e1
            obtain ⟨rfl, rfl⟩ := e1
            have lk := hR k hlt
            cases hb : allWideB (R k) with
            | false =>
              have hr := Lib.hid (gd_no1 (ls := ls) (rowsB_row hlt (rowOk_far hb)))
              have Hb := Lib.hid hb
              clear hb
              go_wp2_with fail
              (with_reducible refine (allWide2_any (R k) _ rfl (by omega) _ _ _ _ (h6.ints k hlt)).mono ?_); rintro e w' ⟨rfl, rfl⟩
              rw [Hb.out]
              go_wp2_with fail
              go_ret
              exact ⟨ret_bool hr.out.symm, B6⟩
            | true =>
              have Hb := Lib.hid hb
              clear hb
              go_wp2_with fail
              (with_reducible refine (allWide2_any (R k) _ rfl (by omega) _ _ _ _ (h6.ints k hlt)).mono ?_); rintro e w' ⟨rfl, rfl⟩
              rw [Hb.out]
              go_wp2_with fail
              go_round
              case rel =>
                refine ⟨k + 1, by omega, by go_num, fun i hi => ?_⟩
                by_cases e : i = k
                · subst e; exact Hb.out
                · exact Hj.out i (by omega)
              case measure => simp [intOf]; omega
          · have hr := Lib.hid (Hyes.out h4' Hl.out fun i hi => Hj.out i (by omega))
            go_wp2_with fail
            go_ret
            exact ⟨ret_bool hr.out.symm, B6⟩

end Go.Proofs.Ytjdoagkbcooonaa
