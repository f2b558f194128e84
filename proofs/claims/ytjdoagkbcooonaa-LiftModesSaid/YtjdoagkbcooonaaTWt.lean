/-
  Weights of rows, of both.
-/
import Derived.Test.YtjdoagkbcooonaaProg
import Derived.Test.YtjdoagkbcooonaaTB
import Derived.Test.YtjdoagkbcooonaaTN
namespace Go.Proofs.Ytjdoagkbcooonaa
open Go.RowKit

def sumTo (f : Nat → Int) : Nat → Int
  | 0 => 0
  | k + 1 => sumTo f k + f k
theorem sumTo_b {f : Nat → Int} {C : Int} (h : ∀ k, 0 ≤ f k ∧ f k ≤ C) : ∀ n : Nat, 0 ≤ sumTo f n ∧ sumTo f n ≤ (n : Int) * C
  | 0 => by simp [sumTo]
  | n + 1 => by
    have h1 := sumTo_b h n
    have h2 := h n
    have e : ((n + 1 : Nat) : Int) * C = (n : Int) * C + C := by rw [Int.natCast_add, Int.add_mul]; simp
    rw [e]
    simp only [sumTo]
    omega
def absI (x : Int) : Int := if x < -x then -x else x
def d2 (l : List Int) (i : Nat) : Int := ix l (i + 2) - 2 * ix l (i + 1) + ix l i
def rowW (l : List Int) : Int := sumTo (fun i => absI (d2 l i)) (l.length - 2)
def weightP (R : Nat → List Int) (r : Nat) : Int := if rowsB R r = true then sumTo (fun i => rowW (R i)) r else 0
theorem weight_no {R : Nat → List Int} {r : Nat} (h : rowsB R r = false) : weightP R r = 0 := by unfold weightP; rw [if_neg (by rw [h]; simp)]
theorem weight_yes {R : Nat → List Int} {r : Nat} (h : rowsB R r = true) : weightP R r = sumTo (fun i => rowW (R i)) r := by unfold weightP; rw [if_pos h]
theorem absI_b {x C : Int} (h : -C ≤ x) (h2 : x ≤ C) : 0 ≤ absI x ∧ absI x ≤ C := by unfold absI; split <;> omega
theorem ix_wide {l : List Int} (h : allWideB l = true) (k : Nat) : -1073741824 ≤ ix l k ∧ ix l k < 1073741824 := by
  by_cases hk : k < l.length
  · exact wideB_true.1 (allWideB_true.1 h k hk)
  · rw [show ix l k = 0 from by simp [ix, hk]]; omega
theorem d2_b {l : List Int} (h : allWideB l = true) (k : Nat) : -4294967296 ≤ d2 l k ∧ d2 l k ≤ 4294967296 := by
  have h1 := ix_wide h (k + 2)
  have h2 := ix_wide h (k + 1)
  have h3 := ix_wide h k
  unfold d2; omega
theorem part_b {l : List Int} (h : allWideB l = true) (n : Nat) (hn : n ≤ 4096) : 0 ≤ sumTo (fun i => absI (d2 l i)) n ∧ sumTo (fun i => absI (d2 l i)) n ≤ 17592186044416 := by
  have := sumTo_b (f := fun i => absI (d2 l i)) (C := 4294967296) (fun k => absI_b (by have := d2_b h k; omega) (by have := d2_b h k; omega)) n
  omega
theorem rows_b {R : Nat → List Int} {r : Nat} (h : ∀ i, i < r → (R i).length ≤ 4096 ∧ allWideB (R i) = true) : ∀ k, k ≤ r → 0 ≤ sumTo (fun i => rowW (R i)) k ∧ sumTo (fun i => rowW (R i)) k ≤ (k : Int) * 17592186044416
  | 0, _ => by simp [sumTo]
  | k + 1, hk => by
    have h1 := rows_b h k (by omega)
    have h2 := h k (by omega)
    have h3 := part_b h2.2 ((R k).length - 2) (by omega)
    simp only [sumTo]
    have e : rowW (R k) = sumTo (fun i => absI (d2 (R k) i)) ((R k).length - 2) := rfl
    rw [e]
    omega
def IntQ (x : Int) (w : World) (e : Ending) (w' : World) : Prop := e = .returned (.int .i64 x) ∧ Below w.heap.size w w'

theorem far_any (x : Int) (h1 : -4294967296 ≤ x) (h2 : x ≤ 4294967296) (w : World) : Calls Try.prog 40 #[.int .i64 x] w fun e w' => e = .returned (.int .i64 (absI x)) ∧ w' = w := by
  have t : IntKind.i64.wrap (-x) = -x := IntWalk.i64_in _ (by omega)
  by_cases h : x < -x
  · have hs := Lib.hid (show absI x = -x from by unfold absI; rw [if_pos h])
    go_enter Try.func40, Try.ntmps40
    go_wp2
    go_ret
    exact ⟨ret_int hs.out.symm, rfl⟩
  · have hs := Lib.hid (show absI x = x from by unfold absI; rw [if_neg h])
    go_enter Try.func40, Try.ntmps40
    go_wp2
    go_ret
    exact ⟨ret_int hs.out.symm, rfl⟩

set_option maxHeartbeats 2000000 in
theorem weightL_any (R : Nat → List Int) (r : Nat) (hr1 : r ≤ 1000) (hR : ∀ i, i < r → (R i).length ≤ 100000) (RA : Nat → Option Addr) (RC : Nat → Nat) (A : Option Addr) (b c : Nat) (w : World) (h : Rw w b A r RA RC R) :
    Calls Try.prog 25 #[.slice A r c] w (IntQ (weightP R r) w) := by
  have HR := Lib.hid hR
  clear hR
  cases hrow : rowsB R r with
  | false =>
    have hr := Lib.hid (weight_no hrow)
    have Hrow := Lib.hid hrow
    clear hrow
    go_enter Try.func25, Try.ntmps25
    go_wp2_with fail
    (with_reducible refine (rowsL_any R r hr1 HR.out RA RC _ _ _ _ h).mono ?_); rintro e w' ⟨rfl, rfl⟩
    rw [Hrow.out]
    go_wp2_with fail
    go_ret
    exact ⟨ret_int hr.out.symm, brefl w⟩
  | true =>
    have hr := Lib.hid (weight_yes hrow)
    have Hrow := Lib.hid hrow
    obtain ⟨r1, r8, rl, rall⟩ := rowsB_true.1 hrow
    have Hall : Hid (∀ i, i < r → (R i).length ≤ 4096 ∧ allWideB (R i) = true) := fun i hi => ⟨by have := (rall i hi).1; omega, (rall i hi).2⟩
    clear hrow rall rl
    go_enter Try.func25, Try.ntmps25
    go_wp2_with fail
    (with_reducible refine (rowsL_any R r hr1 HR.out RA RC _ _ _ _ h).mono ?_); rintro e w' ⟨rfl, rfl⟩
    rw [Hrow.out]
    go_wp2_with fail
    go_loopw [3, 5, 6, 7, 13] (fun sv _ _ _ iv wr => (∃ k : Nat, k ≤ r ∧ iv = .int .i64 k ∧ sv = .int .i64 (sumTo (fun i => rowW (R i)) k)) ∧ ∃ q, wr = w.drewN q) (fun _ _ _ _ iv _ => r - (intOf iv).toNat)
    case atStart => exact ⟨⟨0, Nat.zero_le _, rfl, rfl⟩, 0, rfl⟩
    case round =>
      obtain ⟨⟨k, hk, rfl, rfl⟩, q, rfl⟩ := hrel
      by_cases hlt : k < r
      · obtain ⟨wq, hwq⟩ : ∃ wq, wq = w.drewN q := ⟨_, rfl⟩
        have g1 : Rw wq b A r RA RC R := by rw [hwq]; exact h.drewN q
        have Hwq := Lib.hid hwq
        rw [← hwq]
        clear hwq
        obtain ⟨b1, o1, rfl, hc⟩ := g1.at_ hlt
        have Hin := Lib.hid (g1.ints k hlt)
        have Hk := Lib.hid (Hall.out k hlt)
        have hsb := rows_b Hall.out k hk
        have hl96 := Hk.out.1
        have hss : Hid (sumTo (fun i => rowW (R i)) (k + 1) = sumTo (fun i => rowW (R i)) k + rowW (R k)) := rfl
        obtain ⟨S, hS⟩ : ∃ S, S = sumTo (fun i => rowW (R i)) k := ⟨_, rfl⟩
        rw [← hS] at hsb ⊢
        have HS := Lib.hid hS
        clear hS g1
        go_wp2_with fail
        go_loopw [3, 6, 7] (fun sv iv _ wi => (∃ i : Nat, 2 ≤ i ∧ (i ≤ (R k).length ∨ i = 2) ∧ iv = .int .i64 i ∧ sv = .int .i64 (S + sumTo (fun i => absI (d2 (R k) i)) (i - 2))) ∧ ∃ q, wi = wq.drewN q) (fun _ iv _ _ => (R k).length - (intOf iv).toNat)
        case atStart => exact ⟨⟨2, Nat.le_refl _, .inr rfl, rfl, by simp [sumTo]⟩, 0, rfl⟩
        case round =>
          obtain ⟨⟨i, hi2, hil, rfl, rfl⟩, q2, rfl⟩ := hrel
          by_cases hlt2 : i < (R k).length
          · obtain ⟨p, hp⟩ : ∃ p, p = i - 2 := ⟨_, rfl⟩
            obtain ⟨p1, hp1⟩ : ∃ p1, p1 = i - 1 := ⟨_, rfl⟩
            have i0 := Hin.out.at_ hlt2
            have i1 := Hin.out.at_ (i := p1) (by omega)
            have i2 := Hin.out.at_ (i := p) (by omega)
            have hd := d2_b Hk.out.2 p
            have hpb := part_b Hk.out.2 p (by omega)
            have hab := absI_b (x := d2 (R k) p) (C := 4294967296) (by omega) (by omega)
            have hx0 := ix_wide Hk.out.2 i
            have hx1 := ix_wide Hk.out.2 p1
            have hx2 := ix_wide Hk.out.2 p
            have hdd : d2 (R k) p = ix (R k) i - 2 * ix (R k) p1 + ix (R k) p := by unfold d2; rw [show p + 2 = i by omega, show p + 1 = p1 by omega]
            have hsucc : Hid (sumTo (fun i => absI (d2 (R k) i)) (p + 1) = sumTo (fun i => absI (d2 (R k) i)) p + absI (d2 (R k) p)) := rfl
            obtain ⟨b2, o2, e2, k0⟩ := i0
            obtain ⟨b3, o3, e3, k1⟩ := i1
            obtain ⟨b4, o4, e4, k2⟩ := i2
            rw [e2] at e3 e4 hc
            simp only [Option.some.injEq, Addr.mk.injEq, and_true] at e3 e4
            obtain ⟨rfl, rfl⟩ := e3
            obtain ⟨rfl, rfl⟩ := e4
            obtain ⟨x0, hx0'⟩ : ∃ x0, x0 = ix (R k) i := ⟨_, rfl⟩
            obtain ⟨x1, hx1'⟩ : ∃ x1, x1 = ix (R k) p1 := ⟨_, rfl⟩
            obtain ⟨x2, hx2'⟩ : ∃ x2, x2 = ix (R k) p := ⟨_, rfl⟩
            obtain ⟨d, hd'⟩ : ∃ d, d = d2 (R k) p := ⟨_, rfl⟩
            obtain ⟨T, hT⟩ : ∃ T, T = sumTo (fun i => absI (d2 (R k) i)) p := ⟨_, rfl⟩
            rw [← hx0'] at k0 hx0 hdd
            rw [← hx1'] at k1 hx1 hdd
            rw [← hx2'] at k2 hx2 hdd
            rw [← hd'] at hdd hd hab
            rw [← hp, ← hT]
            rw [← hT] at hpb
            have Hd' := Lib.hid hd'
            have HT := Lib.hid hT
            have Hp := Lib.hid hp
            have E2 := Lib.hid e2
            have s1 : (i : Int) - 1 = (p1 : Int) := by omega
            have s2 : (i : Int) - 2 = (p : Int) := by omega
            have t1 : IntKind.i64.wrap (2 * x1) = 2 * x1 := IntWalk.i64_in _ (by omega)
            have t2 : IntKind.i64.wrap (x0 - 2 * x1) = x0 - 2 * x1 := IntWalk.i64_in _ (by omega)
            have t3 : IntKind.i64.wrap (x0 - 2 * x1 + x2) = d := by rw [hdd]; exact IntWalk.i64_in _ (by omega)
            have t4 : IntKind.i64.wrap (-d) = -d := IntWalk.i64_in _ (by omega)
            have t5 : IntKind.i64.wrap ((i : Int) - 1) = (p1 : Int) := by rw [s1]; exact IntWalk.i64_in _ (by omega)
            have t6 : IntKind.i64.wrap ((i : Int) - 2) = (p : Int) := by rw [s2]; exact IntWalk.i64_in _ (by omega)
            have z1 : (0 : Int) ≤ (p1 : Int) := by omega
            have z2 : (0 : Int) ≤ (p : Int) := by omega
            have z3 : (p1 : Int) < ((R k).length : Int) := by omega
            have z4 : (p : Int) < ((R k).length : Int) := by omega
            have z5 : (i : Int) < ((R k).length : Int) := by omega
            have z6 : (0 : Int) ≤ (i : Int) := by omega
            have T1 := Lib.hid t1
            have T2 := Lib.hid t2
            have T3 := Lib.hid t3
            have T4 := Lib.hid t4
            have T5 := Lib.hid t5
            have T6 := Lib.hid t6
            have hda : absI d = if d < -d then -d else d := rfl
            have Hda := Lib.hid hda
            clear hx0' hx1' hx2' hd' hT hp hp1 e2 hdd s1 s2 t1 t2 t3 t4 t5 t6 hda hc
            rw [E2.out]
            go_wp2_with fail
            have t1 := T1.out
            have t2 := T2.out
            have t3 := T3.out
            have t5 := T5.out
            have t6 := T6.out
            go_quiet (fail)
            clear t1 t2 t3 t5 t6
            have t4 := T4.out
            by_cases hneg : d < -d
            · have t7 : IntKind.i64.wrap (S + T + -d) = S + T + -d := IntWalk.i64_in _ (by omega)
              have Hn : Hid (absI d = -d) := by show _ = _; rw [Hda.out, if_pos hneg]
              go_wp2_with fail
              go_roundw
              case rel =>
                refine ⟨⟨i + 1, by omega, .inl (by omega), by go_num, ?_⟩, q2 + nq, by simp [World.drewN_drewN]⟩
                rw [show i + 1 - 2 = p + 1 by have := Hp.out; omega, hsucc.out, ← HT.out, ← Hd'.out, Hn.out]
                congr 1; omega
              case measure => simp [intOf]; omega
            · have t7 : IntKind.i64.wrap (S + T + d) = S + T + d := IntWalk.i64_in _ (by omega)
              have Hn : Hid (absI d = d) := by show _ = _; rw [Hda.out, if_neg hneg]
              go_wp2_with fail
              go_roundw
              case rel =>
                refine ⟨⟨i + 1, by omega, .inl (by omega), by go_num, ?_⟩, q2 + nq, by simp [World.drewN_drewN]⟩
                rw [show i + 1 - 2 = p + 1 by have := Hp.out; omega, hsucc.out, ← HT.out, ← Hd'.out, Hn.out]
                congr 1; omega
              case measure => simp [intOf]; omega
          · have hfin : Hid (sumTo (fun i => absI (d2 (R k) i)) (i - 2) = rowW (R k)) := by
              show _ = _
              unfold rowW
              rw [show i - 2 = (R k).length - 2 by omega]
            go_wp2_with fail
            go_roundw
            case rel =>
              refine ⟨⟨k + 1, by omega, by go_num, ?_⟩, q + q2, by rw [Hwq.out, World.drewN_drewN]⟩
              rw [hss.out, ← HS.out, hfin.out]
            case measure => simp [intOf]; omega
      · have e : k = r := by omega
        subst e
        go_wp2_with fail
        go_ret
        exact ⟨ret_int hr.out.symm, below_drewN (brefl w) q⟩

set_option maxHeartbeats 2000000 in
theorem weightR_any (R : Nat → List Int) (r : Nat) (hr1 : r ≤ 1000) (hR : ∀ i, i < r → (R i).length ≤ 100000) (RA : Nat → Option Addr) (RC : Nat → Nat) (A : Option Addr) (c : Nat) (w : World) (h : Rw w w.heap.size A r RA RC R) :
    Calls Try.prog 26 #[.slice A r c] w (IntQ (weightP R r) w) := by
  have HR := Lib.hid hR
  clear hR
  cases hrow : rowsB R r with
  | false =>
    have hr := Lib.hid (weight_no hrow)
    have Hrow := Lib.hid hrow
    clear hrow
    go_enter Try.func26, Try.ntmps26
    go_wp2_with fail
    (with_reducible refine (rowsR_any R r hr1 HR.out RA RC [] 0 rfl (by omega) _ _ _ _ _ h Lfts.nil).mono ?_); rintro e w1 ⟨rfl, b1⟩
    rw [gd_no1 Hrow.out]
    go_wp2_with fail
    go_ret
    exact ⟨ret_int hr.out.symm, b1⟩
  | true =>
    have hr := Lib.hid (weight_yes hrow)
    have Hrow := Lib.hid hrow
    obtain ⟨r1, r8, rl, rall⟩ := rowsB_true.1 hrow
    have Hall : Hid (∀ i, i < r → (R i).length ≤ 4096 ∧ allWideB (R i) = true) := fun i hi => ⟨by have := (rall i hi).1; omega, (rall i hi).2⟩
    have HL0 : Hid (liftB [] (r : Int) = true) := liftB_true.2 ⟨by omega, by omega, by simp, fun k hk => absurd hk (by simp)⟩
    clear hrow rall rl
    go_enter Try.func26, Try.ntmps26
    go_wp2_with fail
    (with_reducible refine (rowsR_any R r hr1 HR.out RA RC [] 0 rfl (by omega) _ _ _ _ _ h Lfts.nil).mono ?_); rintro e w1 ⟨rfl, b1⟩
    rw [show (rowsB R r && liftB [] (r : Int)) = true by rw [Hrow.out, HL0.out]; rfl]
    have h1 := h.below b1
    go_wp2_with fail
    go_loopw [3, 4, 5] (fun sv iv _ wr => (∃ k : Nat, k ≤ r ∧ iv = .int .i64 k ∧ sv = .int .i64 (sumTo (fun i => rowW (R i)) k)) ∧ ∃ q, wr = w1.drewN q) (fun _ iv _ _ => r - (intOf iv).toNat)
    case atStart => exact ⟨⟨0, Nat.zero_le _, rfl, rfl⟩, 0, rfl⟩
    case round =>
      obtain ⟨⟨k, hk, rfl, rfl⟩, q, rfl⟩ := hrel
      by_cases hlt : k < r
      · obtain ⟨wq, hwq⟩ : ∃ wq, wq = w1.drewN q := ⟨_, rfl⟩
        have g1 : Rw wq w.heap.size A r RA RC R := by rw [hwq]; exact h1.drewN q
        have Hwq := Lib.hid hwq
        rw [← hwq]
        clear hwq
        obtain ⟨b1, o1, rfl, hc⟩ := g1.at_ hlt
        have Hin := Lib.hid (g1.ints k hlt)
        have Hk := Lib.hid (Hall.out k hlt)
        have hsb := rows_b Hall.out k hk
        have hl96 := Hk.out.1
        have hss : Hid (sumTo (fun i => rowW (R i)) (k + 1) = sumTo (fun i => rowW (R i)) k + rowW (R k)) := rfl
        obtain ⟨S, hS⟩ : ∃ S, S = sumTo (fun i => rowW (R i)) k := ⟨_, rfl⟩
        rw [← hS] at hsb ⊢
        have HS := Lib.hid hS
        clear hS g1
        go_wp2_with fail
        go_loopw [3, 5] (fun sv iv wi => (∃ i : Nat, 2 ≤ i ∧ (i ≤ (R k).length ∨ i = 2) ∧ iv = .int .i64 i ∧ sv = .int .i64 (S + sumTo (fun i => absI (d2 (R k) i)) (i - 2))) ∧ ∃ q, wi = wq.drewN q) (fun _ iv _ => (R k).length - (intOf iv).toNat)
        case atStart => exact ⟨⟨2, Nat.le_refl _, .inr rfl, rfl, by simp [sumTo]⟩, 0, rfl⟩
        case round =>
          obtain ⟨⟨i, hi2, hil, rfl, rfl⟩, q2, rfl⟩ := hrel
          by_cases hlt2 : i < (R k).length
          · obtain ⟨p, hp⟩ : ∃ p, p = i - 2 := ⟨_, rfl⟩
            obtain ⟨p1, hp1⟩ : ∃ p1, p1 = i - 1 := ⟨_, rfl⟩
            have i0 := Hin.out.at_ hlt2
            have i1 := Hin.out.at_ (i := p1) (by omega)
            have i2 := Hin.out.at_ (i := p) (by omega)
            have hd := d2_b Hk.out.2 p
            have hpb := part_b Hk.out.2 p (by omega)
            have hab := absI_b (x := d2 (R k) p) (C := 4294967296) (by omega) (by omega)
            have hx0 := ix_wide Hk.out.2 i
            have hx1 := ix_wide Hk.out.2 p1
            have hx2 := ix_wide Hk.out.2 p
            have hdd : d2 (R k) p = ix (R k) i - 2 * ix (R k) p1 + ix (R k) p := by unfold d2; rw [show p + 2 = i by omega, show p + 1 = p1 by omega]
            have hsucc : Hid (sumTo (fun i => absI (d2 (R k) i)) (p + 1) = sumTo (fun i => absI (d2 (R k) i)) p + absI (d2 (R k) p)) := rfl
            obtain ⟨b2, o2, e2, k0⟩ := i0
            obtain ⟨b3, o3, e3, k1⟩ := i1
            obtain ⟨b4, o4, e4, k2⟩ := i2
            rw [e2] at e3 e4
            simp only [Option.some.injEq, Addr.mk.injEq, and_true] at e3 e4
            obtain ⟨rfl, rfl⟩ := e3
            obtain ⟨rfl, rfl⟩ := e4
            obtain ⟨x0, hx0'⟩ : ∃ x0, x0 = ix (R k) i := ⟨_, rfl⟩
            obtain ⟨x1, hx1'⟩ : ∃ x1, x1 = ix (R k) p1 := ⟨_, rfl⟩
            obtain ⟨x2, hx2'⟩ : ∃ x2, x2 = ix (R k) p := ⟨_, rfl⟩
            obtain ⟨d, hd'⟩ : ∃ d, d = d2 (R k) p := ⟨_, rfl⟩
            obtain ⟨T, hT⟩ : ∃ T, T = sumTo (fun i => absI (d2 (R k) i)) p := ⟨_, rfl⟩
            rw [← hx0'] at k0 hx0 hdd
            rw [← hx1'] at k1 hx1 hdd
            rw [← hx2'] at k2 hx2 hdd
            rw [← hd'] at hdd hd hab
            rw [← hp, ← hT]
            rw [← hT] at hpb
            have Hd' := Lib.hid hd'
            have HT := Lib.hid hT
            have Hp := Lib.hid hp
            have E2 := Lib.hid e2
            have s1 : (i : Int) - 1 = (p1 : Int) := by omega
            have s2 : (i : Int) - 2 = (p : Int) := by omega
            have t1 : IntKind.i64.wrap (2 * x1) = 2 * x1 := IntWalk.i64_in _ (by omega)
            have t2 : IntKind.i64.wrap (x0 - 2 * x1) = x0 - 2 * x1 := IntWalk.i64_in _ (by omega)
            have t3 : IntKind.i64.wrap (x0 - 2 * x1 + x2) = d := by rw [hdd]; exact IntWalk.i64_in _ (by omega)
            have t4 : IntKind.i64.wrap (-d) = -d := IntWalk.i64_in _ (by omega)
            have t5 : IntKind.i64.wrap ((i : Int) - 1) = (p1 : Int) := by rw [s1]; exact IntWalk.i64_in _ (by omega)
            have t6 : IntKind.i64.wrap ((i : Int) - 2) = (p : Int) := by rw [s2]; exact IntWalk.i64_in _ (by omega)
            have y1 : (k : Int) < (r : Int) := by omega
            have y2 : (0 : Int) ≤ (k : Int) := by omega
            have z1 : (0 : Int) ≤ (p1 : Int) := by omega
            have z2 : (0 : Int) ≤ (p : Int) := by omega
            have z3 : (p1 : Int) < ((R k).length : Int) := by omega
            have z4 : (p : Int) < ((R k).length : Int) := by omega
            have z5 : (i : Int) < ((R k).length : Int) := by omega
            have z6 : (0 : Int) ≤ (i : Int) := by omega
            have T1 := Lib.hid t1
            have T2 := Lib.hid t2
            have T3 := Lib.hid t3
            have T4 := Lib.hid t4
            have T5 := Lib.hid t5
            have T6 := Lib.hid t6
            have Hd := Lib.hid hd
            obtain ⟨ad, had⟩ : ∃ ad, ad = absI d := ⟨_, rfl⟩
            rw [← had] at hab
            have Had := Lib.hid had
            have t7 : IntKind.i64.wrap (S + T + ad) = S + T + ad := IntWalk.i64_in _ (by omega)
            have T7 := Lib.hid t7
            have hfq : ∀ w', Calls Try.prog 40 #[.int .i64 d] w' fun e w'' => e = .returned (.int .i64 ad) ∧ ∃ m, w'' = w'.drewN m := fun w' => by
              rw [Had.out]; exact (far_any d Hd.out.1 Hd.out.2 w').mono fun e w'' ⟨h1, h2⟩ => ⟨h1, 0, h2⟩
            have Hfq := Lib.hid hfq
            clear hx0' hx1' hx2' hd' hT hp hp1 e2 hdd s1 s2 t1 t2 t3 t4 t5 t6 t7 had hfq
            rw [E2.out] at hc
            obtain ⟨wo, hwo⟩ : ∃ wo, wo = wq.drewN q2 := ⟨_, rfl⟩
            have k0' : wo.cell? ⟨b2, o2 + i, none⟩ = some (.int .i64 x0) := by rw [hwo]; exact k0
            have k1' : wo.cell? ⟨b2, o2 + p1, none⟩ = some (.int .i64 x1) := by rw [hwo]; exact k1
            have k2' : wo.cell? ⟨b2, o2 + p, none⟩ = some (.int .i64 x2) := by rw [hwo]; exact k2
            have hc' : wo.cell? ⟨b1, o1 + k, none⟩ = some (.slice (some ⟨b2, o2, none⟩) (R k).length (RC k)) := by rw [hwo]; exact hc
            have Hwo := Lib.hid hwo
            rw [← hwo]
            clear hwo k0 k1 k2 hc
            go_wp2_with fail
            have t1 := T1.out
            have t2 := T2.out
            have t3 := T3.out
            have t5 := T5.out
            have t6 := T6.out
            have t7 := T7.out
            go_quiet ((go_at_call 40; exact Calls.quiet_of (Hfq.out _)))
            clear t1 t2 t3 t5 t6 t7
            go_wp2_with fail
            go_roundw
            case rel =>
              refine ⟨⟨i + 1, by omega, .inl (by omega), by go_num, ?_⟩, q2 + nq, by rw [Hwo.out, World.drewN_drewN]⟩
              rw [show i + 1 - 2 = p + 1 by have := Hp.out; omega, hsucc.out, ← HT.out, ← Hd'.out, ← Had.out]
              congr 1; omega
            case measure => simp [intOf]; omega
          · have hfin : Hid (sumTo (fun i => absI (d2 (R k) i)) (i - 2) = rowW (R k)) := by
              show _ = _
              unfold rowW
              rw [show i - 2 = (R k).length - 2 by omega]
            go_wp2_with fail
            go_roundw
            case rel =>
              refine ⟨⟨k + 1, by omega, by go_num, ?_⟩, q + q2, by rw [Hwq.out, World.drewN_drewN]⟩
              rw [hss.out, ← HS.out, hfin.out]
            case measure => simp [intOf]; omega
      · have e : k = r := by omega
        subst e
        go_wp2_with fail
        go_ret
        exact ⟨ret_int hr.out.symm, below_drewN b1 q⟩
end Go.Proofs.Ytjdoagkbcooonaa
