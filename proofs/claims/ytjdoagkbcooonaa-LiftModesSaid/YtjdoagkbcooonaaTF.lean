/-
  Do of both; the reference's LiftUndo.
-/
import Derived.Test.YtjdoagkbcooonaaProg
import Derived.Test.YtjdoagkbcooonaaTE
namespace Go.Proofs.Ytjdoagkbcooonaa
open Go.RowKit

/-- what Do and Undo give: rows of the call's own, or an error. -/
def DoQ (x : Except Int (Nat → List Int)) (r m : Nat) (w : World) (e : Ending) (w' : World) : Prop :=
  (match x with | .error c => e = .returned (.tuple #[.slice none 0 0, .int .i64 c]) | .ok Q => ∃ A c RA RC, e = .returned (.tuple #[.slice A r c, .int .i64 0]) ∧ OwnM w' w.heap.size A r c m RA RC Q) ∧ Below w.heap.size w w'
theorem do_err {x : Except Int (Nat → List Int)} {c : Int} {r m : Nat} {w w' : World} (hx : x = .error c) (h : Below w.heap.size w w') : DoQ x r m w (.returned (.tuple #[.slice none 0 0, .int .i64 c])) w' := by
  subst hx; exact ⟨rfl, h⟩
theorem do_ok {x : Except Int (Nat → List Int)} {Q : Nat → List Int} {r m : Nat} {w w' : World} {A : Option Addr} {c : Nat} {RA : Nat → Option Addr} {RC : Nat → Nat} (hx : x = .ok Q) (ho : OwnM w' w.heap.size A r c m RA RC Q) (h : Below w.heap.size w w') : DoQ x r m w (.returned (.tuple #[.slice A r c, .int .i64 0])) w' := by
  subst hx; exact ⟨⟨A, c, RA, RC, rfl, ho⟩, h⟩
theorem goL_none {sg : Int} {R : Nat → List Int} {s : Lft} {ss : List Lft} (h : allWideB (appRow (R s.2.1.toNat) (R s.1.toNat) s.2.2 sg) = false) : goL sg R (s :: ss) = none := by rw [goL_cons, if_neg (by rw [h]; simp)]
theorem goL_some {sg : Int} {R : Nat → List Int} {s : Lft} {ss : List Lft} (h : allWideB (appRow (R s.2.1.toNat) (R s.1.toNat) s.2.2 sg) = true) : goL sg R (s :: ss) = goL sg (appP R s.1.toNat s.2.1.toNat s.2.2 sg) ss := by rw [goL_cons, if_pos h]
theorem rev_dropL {ls : List Lft} {t q : Nat} (h : t < ls.length) (hq : q = ls.length - 1 - t) : ls.reverse.drop t = (lfF ls q, lfT ls q, lfG ls q) :: ls.reverse.drop (t + 1) := by
  rw [List.drop_eq_getElem_cons (by simpa using h), List.getElem_reverse]
  subst hq
  simp [lfF, lfT, lfG, show ls.length - 1 - t < ls.length by omega]
theorem lvl_at {R : Nat → List Int} {r m i : Nat} (h : Lvl R r m) (hi : i < r) : (R i).length = m ∧ allWideB (R i) = true := h i hi
theorem ap_below {B n c m : Nat} {A : Option Addr} {RA : Nat → Option Addr} {RC : Nat → Nat} {R Q : Nat → List Int} {w w0 w' : World} (ho : OwnM w B A n c m RA RC R) {t : Nat} (ht : t < n) (hk : Kp (fun q => (Value.slice (RA t) m (RC t)).ownBlock = some q) w w') (hb : Below B w0 w) (hB : B ≤ w.heap.size) : Below B w0 w' :=
  hb.trans (hk.below (fun q hq => (ho.lt q (.inr ⟨t, ht, hq⟩)).1) hB)

set_option maxHeartbeats 2000000 in
theorem doL_any (R : Nat → List Int) (r : Nat) (hr1 : r ≤ 1000) (hR : ∀ i, i < r → (R i).length ≤ 100000) (RA : Nat → Option Addr) (RC : Nat → Nat) (ls : List Lft) (n : Nat) (hn : n = ls.length) (hm : n ≤ 9223372036854775807) (A B : Option Addr) (c d : Nat) (w : World) (h : Rw w w.heap.size A r RA RC R) (hs : Lfts w w.heap.size B ls) :
    Calls Try.prog 13 #[.slice A r c, .slice B n d] w (DoQ (doP (1) R r ls) r (R 0).length w) := by
  have Hn := Lib.hid hn
  clear hn
  have HR := Lib.hid hR
  clear hR
  cases hrow : rowsB R r with
  | false =>
    have hr := Lib.hid (doP_rows (sg := 1) (ls := ls) hrow)
    have Hrow := Lib.hid hrow
    clear hrow
    go_enter Try.func13, Try.ntmps13
    go_wp2_with fail
    (with_reducible refine (rowsL_any R r hr1 HR.out RA RC _ _ _ _ h).mono ?_); rintro e w' ⟨rfl, rfl⟩
    rw [Hrow.out]
    go_wp2_with fail
    go_ret2
    exact do_err hr.out (brefl w)
  | true =>
    cases hl : liftB ls (r : Int) with
    | false =>
      have hr := Lib.hid (doP_may (sg := 1) hrow hl)
      have Hrow := Lib.hid hrow
      have Hl := Lib.hid hl
      clear hrow hl
      go_enter Try.func13, Try.ntmps13
      go_wp2_with fail
      (with_reducible refine (rowsL_any R r hr1 HR.out RA RC _ _ _ _ h).mono ?_); rintro e w' ⟨rfl, rfl⟩
      rw [Hrow.out]
      go_wp2_with fail
      (with_reducible refine (mayL_any ls n Hn.out hm _ _ _ _ hs).mono ?_); rintro e w6 ⟨rfl, b6⟩
      rw [Hl.out]
      go_wp2_with fail
      go_ret2
      exact do_err hr.out b6
    | true =>
      have Hrow := Lib.hid hrow
      have Hl := Lib.hid hl
      have hlv := Lib.hid (lvl_of hrow)
      have hlm := Lib.hid (liftB_mem hl)
      have hr8 := (rowsB_true.1 hrow).2.1
      have hm8 := (rowsB_true.1 hrow).2.2.1
      have n16 : n ≤ 16 := by rw [Hn.out]; exact (liftB_true.1 hl).2.2.1
      have hlk := Lib.hid (liftB_true.1 hl).2.2.2
      obtain ⟨m, hmm⟩ : ∃ m, m = (R 0).length := ⟨_, rfl⟩
      rw [← hmm] at hlv hm8 ⊢
      clear hrow hl hmm
      go_enter Try.func13, Try.ntmps13
      go_wp2_with fail
      (with_reducible refine (rowsL_any R r hr1 HR.out RA RC _ _ _ _ h).mono ?_); rintro e w' ⟨rfl, rfl⟩
      rw [Hrow.out]
      go_wp2_with fail
      (with_reducible refine (mayL_any ls n Hn.out hm _ _ _ _ hs).mono ?_); rintro e w6 ⟨rfl, b6⟩
      rw [Hl.out]
      go_wp2_with fail
      (with_reducible refine (copiedL_any R r m (by omega) (by omega) (fun i hi => (lvl_at hlv.out hi).1) RA RC _ _ _ ((h.below b6).more b6.size)).mono ?_); rintro e w7 ⟨A7, c7, RA7, RC7, rfl, ho7, b7⟩
      have Ho7 := Lib.hid (ho7.base b6.size)
      have B7 := Lib.hid (bth b6 b7)
      have hs6 := b6.size
      clear ho7 b7 b6
      go_wp2_with fail
      go_loopw [8, 23] (fun _ iv wr => (∃ (t : Nat) (Q : Nat → List Int), t ≤ n ∧ iv = .int .i64 t ∧ OwnM wr w.heap.size A7 r c7 m RA7 RC7 Q ∧ Lvl Q r m ∧ goL (1) Q (ls.drop t) = goL (1) R ls) ∧ Below w.heap.size w wr) (fun _ iv _ => n - (intOf iv).toNat)
      case atStart => exact ⟨⟨0, R, Nat.zero_le _, by go_num, Ho7.out, hlv.out, rfl⟩, B7.out⟩
      case round =>
        obtain ⟨⟨t, Q, ht, rfl, ho, hq, hre⟩, hbl⟩ := hrel
        obtain ⟨wi, rfl⟩ : ∃ wi : World, wi = wr := ⟨_, rfl⟩
        have Ho := Lib.hid ho
        have Hq := Lib.hid hq
        have Hre := Lib.hid hre
        have Hb := Lib.hid hbl
        clear ho hq hre hbl
        by_cases hlt : t < n
        · obtain ⟨q, hqq⟩ : ∃ q : Nat, q = t := ⟨_, rfl⟩
          subst hqq
          have hql : q < ls.length := by rw [← Hn.out]; exact hlt
          have hqn : q < n := hlt
          have hdr := Lib.hid (drop_lft (ls := ls) (k := q) hql)
          have hok := liftOk_true.1 (hlk.out q hql)
          obtain ⟨f, hf⟩ : ∃ f : Nat, f = (lfF ls q).toNat := ⟨_, rfl⟩
          obtain ⟨u, hu⟩ : ∃ u : Nat, u = (lfT ls q).toNat := ⟨_, rfl⟩
          have hfI : lfF ls q = (f : Int) := by omega
          have huI : lfT ls q = (u : Int) := by omega
          obtain ⟨g, hg⟩ : ∃ g, g = lfG ls q := ⟨_, rfl⟩
          obtain ⟨b1, o1, rfl, hc1, hc2, hc3⟩ := (hs.below Hb.out).at_ hql
          rw [hfI] at hc1
          rw [huI] at hc2
          rw [← hg] at hc3
          have nz1 := World.new_ne wi _ hc1
          have nz2 := World.new_ne wi _ hc2
          have nz3 := World.new_ne wi _ hc3
          obtain ⟨k1, k2, k3, k4, k5, k6, k7⟩ := hok
          have hf8 : f < r := by omega
          have hu8 : u < r := by omega
          have hfu : f ≠ u := by omega
          rw [← hg] at k6 k7
          obtain ⟨yw, hyw⟩ : ∃ yw, yw = allWideB (appRow (Q u) (Q f) g (1)) := ⟨_, rfl⟩
          have hstep : Hid (goL (1) R ls = if yw = true then goL (1) (appP Q f u g (1)) (ls.drop (q + 1)) else none) := by
            show _ = _
            rw [← Hre.out, hdr.out, hyw, hf, hu, hg]
            cases hy : allWideB (appRow (Q (lfT ls q).toNat) (Q (lfF ls q).toNat) (lfG ls q) (1)) with
            | true => rw [if_pos rfl]; exact goL_some hy
            | false => rw [if_neg (by simp)]; exact goL_none hy
          have Hyw := Lib.hid hyw
          clear hf hu hg hfI huI k1 k2 k3 k4 k5 hyw
          go_wp2_with fail
          (with_reducible refine (applyL_any (Ho.out.below (bal (brefl wi) _) (Nat.le_refl _)) (by omega) (fun i hi => (lvl_at Hq.out hi).2) f u hf8 hu8 hfu g (1) k6 k7 (by decide) (by omega) (f : Int) (u : Int) rfl rfl).mono ?_); rintro e w8 ⟨rfl, ho8, hk8⟩
          have hb8 := Lib.hid (ap_below (Q := Q) (Ho.out.below (bal (brefl wi) _) (Nat.le_refl _)) hu8 hk8 (Hb.out.alloc Hb.out.size _) (by have := Hb.out.size; simp; omega))
          rw [← Hyw.out] at ho8 ⊢
          have Ho8 := Lib.hid ho8
          clear ho8 hk8
          cases yw with
          | false =>
            have hr : Hid (doP (1) R r ls = .error 6) := doP_none Hrow.out Hl.out (by show goL (1) R ls = none; rw [hstep.out]; rfl)
            go_wp2_with fail
            go_ret2
            exact do_err hr.out hb8.out
          | true =>
            go_wp2_with fail
            go_roundw
            case rel =>
              refine ⟨⟨q + 1, appP Q f u g (1), by omega, by go_num, Ho8.out (by simp), Hq.out.app hf8 Hyw.out.symm, ?_⟩, hb8.out⟩
              rw [hstep.out]; simp
            case measure => simp [intOf]; omega
        · have e : t = n := by omega
          subst e
          have hgo : Hid (goL (1) R ls = some Q) := by
            show _ = _
            rw [← Hre.out, List.drop_of_length_le (by rw [Hn.out]; simp)]; rfl
          go_wp2_with fail
          go_ret2
          exact do_ok (doP_some Hrow.out Hl.out hgo.out) Ho.out Hb.out

set_option maxHeartbeats 2000000 in
theorem doR_any (R : Nat → List Int) (r : Nat) (hr1 : r ≤ 1000) (hR : ∀ i, i < r → (R i).length ≤ 100000) (RA : Nat → Option Addr) (RC : Nat → Nat) (ls : List Lft) (n : Nat) (hn : n = ls.length) (hm : n ≤ 9223372036854775807) (A B : Option Addr) (c d : Nat) (w : World) (h : Rw w w.heap.size A r RA RC R) (hs : Lfts w w.heap.size B ls) :
    Calls Try.prog 14 #[.slice A r c, .slice B n d] w (DoQ (doP (1) R r ls) r (R 0).length w) := by
  have Hn := Lib.hid hn
  clear hn
  have HR := Lib.hid hR
  clear hR
  cases hg : (rowsB R r && liftB ls (r : Int)) with
  | false =>
    have hr : Hid (doP (1) R r ls = .error 1) := by
      show _ = _
      cases h1 : rowsB R r with
      | false => exact doP_rows h1
      | true => exact doP_may h1 (by rw [h1] at hg; simpa using hg)
    have Hg := Lib.hid hg
    clear hg
    go_enter Try.func14, Try.ntmps14
    go_wp2_with fail
    (with_reducible refine (rowsR_any R r hr1 HR.out RA RC ls n Hn.out hm _ _ _ _ _ h hs).mono ?_); rintro e w6 ⟨rfl, b6⟩
    rw [Hg.out]
    go_wp2_with fail
    go_ret2
    exact do_err hr.out b6
  | true =>
    · have hrow : rowsB R r = true := by cases h1 : rowsB R r with | false => (rw [h1] at hg; simp at hg) | true => rfl
      have hl : liftB ls (r : Int) = true := by rw [hrow] at hg; simpa using hg
      have Hg := Lib.hid hg
      clear hg
      have Hrow := Lib.hid hrow
      have Hl := Lib.hid hl
      have hlv := Lib.hid (lvl_of hrow)
      have hlm := Lib.hid (liftB_mem hl)
      have hr8 := (rowsB_true.1 hrow).2.1
      have hm8 := (rowsB_true.1 hrow).2.2.1
      have n16 : n ≤ 16 := by rw [Hn.out]; exact (liftB_true.1 hl).2.2.1
      have hlk := Lib.hid (liftB_true.1 hl).2.2.2
      obtain ⟨m, hmm⟩ : ∃ m, m = (R 0).length := ⟨_, rfl⟩
      rw [← hmm] at hlv hm8 ⊢
      clear hrow hl hmm
      go_enter Try.func14, Try.ntmps14
      go_wp2_with fail
      (with_reducible refine (rowsR_any R r hr1 HR.out RA RC ls n Hn.out hm _ _ _ _ _ h hs).mono ?_); rintro e w6 ⟨rfl, b6⟩
      rw [Hg.out]
      go_wp2_with fail
      (with_reducible refine (copiedR_any R r m (by omega) (by omega) (fun i hi => (lvl_at hlv.out hi).1) RA RC _ _ _ ((h.below b6).more b6.size)).mono ?_); rintro e w7 ⟨A7, c7, RA7, RC7, rfl, ho7, b7⟩
      have Ho7 := Lib.hid (ho7.base b6.size)
      have B7 := Lib.hid (bth b6 b7)
      have hs6 := b6.size
      clear ho7 b7 b6
      go_wp2_with fail
      go_loopw [7] (fun iv wr => (∃ (t : Nat) (Q : Nat → List Int), t ≤ n ∧ iv = .int .i64 t ∧ OwnM wr w.heap.size A7 r c7 m RA7 RC7 Q ∧ Lvl Q r m ∧ goL (1) Q (ls.drop t) = goL (1) R ls) ∧ Below w.heap.size w wr) (fun iv _ => n - (intOf iv).toNat)
      case atStart => exact ⟨⟨0, R, Nat.zero_le _, by go_num, Ho7.out, hlv.out, rfl⟩, B7.out⟩
      case round =>
        obtain ⟨⟨t, Q, ht, rfl, ho, hq, hre⟩, hbl⟩ := hrel
        obtain ⟨wi, rfl⟩ : ∃ wi : World, wi = wr := ⟨_, rfl⟩
        have Ho := Lib.hid ho
        have Hq := Lib.hid hq
        have Hre := Lib.hid hre
        have Hb := Lib.hid hbl
        clear ho hq hre hbl
        by_cases hlt : t < n
        · obtain ⟨q, hqq⟩ : ∃ q : Nat, q = t := ⟨_, rfl⟩
          subst hqq
          have hql : q < ls.length := by rw [← Hn.out]; exact hlt
          have hqn : q < n := hlt
          have hdr := Lib.hid (drop_lft (ls := ls) (k := q) hql)
          have hok := liftOk_true.1 (hlk.out q hql)
          obtain ⟨f, hf⟩ : ∃ f : Nat, f = (lfF ls q).toNat := ⟨_, rfl⟩
          obtain ⟨u, hu⟩ : ∃ u : Nat, u = (lfT ls q).toNat := ⟨_, rfl⟩
          have hfI : lfF ls q = (f : Int) := by omega
          have huI : lfT ls q = (u : Int) := by omega
          obtain ⟨g, hg⟩ : ∃ g, g = lfG ls q := ⟨_, rfl⟩
          obtain ⟨b1, o1, rfl, hc1, hc2, hc3⟩ := (hs.below Hb.out).at_ hql
          rw [hfI] at hc1
          rw [huI] at hc2
          rw [← hg] at hc3
          have nz1 := World.new_ne wi _ hc1
          have nz2 := World.new_ne wi _ hc2
          have nz3 := World.new_ne wi _ hc3
          obtain ⟨k1, k2, k3, k4, k5, k6, k7⟩ := hok
          have hf8 : f < r := by omega
          have hu8 : u < r := by omega
          have hfu : f ≠ u := by omega
          rw [← hg] at k6 k7
          obtain ⟨yw, hyw⟩ : ∃ yw, yw = allWideB (appRow (Q u) (Q f) g (1)) := ⟨_, rfl⟩
          have hstep : Hid (goL (1) R ls = if yw = true then goL (1) (appP Q f u g (1)) (ls.drop (q + 1)) else none) := by
            show _ = _
            rw [← Hre.out, hdr.out, hyw, hf, hu, hg]
            cases hy : allWideB (appRow (Q (lfT ls q).toNat) (Q (lfF ls q).toNat) (lfG ls q) (1)) with
            | true => rw [if_pos rfl]; exact goL_some hy
            | false => rw [if_neg (by simp)]; exact goL_none hy
          have Hyw := Lib.hid hyw
          clear hf hu hg hfI huI k1 k2 k3 k4 k5 hyw
          go_wp2_with fail
          (with_reducible refine (oneR_any (Ho.out) (by omega) (fun i hi => (lvl_at Hq.out hi).2) f u hf8 hu8 hfu g (1) k6 k7 (by decide) (by omega) (f : Int) (u : Int) rfl rfl).mono ?_); rintro e w8 ⟨rfl, ho8, hk8⟩
          have hb8 := Lib.hid (ap_below (Q := Q) (Ho.out) hu8 hk8 (Hb.out) (by have := Hb.out.size; omega))
          rw [← Hyw.out] at ho8 ⊢
          have Ho8 := Lib.hid ho8
          clear ho8 hk8
          cases yw with
          | false =>
            have hr : Hid (doP (1) R r ls = .error 6) := doP_none Hrow.out Hl.out (by show goL (1) R ls = none; rw [hstep.out]; rfl)
            go_wp2_with fail
            go_ret2
            exact do_err hr.out hb8.out
          | true =>
            go_wp2_with fail
            go_roundw
            case rel =>
              refine ⟨⟨q + 1, appP Q f u g (1), by omega, by go_num, Ho8.out (by simp), Hq.out.app hf8 Hyw.out.symm, ?_⟩, hb8.out⟩
              rw [hstep.out]; simp
            case measure => simp [intOf]; omega
        · have e : t = n := by omega
          subst e
          have hgo : Hid (goL (1) R ls = some Q) := by
            show _ = _
            rw [← Hre.out, List.drop_of_length_le (by rw [Hn.out]; simp)]; rfl
          go_wp2_with fail
          go_ret2
          exact do_ok (doP_some Hrow.out Hl.out hgo.out) Ho.out Hb.out

set_option maxHeartbeats 2000000 in
theorem undoR_any (R : Nat → List Int) (r : Nat) (hr1 : r ≤ 1000) (hR : ∀ i, i < r → (R i).length ≤ 100000) (RA : Nat → Option Addr) (RC : Nat → Nat) (ls : List Lft) (n : Nat) (hn : n = ls.length) (hm : n ≤ 9223372036854775807) (A B : Option Addr) (c d : Nat) (w : World) (h : Rw w w.heap.size A r RA RC R) (hs : Lfts w w.heap.size B ls) :
    Calls Try.prog 16 #[.slice A r c, .slice B n d] w (DoQ (doP (-1) R r ls) r (R 0).length w) := by
  have Hn := Lib.hid hn
  clear hn
  have HR := Lib.hid hR
  clear hR
  cases hg : (rowsB R r && liftB ls (r : Int)) with
  | false =>
    have hr : Hid (doP (-1) R r ls = .error 1) := by
      show _ = _
      cases h1 : rowsB R r with
      | false => exact doP_rows h1
      | true => exact doP_may h1 (by rw [h1] at hg; simpa using hg)
    have Hg := Lib.hid hg
    clear hg
    go_enter Try.func16, Try.ntmps16
    go_wp2_with fail
    (with_reducible refine (rowsR_any R r hr1 HR.out RA RC ls n Hn.out hm _ _ _ _ _ h hs).mono ?_); rintro e w6 ⟨rfl, b6⟩
    rw [Hg.out]
    go_wp2_with fail
    go_ret2
    exact do_err hr.out b6
  | true =>
    · have hrow : rowsB R r = true := by cases h1 : rowsB R r with | false => (rw [h1] at hg; simp at hg) | true => rfl
      have hl : liftB ls (r : Int) = true := by rw [hrow] at hg; simpa using hg
      have Hg := Lib.hid hg
      clear hg
      have Hrow := Lib.hid hrow
      have Hl := Lib.hid hl
      have hlv := Lib.hid (lvl_of hrow)
      have hlm := Lib.hid (liftB_mem hl)
      have hr8 := (rowsB_true.1 hrow).2.1
      have hm8 := (rowsB_true.1 hrow).2.2.1
      have n16 : n ≤ 16 := by rw [Hn.out]; exact (liftB_true.1 hl).2.2.1
      have hlk := Lib.hid (liftB_true.1 hl).2.2.2
      obtain ⟨m, hmm⟩ : ∃ m, m = (R 0).length := ⟨_, rfl⟩
      rw [← hmm] at hlv hm8 ⊢
      clear hrow hl hmm
      go_enter Try.func16, Try.ntmps16
      go_wp2_with fail
      (with_reducible refine (rowsR_any R r hr1 HR.out RA RC ls n Hn.out hm _ _ _ _ _ h hs).mono ?_); rintro e w6 ⟨rfl, b6⟩
      rw [Hg.out]
      go_wp2_with fail
      (with_reducible refine (copiedR_any R r m (by omega) (by omega) (fun i hi => (lvl_at hlv.out hi).1) RA RC _ _ _ ((h.below b6).more b6.size)).mono ?_); rintro e w7 ⟨A7, c7, RA7, RC7, rfl, ho7, b7⟩
      have Ho7 := Lib.hid (ho7.base b6.size)
      have B7 := Lib.hid (bth b6 b7)
      have hs6 := b6.size
      clear ho7 b7 b6
      go_wp2_with fail
      go_loopw [7] (fun iv wr => (∃ (t : Nat) (Q : Nat → List Int), t ≤ n ∧ iv = .int .i64 ((n : Int) - 1 - (t : Int)) ∧ OwnM wr w.heap.size A7 r c7 m RA7 RC7 Q ∧ Lvl Q r m ∧ goL (-1) Q (ls.reverse.drop t) = goL (-1) R ls.reverse) ∧ Below w.heap.size w wr) (fun iv _ => (intOf iv + 1).toNat)
      case atStart => exact ⟨⟨0, R, Nat.zero_le _, by go_num, Ho7.out, hlv.out, rfl⟩, B7.out⟩
      case round =>
        obtain ⟨⟨t, Q, ht, rfl, ho, hq, hre⟩, hbl⟩ := hrel
        obtain ⟨wi, rfl⟩ : ∃ wi : World, wi = wr := ⟨_, rfl⟩
        have Ho := Lib.hid ho
        have Hq := Lib.hid hq
        have Hre := Lib.hid hre
        have Hb := Lib.hid hbl
        clear ho hq hre hbl
        by_cases hlt : t < n
        · obtain ⟨q, hqq⟩ : ∃ q : Nat, q = n - 1 - t := ⟨_, rfl⟩
          have hqI : (n : Int) - 1 - (t : Int) = (q : Int) := by omega
          have hqn : q < n := by omega
          have hql : q < ls.length := by rw [← Hn.out]; exact hqn
          have hdr := Lib.hid (rev_dropL (ls := ls) (t := t) (q := q) (by rw [← Hn.out]; exact hlt) (by rw [← Hn.out]; exact hqq))
          have HqI := Lib.hid hqI
          rw [hqI]
          clear hqI hqq
          have hok := liftOk_true.1 (hlk.out q hql)
          obtain ⟨f, hf⟩ : ∃ f : Nat, f = (lfF ls q).toNat := ⟨_, rfl⟩
          obtain ⟨u, hu⟩ : ∃ u : Nat, u = (lfT ls q).toNat := ⟨_, rfl⟩
          have hfI : lfF ls q = (f : Int) := by omega
          have huI : lfT ls q = (u : Int) := by omega
          obtain ⟨g, hg⟩ : ∃ g, g = lfG ls q := ⟨_, rfl⟩
          obtain ⟨b1, o1, rfl, hc1, hc2, hc3⟩ := (hs.below Hb.out).at_ hql
          rw [hfI] at hc1
          rw [huI] at hc2
          rw [← hg] at hc3
          have nz1 := World.new_ne wi _ hc1
          have nz2 := World.new_ne wi _ hc2
          have nz3 := World.new_ne wi _ hc3
          obtain ⟨k1, k2, k3, k4, k5, k6, k7⟩ := hok
          have hf8 : f < r := by omega
          have hu8 : u < r := by omega
          have hfu : f ≠ u := by omega
          rw [← hg] at k6 k7
          obtain ⟨yw, hyw⟩ : ∃ yw, yw = allWideB (appRow (Q u) (Q f) g (-1)) := ⟨_, rfl⟩
          have hstep : Hid (goL (-1) R ls.reverse = if yw = true then goL (-1) (appP Q f u g (-1)) (ls.reverse.drop (t + 1)) else none) := by
            show _ = _
            rw [← Hre.out, hdr.out, hyw, hf, hu, hg]
            cases hy : allWideB (appRow (Q (lfT ls q).toNat) (Q (lfF ls q).toNat) (lfG ls q) (-1)) with
            | true => rw [if_pos rfl]; exact goL_some hy
            | false => rw [if_neg (by simp)]; exact goL_none hy
          have Hyw := Lib.hid hyw
          clear hf hu hg hfI huI k1 k2 k3 k4 k5 hyw
          go_wp2_with fail
          (with_reducible refine (oneR_any (Ho.out) (by omega) (fun i hi => (lvl_at Hq.out hi).2) f u hf8 hu8 hfu g (-1) k6 k7 (by decide) (by omega) (f : Int) (u : Int) rfl rfl).mono ?_); rintro e w8 ⟨rfl, ho8, hk8⟩
          have hb8 := Lib.hid (ap_below (Q := Q) (Ho.out) hu8 hk8 (Hb.out) (by have := Hb.out.size; omega))
          rw [← Hyw.out] at ho8 ⊢
          have Ho8 := Lib.hid ho8
          clear ho8 hk8
          cases yw with
          | false =>
            have hr : Hid (doP (-1) R r ls = .error 6) := doP_none Hrow.out Hl.out (by show goL (-1) R ls.reverse = none; rw [hstep.out]; rfl)
            go_wp2_with fail
            go_ret2
            exact do_err hr.out hb8.out
          | true =>
            go_wp2_with fail
            go_roundw
            case rel =>
              refine ⟨⟨t + 1, appP Q f u g (-1), by omega, by rw [← HqI.out]; go_num, Ho8.out (by simp), Hq.out.app hf8 Hyw.out.symm, ?_⟩, hb8.out⟩
              rw [hstep.out]; simp
            case measure => simp [intOf]
        · have e : t = n := by omega
          subst e
          have hgo : Hid (goL (-1) R ls.reverse = some Q) := by
            show _ = _
            rw [← Hre.out, List.drop_of_length_le (by rw [Hn.out]; simp)]; rfl
          have hneg : (t : Int) - 1 - (t : Int) = -1 := by omega
          rw [hneg]
          clear hneg
          go_wp2_with fail
          go_ret2
          exact do_ok (doP_some Hrow.out Hl.out hgo.out) Ho.out Hb.out
end Go.Proofs.Ytjdoagkbcooonaa
