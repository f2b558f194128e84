/-
  Package linear and the reference: which numbers, which coefficients may be; what coefficients guess.
-/
import Derived.Test.YtmbebcgicddbnaaProg
import Derived.Test.YtmbebcgicddbnaaNP
import Derived.Test.YtmbebcgicddbnaaAI
namespace Go.Proofs.Ytmbebcgicddbnaa
open Go.RowKit

theorem wideN_any (x : Int) (w : World) :
    Calls Try.prog 29 #[.int .i64 x] w fun e w' => e = .returned (.bool (wideB x)) ∧ w = w' := by
  go_enter Try.func29, Try.ntmps29
  go_wp2
  all_goals go_ret
  all_goals refine ⟨ret_bool ?_, rfl⟩
  · have : -1073741824 ≤ x := by assumption
    simp [wideB, this]
  · have : x < -1073741824 := by assumption
    simp [wideB]; omega

theorem allWideN_any (xs : List Int) (n : Nat) (hn : n = xs.length) (hm : n ≤ 140737488355328) (A : Option Addr) (b c : Nat) (w : World) (ha : Ints .i64 w b A xs) :
    Calls Try.prog 27 #[.slice A n c] w fun e w' => e = .returned (.bool (allWideB xs)) ∧ w = w' := by
  subst hn
  go_enter Try.func27, Try.ntmps27
  go_wp2
  go_loop [4, 7] (fun _ i => ∃ k : Nat, k ≤ xs.length ∧ i = .int .i64 k ∧ ∀ j, j < k → wideB (ix xs j) = true) (fun _ i => xs.length - (intOf i).toNat)
  case atStart => exact ⟨0, Nat.zero_le _, rfl, fun j h => absurd h (by omega)⟩
  case round =>
    obtain ⟨k, hk, rfl, hj⟩ := hrel
    have Hj := Lib.hid hj
    clear hj
    by_cases hlt : k < xs.length
    · obtain ⟨b1, o1, rfl, hc1⟩ := ha.at_ hlt
      go_wp2_with (go_at_call 29; refine (wideN_any _ _).mono ?_; rintro e w' ⟨rfl, rfl⟩)
      · have hn : wideB (ix xs k) = false := by first | assumption | (simpa using ‹(!wideB (ix xs k)) = true›)
        go_ret
        exact ⟨ret_bool (allWideB_false hlt hn).symm, rfl⟩
      · have hn : wideB (ix xs k) = true := by first | assumption | (simpa using ‹(!wideB (ix xs k)) = false›)
        go_round
        case rel =>
          refine ⟨k + 1, by omega, by go_num, fun j h => ?_⟩
          by_cases e : j = k
          · subst e; exact hn
          · exact Hj.out j (by omega)
        case measure => simp [intOf]; omega
    · go_wp2
      go_ret
      exact ⟨ret_bool (allWideB_true.2 fun j hj => Hj.out j (by omega)).symm, rfl⟩

theorem mayL_any (cs : List Int) (n : Nat) (hn : n = cs.length) (hm : n ≤ 140737488355328) (sh : Int) (A : Option Addr) (b c : Nat) (w : World) (ha : Ints .i64 w b A cs) :
    Calls Try.prog 21 #[.slice A n c, .int .i64 sh] w fun e w' => e = .returned (.bool (mayN cs sh)) ∧ w = w' := by
  subst hn
  by_cases h1 : cs.length < 1
  · have hI : (cs.length : Int) < 1 := by omega
    have hr := Lib.hid (mayN_no (cs := cs) (sh := sh) (by omega))
    clear h1
    go_enter Try.func21, Try.ntmps21
    go_wp2
    go_ret
    exact ⟨ret_bool hr.out.symm, rfl⟩
  by_cases h2 : 32 < cs.length
  · have hI : (32 : Int) < (cs.length : Int) := by omega
    have hI0 : (1 : Int) ≤ (cs.length : Int) := by omega
    have hr := Lib.hid (mayN_no (cs := cs) (sh := sh) (by omega))
    clear h1 h2
    go_enter Try.func21, Try.ntmps21
    go_wp2
    go_ret
    exact ⟨ret_bool hr.out.symm, rfl⟩
  have i1 : (1 : Int) ≤ (cs.length : Int) := by omega
  have i2 : (cs.length : Int) ≤ 32 := by omega
  by_cases h3 : sh < 0
  · have hr := Lib.hid (mayN_no (cs := cs) (sh := sh) (by omega))
    clear h1 h2
    go_enter Try.func21, Try.ntmps21
    go_wp2
    go_ret
    exact ⟨ret_bool hr.out.symm, rfl⟩
  by_cases h4 : 15 < sh
  · have hr := Lib.hid (mayN_no (cs := cs) (sh := sh) (by omega))
    clear h1 h2
    go_enter Try.func21, Try.ntmps21
    go_wp2
    go_ret
    exact ⟨ret_bool hr.out.symm, rfl⟩
  have hr := Lib.hid (mayN_last (cs := cs) (sh := sh) (by omega) (by omega) (by omega) (by omega))
  clear h1 h2
  go_enter Try.func21, Try.ntmps21
  go_wp2
  go_loop [6, 25] (fun _ i => ∃ k : Nat, k ≤ cs.length ∧ i = .int .i64 k ∧ ∀ j, j < k → coefB (ix cs j) = true) (fun _ i => cs.length - (intOf i).toNat)
  case atStart => exact ⟨0, Nat.zero_le _, rfl, fun j h => absurd h (by omega)⟩
  case round =>
    obtain ⟨k, hk, rfl, hj⟩ := hrel
    have Hj := Lib.hid hj
    clear hj
    by_cases hlt : k < cs.length
    · obtain ⟨b1, o1, rfl, hc1⟩ := ha.at_ hlt
      by_cases hw1 : ix cs k < -32768
      · have hn : Hid (coefB (ix cs k) = false) := by show _ = _; simp [coefB]; omega
        go_wp2
        go_ret
        exact ⟨ret_bool (by rw [hr.out]; exact (allCoefB_false hlt hn.out).symm), rfl⟩
      · by_cases hw2 : 32768 ≤ ix cs k
        · have hn : Hid (coefB (ix cs k) = false) := by show _ = _; simp [coefB]; omega
          go_wp2
          go_ret
          exact ⟨ret_bool (by rw [hr.out]; exact (allCoefB_false hlt hn.out).symm), rfl⟩
        · have hn : Hid (coefB (ix cs k) = true) := by show _ = _; simp [coefB]; omega
          go_wp2
          go_round
          case rel =>
            refine ⟨k + 1, by omega, by go_num, fun j h => ?_⟩
            by_cases e : j = k
            · subst e; exact hn.out
            · exact Hj.out j (by omega)
          case measure => simp [intOf]; omega
    · go_wp2
      go_ret
      exact ⟨ret_bool (by rw [hr.out]; exact (allCoefB_true.2 fun j hj => Hj.out j (by omega)).symm), rfl⟩

theorem mayR_any (cs : List Int) (n : Nat) (hn : n = cs.length) (hm : n ≤ 140737488355328) (sh : Int) (A : Option Addr) (b c : Nat) (w : World) (ha : Ints .i64 w b A cs) :
    Calls Try.prog 30 #[.slice A n c, .int .i64 sh] w fun e w' => e = .returned (.bool (mayN cs sh)) ∧ w = w' := by
  subst hn
  have Hno : Hid (∀ k, k < cs.length → coefB (ix cs k) = false → mayN cs sh = false) := fun k hk h => mayN_no fun h' => by rw [allCoefB_true.1 h'.2.2.2.2 k hk] at h; cases h
  go_enter Try.func30, Try.ntmps30
  go_wp2
  go_loop [5] (fun i => ∃ k : Nat, k ≤ cs.length ∧ i = .int .i64 k ∧ ∀ j, j < k → coefB (ix cs j) = true) (fun i => cs.length - (intOf i).toNat)
  case atStart => exact ⟨0, Nat.zero_le _, rfl, fun j h => absurd h (by omega)⟩
  case round =>
    obtain ⟨k, hk, rfl, hj⟩ := hrel
    have Hj := Lib.hid hj
    clear hj
    by_cases hlt : k < cs.length
    · obtain ⟨b1, o1, rfl, hc1⟩ := ha.at_ hlt
      by_cases hw1 : ix cs k < -32768
      · have hn : Hid (coefB (ix cs k) = false) := by show _ = _; simp [coefB]; omega
        go_wp2
        go_ret
        exact ⟨ret_bool (Hno.out k hlt hn.out).symm, rfl⟩
      · by_cases hw2 : 32768 ≤ ix cs k
        · have hn : Hid (coefB (ix cs k) = false) := by show _ = _; simp [coefB]; omega
          go_wp2
          go_ret
          exact ⟨ret_bool (Hno.out k hlt hn.out).symm, rfl⟩
        · have hn : Hid (coefB (ix cs k) = true) := by show _ = _; simp [coefB]; omega
          go_wp2
          go_round
          case rel =>
            refine ⟨k + 1, by omega, by go_num, fun j h => ?_⟩
            by_cases e : j = k
            · subst e; exact hn.out
            · exact Hj.out j (by omega)
          case measure => simp [intOf]; omega
    · have hall : Hid (allCoefB cs = true) := allCoefB_true.2 fun j hj => Hj.out j (by omega)
      by_cases h1 : cs.length < 1
      · have hI : (cs.length : Int) < 1 := by omega
        have hr := Lib.hid (mayN_no (cs := cs) (sh := sh) (by omega))
        go_wp2
        go_ret
        exact ⟨ret_bool hr.out.symm, rfl⟩
      by_cases h2 : 32 < cs.length
      · have hI : (32 : Int) < (cs.length : Int) := by omega
        have hI0 : (1 : Int) ≤ (cs.length : Int) := by omega
        have hr := Lib.hid (mayN_no (cs := cs) (sh := sh) (by omega))
        go_wp2
        go_ret
        exact ⟨ret_bool hr.out.symm, rfl⟩
      have i1 : (1 : Int) ≤ (cs.length : Int) := by omega
      have i2 : (cs.length : Int) ≤ 32 := by omega
      by_cases h3 : sh < 0
      · have hr := Lib.hid (mayN_no (cs := cs) (sh := sh) (by omega))
        go_wp2
        go_ret
        exact ⟨ret_bool hr.out.symm, rfl⟩
      by_cases h4 : 15 < sh
      · have hr := Lib.hid (mayN_no (cs := cs) (sh := sh) (by omega))
        go_wp2
        go_ret
        exact ⟨ret_bool (by rw [hr.out]; exact decide_eq_false (by omega)), rfl⟩
      have hr := Lib.hid (mayN_last (cs := cs) (sh := sh) (by omega) (by omega) (by omega) (by omega))
      have h5 : sh ≤ 15 := by omega
      have h6 : 0 ≤ sh := by omega
      go_wp2
      go_ret
      exact ⟨ret_bool (by rw [hr.out, hall.out]), rfl⟩

theorem predict_any (past cs : List Int) (n m : Nat) (hn : n = past.length) (hm : m = cs.length) (hn1 : n ≤ 140737488355328) (hm1 : m ≤ 140737488355328) (s : Nat) (hs15 : s ≤ 15) (sI : Int) (hs : sI = (s : Int)) (A B : Option Addr) (b1 b2 c d : Nat) (w : World) (ha : Ints .i64 w b1 A past) (hb : Ints .i64 w b2 B cs) :
    Calls Try.prog 28 #[.slice A n c, .slice B m d, .int .i64 sI] w fun e w' => e = .returned (.int .i64 (predP past cs s)) ∧ w = w' := by
  subst hs
  have hsI : (s : Int) ≤ 15 := by omega
  have Hn := Lib.hid hn
  have Hm := Lib.hid hm
  clear hn hm
  go_enter Try.func28, Try.ntmps28
  go_wp2
  go_loop [7, 8, 9, 10, 13] (fun sv _ _ _ i => ∃ k : Nat, k ≤ m ∧ k ≤ n ∧ i = .int .i64 k ∧ sv = .int .i64 (sumTo past cs k)) (fun _ _ _ _ i => m - (intOf i).toNat)
  case atStart => exact ⟨0, Nat.zero_le _, Nat.zero_le _, rfl, rfl⟩
  case round =>
    obtain ⟨k, hk, hkn, rfl, rfl⟩ := hrel
    by_cases hlt : k < m
    · obtain ⟨g1, o1, rfl, hc1⟩ := hb.at_ (i := k) (by rw [← Hm.out]; exact hlt)
      by_cases hlt2 : k < n
      · obtain ⟨g2, o2, rfl, hc2⟩ := ha.at_ (i := n - 1 - k) (by rw [← Hn.out]; omega)
        have t1 : (n : Int) - 1 - (k : Int) < (n : Int) := by omega
        have t2 : ((n : Int) - 1 - (k : Int)).toNat = n - 1 - k := by omega
        have t3 : (k : Int) ≤ (n : Int) - 1 := by omega
        have hsu := Lib.hid (sumTo_succ past cs k)
        go_wp2
        go_round
        case rel => exact ⟨k + 1, by omega, by omega, by go_num, by rw [hsu.out, ← Hn.out]⟩
        case measure => simp [intOf]; omega
      · have e : k = n := by omega
        subst e
        have t1 : (k : Int) - 1 < (k : Int) := by omega
        have hp : Hid (predP past cs s = sumTo past cs k / 2 ^ s) := by show _ = _; unfold predP; rw [← Hn.out, ← Hm.out, show min m k = k by omega]
        go_wp2
        go_ret
        exact ⟨ret_int hp.out.symm, rfl⟩
    · have e : k = m := by omega
      subst e
      have hp : Hid (predP past cs s = sumTo past cs k / 2 ^ s) := by show _ = _; unfold predP; rw [← Hn.out, ← Hm.out, show min k n = k by omega]
      go_wp2
      go_ret
      exact ⟨ret_int hp.out.symm, rfl⟩

/-- Guess behind wide samples. -/
def guessP (past cs : List Int) (sh : Int) : Int := if mayN cs sh = true then predP past cs sh.toNat else 0
theorem guessP_no {past cs : List Int} {sh : Int} (h : mayN cs sh = false) : guessP past cs sh = 0 := by unfold guessP; rw [if_neg (by rw [h]; simp)]
theorem guessP_yes {past cs : List Int} {s : Nat} (h : mayN cs (s : Int) = true) : guessP past cs (s : Int) = predP past cs s := by unfold guessP; rw [if_pos h, Int.toNat_natCast]
theorem ints_drop {k : IntKind} {w : World} {B b off : Nat} {l : List Int} (h : Ints k w B (some ⟨b, off, none⟩) l) (d : Nat) : Ints k w B (some ⟨b, off + d, none⟩) (l.drop d) := fun hn => by
  rw [List.length_map, List.length_drop] at hn
  obtain ⟨b', off', e, hb, hc⟩ := h (by rw [List.length_map]; omega)
  simp only [Option.some.injEq, Addr.mk.injEq, and_true] at e
  obtain ⟨rfl, rfl⟩ := e
  refine ⟨b, off + d, rfl, hb, fun i u hu => ?_⟩
  rw [List.map_drop, List.getElem?_drop] at hu
  rw [Nat.add_assoc]
  exact hc (d + i) u hu
theorem allWide_drop {l : List Int} (h : allWideB l = true) (d : Nat) : allWideB (l.drop d) = true := allWideB_true.2 fun k hk => by
  rw [ix_drop]; rw [List.length_drop] at hk; exact allWideB_true.1 h _ (by omega)

theorem guessL_any (past cs : List Int) (n m : Nat) (hn : n = past.length) (hm : m = cs.length) (hn1 : n ≤ 1000000) (hm1 : m ≤ 1000000) (hw : allWideB past = true) (sh : Int) (A B : Option Addr) (b1 b2 c d : Nat) (hc : n ≤ c) (w : World) (ha : Ints .i64 w b1 A past) (hb : Ints .i64 w b2 B cs) :
    Calls Try.prog 22 #[.slice A n c, .slice B m d, .int .i64 sh] w fun e w' => e = .returned (.int .i64 (guessP past cs sh)) ∧ w = w' := by
  cases hmay : mayN cs sh with
  | false =>
    have hr := Lib.hid (guessP_no (past := past) hmay)
    have Hm := Lib.hid hmay
    have Hmm := Lib.hid hm
    clear hmay hm hn
    go_enter Try.func22, Try.ntmps22
    go_wp2_with fail
    (with_reducible refine (mayL_any cs _ Hmm.out (by omega) _ _ _ _ _ hb).mono ?_); rintro e w' ⟨rfl, rfl⟩
    rw [Hm.out]
    go_wp2_with fail
    go_ret
    exact ⟨ret_int hr.out.symm, rfl⟩
  | true =>
    obtain ⟨m1, m2, m3, m4, _⟩ := mayN_true.1 hmay
    obtain ⟨s, rfl⟩ := Int.eq_ofNat_of_zero_le m3
    have hr := Lib.hid (guessP_yes (past := past) hmay)
    have hpd := Lib.hid (predP_drop past cs s)
    have Hm := Lib.hid hmay
    have Hn := Lib.hid hn
    have Hmm := Lib.hid hm
    have Hw := Lib.hid hw
    clear hmay hn hm hw m3
    have hm32 : m ≤ 32 := by rw [Hmm.out]; exact m2
    have hm0 : 1 ≤ m := by rw [Hmm.out]; exact m1
    have hs15 : s ≤ 15 := by omega
    clear m1 m2 m4
    by_cases hlt : m < n
    · obtain ⟨b, off, rfl, _, _⟩ := ha.lt (by rw [← Hn.out]; omega)
      have hd := ints_drop ha (n - m)
      have hwd := Lib.hid (allWide_drop Hw.out (n - m))
      have hld : Hid ((past.drop (n - m)).length = m) := by show _ = _; rw [List.length_drop, ← Hn.out]; omega
      have hpd' : Hid (predP (past.drop (n - m)) cs s = predP past cs s) := by show _ = _; rw [Hn.out, Hmm.out]; exact hpd.out
      obtain ⟨q, hq⟩ : ∃ q, past.drop (n - m) = q := ⟨_, rfl⟩
      rw [hq] at hd hwd hld hpd'
      clear hq
      obtain ⟨dd, hdd⟩ : ∃ dd, n - m = dd := ⟨_, rfl⟩
      have e1 : ((n : Int) - (m : Int)) = (dd : Int) := by omega
      have e2 : max 0 (dd : Int) = (dd : Int) := by omega
      rw [hdd] at hd
      have e3 : n - dd = m := by omega
      have g1 : dd < c := by omega
      have g2 : dd ≤ n := by omega
      have g3 : 0 < dd := by omega
      have g4 : (dd : Int) ≤ (n : Int) := by omega
      clear hdd hlt
      go_enter Try.func22, Try.ntmps22
      go_wp2_with fail
      (with_reducible refine (mayL_any cs _ Hmm.out (by omega) _ _ _ _ _ hb).mono ?_); rintro e w' ⟨rfl, rfl⟩
      rw [Hm.out]
      go_wp2_with fail
      (with_reducible refine (allWideN_any q m hld.out.symm (by omega) _ _ _ _ hd).mono ?_); rintro e w' ⟨rfl, rfl⟩
      rw [hwd.out]
      go_wp2_with fail
      (with_reducible refine (predict_any q cs _ _ hld.out.symm Hmm.out (by omega) (by omega) s hs15 _ rfl _ _ _ _ _ _ _ hd hb).mono ?_); rintro e w' ⟨rfl, rfl⟩
      go_wp2_with fail
      go_ret
      exact ⟨ret_int (by rw [hpd'.out, hr.out]), rfl⟩
    · have hI : (n : Int) ≤ (m : Int) := by omega
      have e1 : (n : Int) - (m : Int) ≤ 0 := by omega
      have e2 : max 0 ((n : Int) - (m : Int)) = 0 := by omega
      clear hlt
      go_enter Try.func22, Try.ntmps22
      go_wp2_with fail
      (with_reducible refine (mayL_any cs _ Hmm.out (by omega) _ _ _ _ _ hb).mono ?_); rintro e w' ⟨rfl, rfl⟩
      rw [Hm.out]
      go_wp2_with fail
      (with_reducible refine (allWideN_any past n Hn.out (by omega) _ _ _ _ ha).mono ?_); rintro e w' ⟨rfl, rfl⟩
      rw [Hw.out]
      go_wp2_with fail
      (with_reducible refine (predict_any past cs _ _ Hn.out Hmm.out (by omega) (by omega) s hs15 _ rfl _ _ _ _ _ _ _ ha hb).mono ?_); rintro e w' ⟨rfl, rfl⟩
      go_wp2_with fail
      go_ret
      exact ⟨ret_int hr.out.symm, rfl⟩
end Go.Proofs.Ytmbebcgicddbnaa
