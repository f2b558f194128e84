/-
  LearnLater: noughts teach nothing; the walk of the law.
-/
import Derived.Test.YtjhmmbejpdibhaaProg
import Derived.Test.YtjhmmbejpdibhaaLFirst
import Derived.Test.YtjhmmbejpdibhaaAI
namespace Go.Proofs.Ytjhmmbejpdibhaa
open Go.RowKit

/-- noughts ahead of a row. -/
def zb (m : Nat) (l : List Int) : List Int := List.replicate m 0 ++ l
theorem zb_len (m : Nat) (l : List Int) : (zb m l).length = m + l.length := by simp [zb]
/-- a filter that was told nothing but noughts. -/
theorem updTo_zero_w {st : Int} (n k : Nat) : updTo st (List.replicate n 0) (List.replicate n 0) k = List.replicate n 0 := by
  refine ix_ext _ _ (by rw [updTo_len]) fun i hi => ?_
  rw [updTo_len, List.length_replicate] at hi
  rw [updTo_ix _ _ _ _ _ (by simpa using hi), ix_zero]
  unfold updL
  simp
  intro _
  decide
theorem tell_zero (n : Nat) (h : 1 ≤ n) (r : Int) : (tellWL r (zeroF n).1 (zeroF n).2 0, tellH (zeroF n).2 0) = zeroF n := by
  unfold tellWL tellH zeroF
  simp only
  rw [updTo_zero_w]
  have e : nearI 0 = 0 := by decide
  rw [e, List.length_replicate, List.take_replicate, Nat.min_eq_left (by omega)]
  obtain ⟨m, rfl⟩ : ∃ m, n = m + 1 := ⟨n - 1, by omega⟩
  rfl
theorem told_zeros (n : Nat) (h : 1 ≤ n) (r : Int) (m : Nat) : toldP r (zeroF n) (List.replicate m 0) = zeroF n := by
  induction m with
  | zero => rfl
  | succ m ih => rw [List.replicate_succ', toldP_snoc, ih, tell_zero n h]
theorem told_append (r : Int) (s : List Int × List Int) (a b : List Int) : toldP r s (a ++ b) = toldP r (toldP r s a) b := by simp [toldP]
theorem stRes_zb (n : Nat) (h : 1 ≤ n) (r : Int) (m : Nat) (l : List Int) : stRes n r (zb m l) = zb m (stRes n r l) := by
  refine ix_ext _ _ (by rw [stRes_len, zb_len, zb_len, stRes_len]) fun k hk => ?_
  rw [stRes_len, zb_len] at hk
  rw [stRes_ix (by rw [zb_len]; exact hk)]
  by_cases hlt : k < m
  · have e1 : ix (zb m l) k = 0 := by unfold zb; rw [ix_append_left (by simpa using hlt), ix_zero]
    have e2 : ix (zb m (stRes n r l)) k = 0 := by unfold zb; rw [ix_append_left (by simpa using hlt), ix_zero]
    have e3 : (zb m l).take k = List.replicate k 0 := by unfold zb; rw [List.take_append_of_le_length (by simp; omega), List.take_replicate, Nat.min_eq_left (by omega)]
    rw [e1, e2]
    unfold gsP
    rw [e3, told_zeros n h, guessP_zero]; rfl
  · have e1 : ix (zb m l) k = ix l (k - m) := by unfold zb; rw [ix_append_right (by simp; omega)]; simp
    have e2 : ix (zb m (stRes n r l)) k = ix (stRes n r l) (k - m) := by unfold zb; rw [ix_append_right (by simp; omega)]; simp
    have e3 : (zb m l).take k = List.replicate m 0 ++ l.take (k - m) := by unfold zb; rw [List.take_append, List.take_of_length_le (by simp; omega)]; simp
    rw [e1, e2, stRes_ix (by omega)]
    unfold gsP
    rw [e3, told_append, told_zeros n h]
theorem wide_zb (m : Nat) (l : List Int) : allWideB (zb m l) = allWideB l := by
  unfold allWideB zb
  rw [List.all_append]
  have : (List.replicate m (0 : Int)).all wideB = true := by
    rw [List.all_eq_true]
    intro x hx
    rw [List.eq_of_mem_replicate hx]; decide
  rw [this, Bool.true_and]
theorem lrestTo_zb (m : Nat) : ∀ (ss : List (Int × Int)) (l : List Int), (∀ s ∈ ss, validB s.1 s.2 = true) → lrestTo (zb m l) ss = (lrestTo l ss).map (zb m)
  | [], _, _ => rfl
  | s :: ss, l, h => by
    obtain ⟨v1, _, _, _⟩ := validB_true.1 (h s (by simp))
    rw [lrestTo_cons, lrestTo_cons, stRes_zb _ (by omega), wide_zb]
    split
    · exact lrestTo_zb m ss _ fun s hs => h s (by simp [hs])
    · rfl
theorem mayB_all {ss : List (Int × Int)} (h : mayB ss = true) : ∀ s ∈ ss, validB s.1 s.2 = true := by
  simp only [mayB, Bool.and_eq_true, List.all_eq_true] at h
  exact h.2
/-- what is left of a row behind noughts. -/
theorem later_pair (m : Nat) (l : List Int) (ss : List (Int × Int)) : ((lrestP l ss).2 = 0 ∧ lrestP (zb m l) ss = (zb m (lrestP l ss).1, 0)) ∨ ((lrestP l ss).2 ≠ 0 ∧ lrestP (zb m l) ss = ([], (lrestP l ss).2)) := by
  cases hm : mayB ss with
  | false => right; rw [lrestP_bad hm, lrestP_bad hm]; exact ⟨by decide, rfl⟩
  | true =>
    cases hw : allWideB l with
    | false => right; rw [lrestP_far hm hw, lrestP_far hm (by rw [wide_zb]; exact hw)]; exact ⟨by decide, rfl⟩
    | true =>
      have hz := lrestTo_zb m ss l (mayB_all hm)
      cases ht : lrestTo l ss with
      | none => right; rw [ht] at hz; rw [lrestP_none hm hw ht, lrestP_none hm (by rw [wide_zb]; exact hw) hz]; exact ⟨by decide, rfl⟩
      | some y => left; rw [ht] at hz; rw [lrestP_some hm hw ht, lrestP_some hm (by rw [wide_zb]; exact hw) hz]; exact ⟨rfl, rfl⟩

theorem run_mk8 (n : Nat) (hn : n ≤ 255) (w : World) : (Instr.makeSlice 24 (.int .u8 (n : Int)) (.int .u8 (n : Int))).run Try.prog w = .ok (.slice (some ⟨w.heap.size, 0, none⟩) n n) (w.alloc (zobj n)) := by
  obtain ⟨i0, hi0, hz0, hz1, hz2⟩ := info_parts int_info
  have h := run_make (P := Try.prog) w 24 3 i0 _ Try.underlying24 hi0 hz0 .u8 .u8 (n : Int) (n : Int) (by omega) (Int.le_refl _) (by rw [hz2]; omega) (by omega)
  rw [hz1, Int.toNat_natCast] at h
  exact h
theorem lrest_hid {l : List Int} {ss : List (Int × Int)} {n : Nat} (hl : l.length = n) (hn : n ≤ 1000) (hs : ss.length ≤ 9223372036854775807) {y : List Int} {x : Int} (hr : lrestP l ss = (y, x)) (A B : Option Addr) (c d : Nat) (w : World) (ha : Ints .i64 w w.heap.size A l) (hb : Stgs w w.heap.size B ss) :
    Calls Try.prog 23 #[.slice A n c, .slice B ss.length d] w (LPairQ (y, x) w) := by
  subst hl
  rw [← hr]
  exact lrestL_any l ss hs (by omega) A B c d w ha hb

set_option maxHeartbeats 2000000 in
set_option maxRecDepth 100000 in
theorem later_any (l : List Int) (_hm : l.length ≤ 9223372036854775807) (A : Option Addr) (c : Nat) (ss : List (Int × Int)) (hm2 : ss.length ≤ 9223372036854775807) (A2 : Option Addr) (c2 : Nat) (_hc : ss.length ≤ c2) (n : Int) (w : World)
    (ha : Ints .i64 w w.heap.size A l) (_f1 : Fit .i64 l) (hb : Stgs w w.heap.size A2 ss) (_f2 : True) (fn : (Lit.int .u8 n).wf = true) :
    Calls Try.prog 8 #[.slice A l.length c, .slice A2 ss.length c2, .int .u8 n] w fun e w' => e = .returned (.bool true) ∧ Below w.heap.size w w' := by
  have m3 : IntKind.u8.min = 0 := by decide
  have m4 : IntKind.u8.max = 255 := by decide
  have bn : 0 ≤ n ∧ n ≤ 255 := by simpa [Lit.wf, m3, m4] using fn
  clear fn m3 m4
  obtain ⟨m, rfl⟩ := Int.eq_ofNat_of_zero_le bn.1
  have hm255 : (m : Int) ≤ 255 := bn.2
  clear bn
  by_cases q1 : 100 < l.length
  · have hI : (100 : Int) < (l.length : Int) := by omega
    go_enter Try.func8, Try.ntmps8
    go_wp2_with fail
    (with_reducible refine (known_any _).mono ?_); rintro e w1 ⟨rfl, b1⟩
    go_wp2_with fail
    go_ret
    exact ⟨rfl, b1⟩
  have q1I : (l.length : Int) ≤ 100 := by omega
  by_cases q2 : 6 < ss.length
  · have hI : (6 : Int) < (ss.length : Int) := by omega
    go_enter Try.func8, Try.ntmps8
    go_wp2_with fail
    (with_reducible refine (known_any _).mono ?_); rintro e w1 ⟨rfl, b1⟩
    go_wp2_with fail
    go_ret
    exact ⟨rfl, b1⟩
  have q2I : (ss.length : Int) ≤ 6 := by omega
  clear q1 q2
  obtain ⟨y, hy⟩ : ∃ y, y = (lrestP l ss).1 := ⟨_, rfl⟩
  obtain ⟨x, hx⟩ : ∃ x, x = (lrestP l ss).2 := ⟨_, rfl⟩
  have hP : Hid (lrestP l ss = (y, x)) := by show _ = _; rw [hy, hx]
  have hpair := later_pair m l ss
  rw [← hy, ← hx] at hpair
  have hyl : Hid (y.length ≤ l.length) := by show _ ≤ _; rw [hy]; exact lrestP_len
  have hmk := run_mk8 m (by omega)
  have hzl : Hid ((zb m l).length = m + l.length) := zb_len m l
  clear hy hx
  rcases hpair with ⟨hx0, hz⟩ | ⟨hx0, hz⟩
  · subst hx0
    have Hz := Lib.hid hz
    have s1 : eqI (zb m y) (zb m y) = true := eqI_refl _
    clear hz
    go_enter Try.func8, Try.ntmps8
    go_wp2_with fail
    (with_reducible refine (known_any _).mono ?_); rintro e w1 ⟨rfl, b1⟩
    have B1 := Lib.hid b1
    clear b1
    go_wp2_with fail
    have Bz := Lib.hid (bal B1.out (zobj m))
    have hZ : Hid (Ints .i64 (w1.alloc (zobj m)) (w1.alloc (zobj m)).heap.size (some ⟨w1.heap.size, 0, none⟩) (List.replicate m 0)) := (own_zero heap_at (by omega)).ints
    obtain ⟨gz, hgz⟩ : ∃ gz, gz = w1.heap.size := ⟨_, rfl⟩
    rw [← hgz] at hZ ⊢
    obtain ⟨W, hW⟩ : ∃ W, W = w1.alloc (zobj m) := ⟨_, rfl⟩
    rw [← hW] at hZ Bz ⊢
    clear hgz hW hmk
    (with_reducible refine (lrest_hid rfl (by omega) (by omega) hP.out _ _ _ _ _ ((ha.below Bz.out).more Bz.out.size) ((hb.below Bz.out).more Bz.out.size)).mono ?_); rintro e w3 ⟨R3, r3, rfl, hr3, b3⟩
    have B3 := Lib.hid (bth Bz.out b3)
    have hZ3 := Lib.hid ((hZ.out.below b3).more b3.size)
    have z3 := Lib.hid (own_ints hr3)
    have ha3 := Lib.hid ((ha.below B3.out).more B3.out.size)
    have hb3 := Lib.hid ((hb.below B3.out).more B3.out.size)
    have lz : Hid ((List.replicate m (0 : Int)).length = m) := List.length_replicate ..
    clear hr3 b3
    go_wp2_with (first
      | (at_builtin; refine app_z0 _ rfl (.tmp 31) (.tmp 32) rfl w3 _ _ rfl (own_emptyZ w3) _ _ m _ (List.replicate m 0) rfl lz.out (hZ3.out.below (bal (brefl w3) _)) (by omega) (bal (brefl w3) _) ?_; intro A4 c4 w4 ho4 hb4)
      | (at_builtin; refine app_z _ rfl (.tmp 33) (.tmp 34) rfl w3 _ _ _ _ rfl ho4 _ _ l.length _ l rfl rfl (ha3.out.below hb4) (by omega) hb4 ?_; intro A5 c5 w5 ho5 hb5))
    have z5 := Lib.hid ho5.ints
    have B5 := Lib.hid (bth B3.out hb5)
    have z3 := Lib.hid ((z3.out.below hb5).more hb5.size)
    have hZ5 := Lib.hid ((hZ3.out.below hb5).more hb5.size)
    have hb5' := Lib.hid ((hb.below B5.out).more B5.out.size)
    clear ho4 hb4 ho5 hb5
    (with_reducible refine (lrest_hid hzl.out (by omega) (by omega) Hz.out _ _ _ _ _ z5.out hb5'.out).mono ?_); rintro e w6 ⟨R6, r6, rfl, hr6, b6⟩
    have B6 := Lib.hid (bth B5.out b6)
    have z6 := Lib.hid (own_ints hr6)
    have z3 := Lib.hid ((z3.out.below b6).more b6.size)
    have hZ6 := Lib.hid ((hZ5.out.below b6).more b6.size)
    clear hr6 b6
    have hly : Hid ((zb m y).length = m + y.length) := zb_len m y
    have hyl2 : Hid (y.length ≤ 100) := by have := hyl.out; show _ ≤ _; omega
    rw [show (zb m y, (0 : Int)).1.length = m + y.length from hly.out]
    go_wp2_with (first
      | (at_builtin; refine app_zw0 _ (by simp [Region.wanted, yielded]) (.tmp 54) (.tmp 55) rfl w6 _ _ rfl (own_emptyZ w6) _ _ m _ (List.replicate m 0) rfl lz.out (hZ6.out.below (bal (brefl w6) _)) (by omega) (bal (brefl w6) _) ?_; intro A7 c7 w7 ho7 hb7)
      | (at_builtin; refine app_zw _ (by simp [Region.wanted, yielded]) (.tmp 56) (.tmp 57) rfl w6 _ _ _ _ rfl ho7 _ _ y.length _ y rfl rfl (z3.out.below hb7) (by have := hyl2.out; omega) hb7 ?_; intro A8 c8 w8 ho8 hb8))
    have z8 := Lib.hid ho8.ints
    have z6 := Lib.hid ((z6.out.below hb8).more hb8.size)
    have B8 := Lib.hid (bth B6.out hb8)
    clear ho7 hb7 ho8 hb8
    (with_reducible refine (same_q (zb m y) (zb m y) _ _ hly.out.symm hly.out.symm (by have := hyl2.out; omega) (by have := hyl2.out; omega) _ _ _ _ _ _ _ z6.out z8.out).mono ?_); rintro e w9 ⟨rfl, b9⟩
    rw [s1]
    have B9 := Lib.hid (bth B8.out b9)
    clear b9
    go_wp2_with fail
    go_ret
    exact ⟨rfl, B9.out⟩
  · have Hz := Lib.hid hz
    have hxb : (x != 0) = true := by simpa using hx0
    clear hz hx0
    go_enter Try.func8, Try.ntmps8
    go_wp2_with fail
    (with_reducible refine (known_any _).mono ?_); rintro e w1 ⟨rfl, b1⟩
    have B1 := Lib.hid b1
    clear b1
    go_wp2_with fail
    have Bz := Lib.hid (bal B1.out (zobj m))
    have hZ : Hid (Ints .i64 (w1.alloc (zobj m)) (w1.alloc (zobj m)).heap.size (some ⟨w1.heap.size, 0, none⟩) (List.replicate m 0)) := (own_zero heap_at (by omega)).ints
    obtain ⟨gz, hgz⟩ : ∃ gz, gz = w1.heap.size := ⟨_, rfl⟩
    rw [← hgz] at hZ ⊢
    obtain ⟨W, hW⟩ : ∃ W, W = w1.alloc (zobj m) := ⟨_, rfl⟩
    rw [← hW] at hZ Bz ⊢
    clear hgz hW hmk
    (with_reducible refine (lrest_hid rfl (by omega) (by omega) hP.out _ _ _ _ _ ((ha.below Bz.out).more Bz.out.size) ((hb.below Bz.out).more Bz.out.size)).mono ?_); rintro e w3 ⟨R3, r3, rfl, hr3, b3⟩
    have B3 := Lib.hid (bth Bz.out b3)
    have hZ3 := Lib.hid ((hZ.out.below b3).more b3.size)
    have z3 := Lib.hid (own_ints hr3)
    have ha3 := Lib.hid ((ha.below B3.out).more B3.out.size)
    have hb3 := Lib.hid ((hb.below B3.out).more B3.out.size)
    have lz : Hid ((List.replicate m (0 : Int)).length = m) := List.length_replicate ..
    clear hr3 b3
    go_wp2_with (first
      | (at_builtin; refine app_z0 _ rfl (.tmp 31) (.tmp 32) rfl w3 _ _ rfl (own_emptyZ w3) _ _ m _ (List.replicate m 0) rfl lz.out (hZ3.out.below (bal (brefl w3) _)) (by omega) (bal (brefl w3) _) ?_; intro A4 c4 w4 ho4 hb4)
      | (at_builtin; refine app_z _ rfl (.tmp 33) (.tmp 34) rfl w3 _ _ _ _ rfl ho4 _ _ l.length _ l rfl rfl (ha3.out.below hb4) (by omega) hb4 ?_; intro A5 c5 w5 ho5 hb5))
    have z5 := Lib.hid ho5.ints
    have B5 := Lib.hid (bth B3.out hb5)
    have z3 := Lib.hid ((z3.out.below hb5).more hb5.size)
    have hZ5 := Lib.hid ((hZ3.out.below hb5).more hb5.size)
    have hb5' := Lib.hid ((hb.below B5.out).more B5.out.size)
    clear ho4 hb4 ho5 hb5
    (with_reducible refine (lrest_hid hzl.out (by omega) (by omega) Hz.out _ _ _ _ _ z5.out hb5'.out).mono ?_); rintro e w6 ⟨R6, r6, rfl, hr6, b6⟩
    have B6 := Lib.hid (bth B5.out b6)
    have z6 := Lib.hid (own_ints hr6)
    have z3 := Lib.hid ((z3.out.below b6).more b6.size)
    have hZ6 := Lib.hid ((hZ5.out.below b6).more b6.size)
    clear hr6 b6
    go_wp2_with fail
    go_ret
    exact ⟨rfl, B6.out⟩
end Go.Proofs.Ytjhmmbejpdibhaa
