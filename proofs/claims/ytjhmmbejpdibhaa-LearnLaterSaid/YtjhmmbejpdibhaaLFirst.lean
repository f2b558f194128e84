/-
  LearnFirst: the walk of the law.
-/
import Derived.Test.YtjhmmbejpdibhaaProg
import Derived.Test.YtjhmmbejpdibhaaLStages
namespace Go.Proofs.Ytjhmmbejpdibhaa
open Go.RowKit

theorem dotTo_zero (n : Nat) (k : Nat) : dotTo (List.replicate n 0) (List.replicate n 0) k = 0 := by
  induction k with
  | zero => rfl
  | succ k ih =>
    have h : ix (List.replicate n (0 : Int)) k = 0 := by
      by_cases hk : k < n
      · simp [ix, hk]
      · simp [ix, hk]
    rw [dotTo, ih, h, show (0 : Int) * 0 = 0 from rfl, IntWalk.wrap64_in 0 (by omega), show (0 : Int) + 0 = 0 from rfl, IntWalk.wrap64_in 0 (by omega)]
theorem guessP_zero (n : Nat) : guessP (zeroF n).1 (zeroF n).2 = 0 := by
  unfold guessP zeroF
  rw [dotTo_zero]
  decide
theorem gsP_zero (n : Nat) (r : Int) (xs : List Int) : gsP n r xs 0 = 0 := guessP_zero n

theorem first_long (l : List Int) (hl : 120 < l.length) (hm : l.length ≤ 9223372036854775807) (A : Option Addr) (c : Nat) (a b : Int) (w : World) :
    Calls Try.prog 7 #[.slice A l.length c, .agg #[.int .i64 a, .int .i64 b]] w fun e w' => e = .returned (.bool true) ∧ Below w.heap.size w w' := by
  have hI : (120 : Int) < (l.length : Int) := by omega
  go_enter Try.func7, Try.ntmps7
  go_wp2_with fail
  (with_reducible refine (known_any _).mono ?_); rintro e w1 ⟨rfl, b1⟩
  have B1 := bth (bal (brefl w) _) b1
  go_wp2_with fail
  go_ret
  exact ⟨rfl, B1⟩
theorem first_none (A : Option Addr) (c : Nat) (a b : Int) (w : World) :
    Calls Try.prog 7 #[.slice A 0 c, .agg #[.int .i64 a, .int .i64 b]] w fun e w' => e = .returned (.bool true) ∧ Below w.heap.size w w' := by
  go_enter Try.func7, Try.ntmps7
  go_wp2_with fail
  (with_reducible refine (known_any _).mono ?_); rintro e w1 ⟨rfl, b1⟩
  have B1 := bth (bal (brefl w) _) b1
  go_wp2_with fail
  go_ret
  exact ⟨rfl, B1⟩
theorem first_bad (l : List Int) (hl : l.length ≤ 120) (h0 : 0 < l.length) (A : Option Addr) (c : Nat) (a b : Int) (hv : validB a b = false) (w : World) :
    Calls Try.prog 7 #[.slice A l.length c, .agg #[.int .i64 a, .int .i64 b]] w fun e w' => e = .returned (.bool true) ∧ Below w.heap.size w w' := by
  have hI : (l.length : Int) ≤ 120 := by omega
  have hz : ((l.length : Int) == 0) = false := beq_eq_false_iff_ne.2 (by omega)
  have Hv := Lib.hid hv
  clear hv
  go_enter Try.func7, Try.ntmps7
  go_wp2_with fail
  (with_reducible refine (known_any _).mono ?_); rintro e w1 ⟨rfl, b1⟩
  have B1 := bth (bal (brefl w) _) b1
  have x0 : w1.cell? ⟨w.heap.size, 0, none⟩ = some (.int .i64 a) := later b1 (by simp [World.cell?_alloc_new])
  have x1 : w1.cell? ⟨w.heap.size, 1, none⟩ = some (.int .i64 b) := later b1 (by simp [World.cell?_alloc_new])
  clear b1
  go_wp2_with fail
  (with_reducible refine (stageMay_any _ _ _).mono ?_); rintro e w2 ⟨rfl, b2⟩
  rw [Hv.out]
  go_wp2_with fail
  go_ret
  exact ⟨rfl, bth B1 b2⟩

theorem stg_one (w : World) (o r : Int) : Stgs (w.alloc (.cells #[.int .i64 o, .int .i64 r] 23)) (w.alloc (.cells #[.int .i64 o, .int .i64 r] 23)).heap.size (some ⟨w.heap.size, 0, none⟩) [(o, r)] := fun _ => by
  refine ⟨w.heap.size, 0, rfl, by simp, fun i hi => ?_⟩
  have : i = 0 := by simpa using hi
  subst this
  exact ⟨by simp [World.cell?_alloc_new, sto], by simp [World.cell?_alloc_new, str]⟩
theorem mayB_one {o r : Int} (hv : validB o r = true) : mayB [(o, r)] = true := mayB_true.2 ⟨by simp, fun k hk => by
  have : k = 0 := by simpa using hk
  subst this
  exact hv⟩
theorem restL_one (o r : Int) (l : List Int) (hl : l.length ≤ 120) (A : Option Addr) (c b : Nat) (w : World) (ha : Ints .i64 w w.heap.size A l) (hs : Stgs w w.heap.size (some ⟨b, 0, none⟩) [(o, r)]) :
    Calls Try.prog 23 #[.slice A l.length c, .slice (some ⟨b, 0, none⟩) 1 1] w (LPairQ (lrestP l [(o, r)]) w) :=
  lrestL_any l [(o, r)] (by simp) (by omega) A _ c 1 w ha hs

set_option maxHeartbeats 1000000 in
theorem first_err (n : Nat) (r : Int) (h1 : 1 ≤ n) (h2 : n ≤ 32) (h3 : 0 ≤ r) (h4 : r ≤ 8) (l : List Int) (hl : l.length ≤ 120) (h0 : 0 < l.length) (hcase : lrestP l [((n : Int), r)] = ([], 6)) (A : Option Addr) (c : Nat) (w : World) (ha : Ints .i64 w w.heap.size A l) :
    Calls Try.prog 7 #[.slice A l.length c, .agg #[.int .i64 (n : Int), .int .i64 r]] w fun e w' => e = .returned (.bool true) ∧ Below w.heap.size w w' := by
  have hI : (l.length : Int) ≤ 120 := by omega
  have hz : ((l.length : Int) == 0) = false := beq_eq_false_iff_ne.2 (by omega)
  have hv := Lib.hid (validB_true (o := (n : Int)) (r := r) |>.2 ⟨by omega, by omega, h3, h4⟩)
  have Hc := Lib.hid hcase
  clear hcase
  go_enter Try.func7, Try.ntmps7
  go_wp2_with fail
  (with_reducible refine (known_any _).mono ?_); rintro e w1 ⟨rfl, b1⟩
  have B1 := bth (bal (brefl w) _) b1
  have x0 : w1.cell? ⟨w.heap.size, 0, none⟩ = some (.int .i64 (n : Int)) := later b1 (by simp [World.cell?_alloc_new])
  have x1 : w1.cell? ⟨w.heap.size, 1, none⟩ = some (.int .i64 r) := later b1 (by simp [World.cell?_alloc_new])
  clear b1
  go_wp2_with fail
  (with_reducible refine (stageMay_any _ _ _).mono ?_); rintro e w2 ⟨rfl, b2⟩
  rw [hv.out]
  have B2 := bth B1 b2
  have x0 := later b2 x0
  have x1 := later b2 x1
  clear b2
  go_wp2_with fail
  (with_reducible refine (restL_one _ _ l hl _ _ _ _ ((ha.below (bal B2 _)).more (bal B2 _).size) (stg_one _ _ _)).mono ?_); rintro e w3 ⟨R, rc, rfl, ho, b3⟩
  rw [Hc.out] at ho ⊢
  have B3 := bth (bal B2 _) b3
  clear ho b3
  go_wp2_with fail
  go_ret
  exact ⟨rfl, B3⟩

set_option maxHeartbeats 2000000 in
theorem first_ok (n : Nat) (r : Int) (h1 : 1 ≤ n) (h2 : n ≤ 32) (h3 : 0 ≤ r) (h4 : r ≤ 8) (l ys : List Int) (hl : l.length ≤ 120) (h0 : 0 < l.length) (hw : allWideB l = true) (hys : ys = stRes n r l) (hcase : lrestP l [((n : Int), r)] = (ys, 0)) (A : Option Addr) (c : Nat) (w : World) (ha : Ints .i64 w w.heap.size A l) :
    Calls Try.prog 7 #[.slice A l.length c, .agg #[.int .i64 (n : Int), .int .i64 r]] w fun e w' => e = .returned (.bool true) ∧ Below w.heap.size w w' := by
  have hI : (l.length : Int) ≤ 120 := by omega
  have hz : ((l.length : Int) == 0) = false := beq_eq_false_iff_ne.2 (by omega)
  have hv := Lib.hid (validB_true (o := (n : Int)) (r := r) |>.2 ⟨by omega, by omega, h3, h4⟩)
  have Hc := Lib.hid hcase
  have Hw := Lib.hid hw
  have hyl : Hid (ys.length = l.length) := by show _ = _; rw [hys, stRes_len]
  have hyk : Hid (∀ k, k < l.length → ix ys k = ix l k - guessP (toldP r (zeroF n) (l.take k)).1 (toldP r (zeroF n) (l.take k)).2) := by
    show ∀ k, _
    intro k hk
    rw [hys, stRes_ix hk]; rfl
  have hy0 : Hid (ix ys 0 = ix l 0) := by show _ = _; rw [hys, stRes_ix h0, gsP_zero]; omega
  clear hcase hw hys
  go_enter Try.func7, Try.ntmps7
  go_wp2_with fail
  (with_reducible refine (known_any _).mono ?_); rintro e w1 ⟨rfl, b1⟩
  have B1 := bth (bal (brefl w) _) b1
  have x0 : w1.cell? ⟨w.heap.size, 0, none⟩ = some (.int .i64 (n : Int)) := later b1 (by simp [World.cell?_alloc_new])
  have x1 : w1.cell? ⟨w.heap.size, 1, none⟩ = some (.int .i64 r) := later b1 (by simp [World.cell?_alloc_new])
  clear b1
  go_wp2_with fail
  (with_reducible refine (stageMay_any _ _ _).mono ?_); rintro e w2 ⟨rfl, b2⟩
  rw [hv.out]
  have B2 := bth B1 b2
  have x0 := later b2 x0
  have x1 := later b2 x1
  clear b2
  go_wp2_with fail
  (with_reducible refine (restL_one _ _ l hl _ _ _ _ ((ha.below (bal B2 _)).more (bal B2 _).size) (stg_one _ _ _)).mono ?_); rintro e w3 ⟨R, rc, rfl, ho, b3⟩
  rw [Hc.out] at ho ⊢
  have x0 := later (bth (bal (brefl w2) _) b3) x0
  have x1 := later (bth (bal (brefl w2) _) b3) x1
  have B3 := bth (bal B2 _) b3
  have z3 := Lib.hid (own_ints ho)
  obtain ⟨g, rfl, _, hg3⟩ := own_addr ho (by show 0 < ys.length; have := hyl.out; omega)
  clear ho b3
  go_wp2_with fail
  (with_reducible refine (newL_yes n r h1 h2 h3 h4 _).mono ?_); rintro e w4 ⟨bf, bwf, bsf, rfl, F, f1, f2, f3, b4⟩
  have B4 := Lib.hid (bth B3 b4)
  have F' := Lib.hid F
  have hS : Hid (∀ q, (q = bf ∨ q = bwf ∨ q = bsf) → w3.heap.size ≤ q) := fun q hq => by rcases hq with rfl | rfl | rfl <;> assumption
  have hb4 := Lib.hid b4
  have z4 := Lib.hid (z3.out.below b4)
  have hal4 := Lib.hid (ha.below B4.out)
  clear F f1 f2 f3 b4
  have hy0' := (Lib.hid (z4.out.at_ (i := 0) (by show 0 < ys.length; have := hyl.out; omega)))
  obtain ⟨bl, ol, rfl, hcl⟩ := hal4.out.at_ h0
  obtain ⟨gy, oy, ey, hcy⟩ := hy0'.out
  simp only [Option.some.injEq, Addr.mk.injEq, and_true] at ey
  obtain ⟨rfl, rfl⟩ := ey
  rw [hy0.out] at hcy
  simp only [Nat.add_zero] at hcl hcy
  rw [show (ys, (0 : Int)).1.length = l.length from hyl.out]
  have hne : ((l.length : Int) != (l.length : Int)) = false := by simp
  go_wp2_with fail
  go_quiet (fail)
  go_wp2_with fail
  clear hcl hcy x0 x1
  go_loopw [9] (fun iv wr => (∃ k : Nat, k ≤ l.length ∧ iv = .int .i64 k ∧ FiltL wr bf bwf n bsf n r (toldP r (zeroF n) (l.take k)).1 (toldP r (zeroF n) (l.take k)).2) ∧ Below w3.heap.size w3 wr) (fun iv _ => l.length - (intOf iv).toNat)
  case atStart => exact ⟨⟨0, Nat.zero_le _, rfl, F'.out.drewN _⟩, below_drewN hb4.out _⟩
  case round =>
    obtain ⟨⟨k, hk, rfl, hF⟩, hb⟩ := hrel
    have hF' := Lib.hid hF
    have hb' := Lib.hid hb
    clear hF hb
    by_cases hlt : k < l.length
    · obtain ⟨gy, oy, ey, hcy⟩ := (z3.out.below hb'.out).at_ (i := k) (by show k < ys.length; have := hyl.out; omega)
      simp only [Option.some.injEq, Addr.mk.injEq, and_true] at ey
      obtain ⟨rfl, rfl⟩ := ey
      obtain ⟨gl, ol', el, hcl⟩ := (ha.below (B3.trans (hb'.out.mono B3.size))).at_ hlt
      simp only [Option.some.injEq, Addr.mk.injEq, and_true] at el
      obtain ⟨rfl, rfl⟩ := el
      rw [hyk.out k hlt] at hcy
      simp only [Nat.zero_add] at hcy
      obtain ⟨hg1, hg2⟩ := gsP_wide n r l k
      obtain ⟨hx1, hx2⟩ := wideB_true.1 (allWideB_true.1 Hw.out k hlt)
      obtain ⟨gv, hgv⟩ : ∃ gv, gv = guessP (toldP r (zeroF n) (l.take k)).1 (toldP r (zeroF n) (l.take k)).2 := ⟨_, rfl⟩
      have Hgv := Lib.hid hgv
      rw [show gsP n r l k = gv from hgv.symm] at hg1 hg2
      rw [← hgv] at hcy
      clear hgv
      have hgs : ∀ w', FiltL w' bf bwf n bsf n r (toldP r (zeroF n) (l.take k)).1 (toldP r (zeroF n) (l.take k)).2 → Calls Try.prog 16 #[.pointer (some ⟨bf, 0, none⟩)] w' fun e w'' => e = .returned (.int .i64 gv) ∧ w'' = w' := fun w' h => by
        rw [Hgv.out]; exact (guessL_any h).mono fun _ _ ⟨h1, h2⟩ => ⟨h1, h2.symm⟩
      have Hgs := Lib.hid hgs
      clear hgs
      go_wp2_with fail
      have t1 := IntWalk.i64_in (ix l k - gv) (by omega)
      have t2 : (0 : Int) ≤ (k : Int) := by omega
      have t3 : (k : Int) < (l.length : Int) := by omega
      go_quiet ((go_at_call 16; exact Calls.quiet_of_same (Hgs.out _ (hF'.out.drewN _))))
      clear t1
      go_wp2_with fail
      (with_reducible refine (tellL_q (hF'.out.drewN _) _).mono ?_); rintro e w5 ⟨rfl, hF5, k5⟩
      have hF5' := Lib.hid hF5
      have hb5 := Lib.hid ((below_drewN hb'.out _).trans (k5.below (B := w3.heap.size) (fun q hq => hS.out q hq) hb'.out.size))
      clear hF5 k5
      have hts := Lib.hid (take_succ_ix hlt)
      have hsn := Lib.hid (toldP_snoc r (zeroF n) (l.take k) (ix l k))
      go_wp2_with fail
      go_roundw
      case rel =>
        refine ⟨⟨k + 1, by omega, by go_num, ?_⟩, hb5.out⟩
        rw [hts.out, hsn.out]
        exact hF5'.out
      case measure => simp [intOf]; omega
    · have e : k = l.length := by omega
      subst e
      go_wp2_with fail
      go_ret
      exact ⟨rfl, bth B3 hb'.out⟩

theorem first_valid (n : Nat) (r : Int) (h1 : 1 ≤ n) (h2 : n ≤ 32) (h3 : 0 ≤ r) (h4 : r ≤ 8) (l : List Int) (hl : l.length ≤ 120) (h0 : 0 < l.length) (A : Option Addr) (c : Nat) (w : World) (ha : Ints .i64 w w.heap.size A l) :
    Calls Try.prog 7 #[.slice A l.length c, .agg #[.int .i64 (n : Int), .int .i64 r]] w fun e w' => e = .returned (.bool true) ∧ Below w.heap.size w w' := by
  have hv := validB_true (o := (n : Int)) (r := r) |>.2 ⟨by omega, by omega, h3, h4⟩
  cases hw : allWideB l with
  | false => exact first_err n r h1 h2 h3 h4 l hl h0 (lrestP_far (mayB_one hv) hw) A c w ha
  | true =>
    have ho := lrestP_one hw hv
    rw [Int.toNat_natCast] at ho
    cases hy : allWideB (stRes n r l) with
    | false => rw [if_neg (by simp [hy])] at ho; exact first_err n r h1 h2 h3 h4 l hl h0 ho A c w ha
    | true => rw [if_pos hy] at ho; exact first_ok n r h1 h2 h3 h4 l _ hl h0 hw rfl ho A c w ha

theorem first_any (l : List Int) (hm : l.length ≤ 9223372036854775807) (A : Option Addr) (c : Nat) (a b : Int) (w : World) (ha : Ints .i64 w w.heap.size A l) (_f : Fit .i64 l) :
    Calls Try.prog 7 #[.slice A l.length c, .agg #[.int .i64 a, .int .i64 b]] w fun e w' => e = .returned (.bool true) ∧ Below w.heap.size w w' := by
  by_cases q1 : 120 < l.length
  · exact first_long l q1 hm A c a b w
  · by_cases q2 : l.length = 0
    · rw [q2]; exact first_none A c a b w
    · cases hv : validB a b with
      | false => exact first_bad l (by omega) (by omega) A c a b hv w
      | true =>
        obtain ⟨v1, v2, v3, v4⟩ := validB_true.1 hv
        obtain ⟨n, rfl⟩ : ∃ n : Nat, a = (n : Int) := ⟨a.toNat, by omega⟩
        exact first_valid n b (by omega) (by omega) v3 v4 l (by omega) (by omega) A c w ha
end Go.Proofs.Ytjhmmbejpdibhaa
