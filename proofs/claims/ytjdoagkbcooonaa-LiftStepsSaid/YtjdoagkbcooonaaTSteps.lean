/-
  The walk of LiftSteps.
-/
import Derived.Test.YtjdoagkbcooonaaProg
import Derived.Test.YtjdoagkbcooonaaTBack
import Derived.Test.YtjdoagkbcooonaaTL
namespace Go.Proofs.Ytjdoagkbcooonaa
open Go.RowKit

theorem liftB_app {a b : List Lft} {ch : Int} (ha : liftB a ch = true) (hb : liftB b ch = true) (h : a.length + b.length ≤ 16) : liftB (a ++ b) ch = true := by
  simp only [liftB, Bool.and_eq_true, decide_eq_true_eq, List.all_append, List.length_append] at ha hb ⊢
  exact ⟨⟨ha.1.1, h⟩, ha.2, hb.2⟩
theorem doP_app {R Y : Nat → List Int} {r : Nat} {a b : List Lft} (h : doP 1 R r a = .ok Y) (hb : liftB b (r : Int) = true) (hl : a.length + b.length ≤ 16) : doP 1 R r (a ++ b) = doP 1 Y r b := by
  obtain ⟨hrow, ha, hgo⟩ := doP_okc h
  have hrow2 : rowsB Y r = true := (doP_okc (doP_back (.inl rfl) h)).1
  have hab := liftB_app ha hb hl
  have hgo' : goL 1 R a = some Y := hgo
  have e : goL 1 R (a ++ b) = goL 1 Y b := by rw [goL_app, hgo']; rfl
  cases h2 : goL 1 Y b with
  | none => rw [doP_none hrow hab (show goL 1 R (a ++ b) = none by rw [e, h2]), doP_none hrow2 hb h2]
  | some Z => rw [doP_some hrow hab (show goL 1 R (a ++ b) = some Z by rw [e, h2]), doP_some hrow2 hb h2]
theorem doP_app_err {R : Nat → List Int} {r : Nat} {a b : List Lft} (hrow : rowsB R r = true) (ha : liftB a (r : Int) = true) (h : doP 1 R r a = .error 6) (hb : liftB b (r : Int) = true) (hl : a.length + b.length ≤ 16) : doP 1 R r (a ++ b) = .error 6 := by
  have hab := liftB_app ha hb hl
  have hgo : goL 1 R a = none := by
    cases h2 : goL 1 R a with
    | none => rfl
    | some Z => rw [doP_some hrow ha (show goL 1 R a = some Z from h2)] at h; cases h
  exact doP_none hrow hab (show goL 1 R (a ++ b) = none by rw [goL_app, hgo]; rfl)

set_option maxHeartbeats 4000000 in
theorem steps_any (A : Option Addr) (c r : Nat) (RA : Nat → Option Addr) (RC : Nat → Nat) (R : Nat → List Int) (hr : r ≤ 9223372036854775807) (la : List Lft) (hma : la.length ≤ 9223372036854775807) (B : Option Addr) (d : Nat) (lb : List Lft) (hmb : lb.length ≤ 9223372036854775807) (B2 : Option Addr) (d2 : Nat) (w : World) (h : Rw w w.heap.size A r RA RC R) (hs : Lfts w w.heap.size B la) (hs2 : Lfts w w.heap.size B2 lb) :
    Calls Try.prog 5 #[.slice A r c, .slice B la.length d, .slice B2 lb.length d2] w fun e w' => e = .returned (.bool true) ∧ Below w.heap.size w w' := by
  obtain ⟨sw, hsw⟩ : ∃ sw, sw = IntKind.i64.wrap ((la.length : Int) + (lb.length : Int)) := ⟨_, rfl⟩
  have Hsw := Lib.hid hsw
  have tsw := hsw.symm
  have Tsw := Lib.hid tsw
  clear hsw tsw
  go_enter Try.func5, Try.ntmps5
  go_wp2_with fail
  (with_reducible refine (known_any _).mono ?_); rintro e w1 ⟨rfl, b1⟩
  go_wp2_with fail
  (with_reducible refine (small_any R r hr RA RC _ _ _ _ _ hma _ _ ((h.below b1).more b1.size)).mono ?_); rintro e w2 ⟨rfl, b2⟩
  have B3 := bth b1 b2
  clear b1 b2
  cases hsm : (smallB R r 200 && decide (la.length ≤ 20)) with
  | false =>
    go_wp2_with fail
    go_ret
    exact ⟨rfl, B3⟩
  | true =>
    have hsm' : smallB R r 200 = true ∧ la.length ≤ 20 := by simpa using hsm
    obtain ⟨h12, hlen⟩ := smallB_true.1 hsm'.1
    have h20 := hsm'.2
    have HR : Hid (∀ i, i < r → (R i).length ≤ 100000) := fun i hi => by have := hlen i hi; omega
    have m200 : 0 < r → (R 0).length ≤ 200 := fun h0 => by have := hlen 0 h0; omega
    clear hsm hsm' hlen
    have tsw := Tsw.out
    by_cases h16 : 16 < sw
    · go_wp2_with fail
      go_ret
      exact ⟨rfl, B3⟩
    go_wp2_with fail
    clear tsw
    (with_reducible refine (fits_any R r (by omega) HR.out RA RC la _ rfl hma _ _ _ _ _ ((h.below B3).more B3.size) ((hs.below B3).more B3.size)).mono ?_); rintro e w3 ⟨rfl, b3⟩
    have B4 := bth B3 b3
    clear b3 B3
    cases hf : (rowsB R r && liftB la (r : Int)) with
    | false =>
      go_wp2_with fail
      go_ret
      exact ⟨rfl, B4⟩
    | true =>
    go_wp2_with fail
    (with_reducible refine (fits_any R r (by omega) HR.out RA RC lb _ rfl hmb _ _ _ _ _ ((h.below B4).more B4.size) ((hs2.below B4).more B4.size)).mono ?_); rintro e w4 ⟨rfl, b4⟩
    have B5 := bth B4 b4
    clear b4 B4
    cases hf2 : (rowsB R r && liftB lb (r : Int)) with
    | false =>
      go_wp2_with fail
      go_ret
      exact ⟨rfl, B5⟩
    | true =>
    have hf' : rowsB R r = true ∧ liftB la (r : Int) = true := by simpa using hf
    have hf2' : rowsB R r = true ∧ liftB lb (r : Int) = true := by simpa using hf2
    have Hrow := Lib.hid hf'.1
    have Hla := Lib.hid hf'.2
    have Hlb := Lib.hid hf2'.2
    have r1 := (rowsB_true.1 hf'.1).1
    have r8 := (rowsB_true.1 hf'.1).2.1
    have ml := m200 (by omega)
    have l16 := (liftB_true.1 hf'.2).2.2.1
    have l16b := (liftB_true.1 hf2'.2).2.2.1
    have hsum : la.length + lb.length ≤ 16 := by
      have e : IntKind.i64.wrap ((la.length : Int) + (lb.length : Int)) = (la.length : Int) + (lb.length : Int) := IntWalk.i64_in _ (by omega)
      have := Hsw.out
      rw [e] at this
      omega
    clear hf hf' hf2 hf2' m200 Hsw Tsw
    have hs5 := B5.size
    go_wp2_with (first
      | (at_builtin; refine app_l _ rfl (.tmp 41) (.tmp 42) rfl w4.heap.size _ 0 0 [] rfl (own_empty w4 _ _) w.heap.size B la.length d la rfl rfl (hs.below (B5.alloc B5.size _)) (by omega) (by simp) ?_; intro A6 k6 w6 ho6 hg6 hat6; rw [Nat.zero_add, List.nil_append] at ho6)
      | (at_builtin; refine app_l _ rfl (.tmp 43) (.tmp 44) rfl w4.heap.size _ _ _ _ rfl ho6 w.heap.size B2 lb.length d2 lb rfl rfl (hs2.below ((B5.alloc B5.size _).grown hg6 (by simp; omega) fun q hq => by have := (World.ownsRow.lt (own_empty w4 52 3) q hq).1; omega)) (by omega) (by have := hg6.size; simp at this; omega) ?_; intro A7 k7 w7 ho7 hg7 hat7))
    have hl7 := own_lfts ho7
    have b6 : Below w4.heap.size w4 w6 := (bal (brefl w4) (.cells #[] 52)).grown hg6 (by simp) fun q hq => by have := (World.ownsRow.lt (own_empty w4 52 3) q hq).1; omega
    have b7 : Below w4.heap.size w4 w7 := b6.grown hg7 b6.size fun q hq => (World.ownsRow.lt ho6 q hq).1
    have B7 := bth B5 b7
    have hlen7 : la.length + lb.length = (la ++ lb).length := by simp
    clear ho7 ho6 hg6 hg7 hat6 hat7 b6 b7 B5
    (with_reducible refine (doL_any R r (by omega) HR.out RA RC (la ++ lb) _ hlen7 (by omega) _ _ _ _ _ ((h.below B7).more B7.size) hl7).mono ?_); rintro e w8 hd8
    clear hl7 hlen7
    rcases doP_two (sg := 1) Hrow.out Hla.out with hx | ⟨Y, hx⟩
    · obtain ⟨rfl, b8⟩ := do_elim_err hd8 (doP_app_err Hrow.out Hla.out hx Hlb.out hsum)
      have B8 := bth B7 b8
      have Hx := Lib.hid hx
      clear hd8 hx b8 B7
      go_wp2_with fail
      (with_reducible refine (doL_any R r (by omega) HR.out RA RC la _ rfl hma _ _ _ _ _ ((h.below B8).more B8.size) ((hs.below B8).more B8.size)).mono ?_); rintro e w9 hd9
      obtain ⟨rfl, b9⟩ := do_elim_err hd9 Hx.out
      clear hd9
      go_wp2_with fail
      go_ret
      exact ⟨rfl, bth B8 b9⟩
    · obtain ⟨xx, hxx⟩ : ∃ xx, xx = doP 1 Y r lb := ⟨_, rfl⟩
      rw [doP_app hx Hlb.out hsum, ← hxx] at hd8
      have Hxx := Lib.hid hxx
      obtain ⟨⟨A8, k8, RA8, RC8, rfl, ho8⟩, b8⟩ := do_form hd8
      have B8 := bth B7 b8
      have Hx := Lib.hid hx
      have hly := Lib.hid (doP_len hx)
      clear hd8 hx b8 B7 hxx
      go_wp2_with fail
      (with_reducible refine (doL_any R r (by omega) HR.out RA RC la _ rfl hma _ _ _ _ _ ((h.below B8).more B8.size) ((hs.below B8).more B8.size)).mono ?_); rintro e w9 hd9
      obtain ⟨⟨A9, k9, RA9, RC9, rfl, ho9⟩, b9⟩ := do_elim hd9 Hx.out
      have B9 := bth B8 b9
      have p8 := Lib.hid (ho8.below b9 (Nat.le_refl _))
      clear hd9 b9 B8 ho8
      go_wp2_with fail
      (with_reducible refine (doL_any Y r (by omega) (fun i hi => by rw [hly.out i hi]; omega) RA9 RC9 lb _ rfl hmb _ _ _ _ _ (ho9.rw (by omega)) ((hs2.below B9).more B9.size)).mono ?_); rintro e w10 hd10
      rw [← Hxx.out] at hd10
      obtain ⟨⟨A10, k10, RA10, RC10, rfl, ho10⟩, b10⟩ := do_form hd10
      have B10 := bth B9 b10
      have q8 := Lib.hid (p8.out.below b10 (Nat.le_refl _))
      have m9 := hly.out 0 (by omega)
      have n1 := resN_le xx r
      have e1 : (resC xx == resC xx) = true := by simp
      have g8 : Rw w10 w10.heap.size A8 (resN xx r) RA8 RC8 (resQ xx) := ownM_rw q8.out fun h0 => by omega
      have g10 : Rw w10 w10.heap.size A10 (resN xx r) RA10 RC10 (resQ xx) := ownM_rw ho10 fun h0 => by omega
      have hl1 : Hid (∀ i, i < resN xx r → (resQ xx i).length ≤ 100000) := fun i hi => by rw [q8.out.len hi]; omega
      obtain ⟨nx, hnx⟩ : ∃ nx, nx = resN xx r := ⟨_, rfl⟩
      obtain ⟨cx, hcx⟩ : ∃ cx, cx = resC xx := ⟨_, rfl⟩
      rw [← hnx] at n1 hl1 g8 g10 ⊢
      rw [← hcx] at e1 ⊢
      clear hd10 b10 B9 p8 q8 ho9 ho10 m9 hnx hcx
      go_wp2_with fail
      (with_reducible refine (sameRows_any (resQ xx) nx (by omega) hl1.out _ _ _ _ _ _ _ _ _ _ _ g8 g10).mono ?_); rintro e w11 ⟨rfl, b11⟩
      go_wp2_with fail
      go_ret
      exact ⟨rfl, bth B10 b11⟩
end Go.Proofs.Ytjdoagkbcooonaa
