/-
  The reference's LinearReflect.
-/
import Derived.Test.YtmbebcgicddbnaaProg
import Derived.Test.YtmbebcgicddbnaaNI
namespace Go.Proofs.Ytmbebcgicddbnaa
open Go.RowKit

theorem reflectR_bad (l : List Int) (n : Nat) (hn : n = l.length) (hn1 : n ≤ 9223372036854775807) (o : Int) (h : okRef l o = false) (A : Option Addr) (c : Nat) (w : World) :
    Calls Try.prog 25 #[.slice A n c, .int .i64 o] w (IntsQ (refP l o) w) := by
  have hr := Lib.hid (refP_bad h)
  have hno : ¬ (1 ≤ o ∧ o ≤ 32 ∧ n ≤ 4096) := fun h' => by rw [hn] at h'; rw [okRef_true.2 h'] at h; cases h
  clear h hn
  by_cases h1 : o < 1
  · clear hno
    go_enter Try.func25, Try.ntmps25
    go_wp2_with fail
    go_ret2
    rw [hr.out]
    exact ints_none (brefl w)
  · by_cases h2 : 32 < o
    · clear hno
      go_enter Try.func25, Try.ntmps25
      go_wp2_with fail
      go_ret2
      rw [hr.out]
      exact ints_none (brefl w)
    · have h3 : (4096 : Int) < (n : Int) := by omega
      clear hno
      go_enter Try.func25, Try.ntmps25
      go_wp2_with fail
      go_ret2
      rw [hr.out]
      exact ints_none (brefl w)

set_option maxHeartbeats 4000000 in
theorem reflectR_ok (l : List Int) (n : Nat) (hn : n = l.length) (hn1 : n ≤ 4096) (o : Nat) (o1 : 1 ≤ o) (o2 : o ≤ 32) (A : Option Addr) (c : Nat) (w : World) (ha : Ints .i64 w w.heap.size A l) :
    Calls Try.prog 25 #[.slice A n c, .int .i64 (o : Int)] w (IntsQ (refP l (o : Int)) w) := by
  have hok := Lib.hid (okRef_true (l := l) (o := (o : Int)) |>.2 ⟨by omega, by omega, by omega⟩)
  have i1 : (1 : Int) ≤ (o : Int) := by omega
  have i2 : (o : Int) ≤ 32 := by omega
  have i3 : (n : Int) ≤ 4096 := by omega
  have Hn := Lib.hid hn
  clear hn
  cases hw : allWideB l with
  | false =>
    have Hw := Lib.hid hw
    clear hw
    go_enter Try.func25, Try.ntmps25
    go_wp2_with fail
    (with_reducible refine (allWide2_any l _ Hn.out (by omega) _ _ _ _ ha).mono ?_); rintro e w' ⟨rfl, rfl⟩
    rw [Hw.out]
    go_wp2_with fail
    go_ret2
    rw [refP_far hok.out Hw.out]
    exact ints_none (brefl w)
  | true =>
    have Hw := Lib.hid hw
    clear hw
    obtain ⟨f0, hf0⟩ : ∃ f0, f0 = scaledP l := ⟨_, rfl⟩
    have Hf0 := Lib.hid hf0
    have hfl : Hid (f0.length = n) := by show _ = _; rw [hf0, scaledP_len, Hn.out]
    clear hf0
    go_enter Try.func25, Try.ntmps25
    go_wp2_with fail
    (with_reducible refine (allWide2_any l _ Hn.out (by omega) _ _ _ _ ha).mono ?_); rintro e w' ⟨rfl, rfl⟩
    rw [Hw.out]
    go_wp2_with fail
    (with_reducible refine (scaledR_any l n Hn.out (by omega) Hw.out _ _ _ ha).mono ?_); rintro e w1 ⟨Af, cf, rfl, hof, b1⟩
    rw [← Hf0.out, hfl.out] at hof ⊢
    have Hof := Lib.hid hof
    have B1 := Lib.hid b1
    clear hof b1
    go_wp2_with fail
    (with_reducible refine (scaledR_any l n Hn.out (by omega) Hw.out _ _ _ ((ha.below B1.out).more B1.out.size)).mono ?_); rintro e w2 ⟨Ag, cg, rfl, hog, b2⟩
    rw [← Hf0.out, hfl.out] at hog ⊢
    have Hog := Lib.hid hog
    have Hof2 := Lib.hid (OwnZ.below Hof.out b2 (Nat.le_refl _))
    have B2 := Lib.hid (bth B1.out b2)
    have h12 := b2.size
    have h01 := B1.out.size
    have Hfb : Hid (∀ q, (Value.slice Af n cf).ownBlock = some q → w.heap.size ≤ q ∧ q < w1.heap.size) := Hof.out.lt
    clear hog b2
    go_wp2_with fail
    go_loopw [7, 8, 9, 10, 11, 12, 13, 14] (fun gv kv mv _ _ _ _ _ wr => (∃ (m : Nat) (Ag : Option Addr) (cg : Nat) (A' : Option Addr) (c' : Nat), m ≤ o ∧ mv = .int .i64 ((m + 1 : Nat) : Int) ∧ gv = .slice Ag n cg ∧ kv = .slice A' m c' ∧ OwnZ wr w1.heap.size A' m c' (refTo f0 m).2 ∧ OwnZ wr w.heap.size Af n cf (refTo f0 m).1.1 ∧ OwnZ wr w1.heap.size Ag n cg (refTo f0 m).1.2 ∧ ∀ q, (Value.slice Ag n cg).ownBlock = some q → (Value.slice A' m c').ownBlock ≠ some q) ∧ Below w.heap.size w wr ∧ w2.heap.size ≤ wr.heap.size) (fun _ _ mv _ _ _ _ _ _ => o + 1 - (intOf mv).toNat)
    case atStart => exact ⟨⟨0, Ag, cg, none, 0, Nat.zero_le _, rfl, rfl, rfl, OwnZ.nil _ _, Hof2.out, Hog.out, fun q _ h => by cases h⟩, B2.out, Nat.le_refl _⟩
    case round =>
      obtain ⟨⟨m, Ag, cg, A3, c3, hm, rfl, rfl, rfl, hk, hf, hg, hsep⟩, hbl, hsz⟩ := hrel
      obtain ⟨wo, rfl⟩ : ∃ wo : World, wo = wr := ⟨_, rfl⟩
      have Hk := Lib.hid hk
      have Hf := Lib.hid hf
      have Hg := Lib.hid hg
      have Hb := Lib.hid hbl
      have Hsep := Lib.hid hsep
      clear hk hf hg hbl hsep
      by_cases hlt : m < o
      · obtain ⟨M, hM⟩ : ∃ M : Nat, M = m + 1 := ⟨_, rfl⟩
        obtain ⟨F, hF⟩ : ∃ F, F = (refTo f0 m).1.1 := ⟨_, rfl⟩
        obtain ⟨G, hG⟩ : ∃ G, G = (refTo f0 m).1.2 := ⟨_, rfl⟩
        obtain ⟨kk, hkk⟩ : ∃ kk, kk = reflK F G M := ⟨_, rfl⟩
        have hrt : Hid (refTo f0 M = ((stepF F G kk M, stepG F G kk M), (refTo f0 m).2 ++ [kk])) := by show _ = _; rw [hM, refTo, hkk, hF, hG, hM]
        have hFl : Hid (n = F.length) := by show _ = _; rw [hF, (refTo_len f0 m).1, hfl.out]
        have hGl : Hid (n = G.length) := by show _ = _; rw [hG, (refTo_len f0 m).2.1, hfl.out]
        have HM := Lib.hid hM
        have Hkk := Lib.hid hkk
        rw [← hF] at Hf
        rw [← hG] at Hg
        rw [← hM]
        have hM1 : 1 ≤ M := by omega
        have hM2 : M ≤ 32 := by omega
        have hMo : M ≤ o := by omega
        have hm32 : m ≤ 32 := by omega
        clear hM hF hG hkk hlt hm
        go_wp2_with fail
        (with_reducible refine (reflR_any F G n hFl.out hGl.out (by omega) M hM1 hM2 _ rfl _ _ _ _ _ _ _ (OwnZ.ints Hf.out) (OwnZ.ints Hg.out)).mono ?_); rintro e w5 ⟨rfl, q5, hw5⟩
        rw [← Hkk.out]
        have Hk5 : Hid (OwnZ w5 w1.heap.size A3 m c3 (refTo f0 m).2) := by show OwnZ _ _ _ _ _ _; rw [hw5]; exact Hk.out.drewN q5
        have Hf5 : Hid (OwnZ w5 w.heap.size Af n cf F) := by show OwnZ _ _ _ _ _ _; rw [hw5]; exact Hf.out.drewN q5
        have Hg5 : Hid (OwnZ w5 w1.heap.size Ag n cg G) := by show OwnZ _ _ _ _ _ _; rw [hw5]; exact Hg.out.drewN q5
        have Hb5 : Hid (Below w.heap.size w w5) := by show Below _ _ _; rw [hw5]; exact below_drewN Hb.out q5
        have hs5 : w2.heap.size ≤ w5.heap.size := by rw [hw5]; exact hsz
        clear hw5 Hk Hf Hg Hb
        have hbs5 := Hb5.out.size
        go_wp2_with (at_builtin; refine app_z0 _ rfl (.tmp 42) (.tmp 43) rfl w5 _ _ rfl (own_emptyZ w5) _ _ n cg G rfl hGl.out.symm ((OwnZ.ints Hg5.out).below (bal (brefl w5) _)) (by omega) (bal (brefl w5) _) ?_; intro A6 c6 w6 hn6 hb6)
        have Hn6 := Lib.hid hn6
        have Hk6 := Lib.hid (OwnZ.below Hk5.out hb6 (Nat.le_refl _))
        have Hf6 := Lib.hid (OwnZ.below Hf5.out hb6 (Nat.le_refl _))
        have Hg6 := Lib.hid (OwnZ.below Hg5.out hb6 (Nat.le_refl _))
        have Hb6 := Lib.hid (bth Hb5.out hb6)
        have Hkb : Hid (∀ q, (Value.slice A3 m c3).ownBlock = some q → w1.heap.size ≤ q ∧ q < w5.heap.size) := Hk5.out.lt
        have Hgb : Hid (∀ q, (Value.slice Ag n cg).ownBlock = some q → w1.heap.size ≤ q ∧ q < w5.heap.size) := Hg5.out.lt
        have hs6 := hb6.size
        clear hn6 hb6 Hk5 Hf5 Hg5 Hb5
        go_loopw [12, 13, 14] (fun iv _ _ wi => (∃ t : Nat, M ≤ t ∧ (t ≤ n ∨ t = M) ∧ iv = .int .i64 (t : Int) ∧ OwnZ wi w.heap.size Af n cf (mixTo F (stepF F G kk M) t) ∧ OwnZ wi w5.heap.size A6 n c6 (mixTo G (stepG F G kk M) t) ∧ OwnZ wi w1.heap.size Ag n cg G ∧ OwnZ wi w1.heap.size A3 m c3 (refTo f0 m).2) ∧ Below w.heap.size w wi ∧ w6.heap.size ≤ wi.heap.size) (fun iv _ _ _ => n - (intOf iv).toNat)
        case atStart =>
          refine ⟨⟨M, Nat.le_refl _, .inr rfl, rfl, ?_, ?_, Hg6.out, Hk6.out⟩, Hb6.out, Nat.le_refl _⟩
          · rw [mixTo_low fun j h1 h2 => stepF_lo h2 h1]; exact Hf6.out
          · rw [mixTo_low fun j h1 h2 => stepG_lo (by rw [← hFl.out, hGl.out]; exact h2) h1]; exact Hn6.out
        case round =>
          obtain ⟨⟨t, htM, htn, rfl, hf, hn', hg, hk⟩, hbl, hsz7⟩ := hrel
          have Hf7 := Lib.hid hf
          have Hn7 := Lib.hid hn'
          have Hg7 := Lib.hid hg
          have Hk7 := Lib.hid hk
          have Hb7 := Lib.hid hbl
          clear hf hg hk hbl hn'
          by_cases hlt2 : t < n
          · obtain ⟨gf, rfl, hgf1, hgf2⟩ := own_addr Hf7.out (by omega)
            obtain ⟨g2, rfl, hg21, hg22⟩ := own_addr Hg7.out (by omega)
            obtain ⟨g3, rfl, hg31, hg32⟩ := own_addr Hn7.out (by omega)
            have hgb2 := (Hgb.out g2 (by simp [Value.ownBlock]))
            have hfb := (Hfb.out gf (by simp [Value.ownBlock]))
            obtain ⟨hgb3, hgb4⟩ := hgb2
            obtain ⟨hfb3, hfb4⟩ := hfb
            have d1 := own_cell Hf7.out hlt2
            rw [mixTo_ix (by rw [← hFl.out]; omega), if_neg (by omega)] at d1
            have d2 := own_cell Hg7.out (i := t - 1) (by omega)
            have d3 := World.ownsRow.frozenAt Hf7.out t
            have hi1 : (1 : Int) ≤ (t : Int) := by omega
            have hi2 : (t : Int) < (n : Int) := by omega
            have hi3 : (t : Int) - 1 < (n : Int) := by omega
            have hi4 : (0 : Int) ≤ (t : Int) - 1 := by omega
            have hi5 : ((t : Int) - 1).toNat = t - 1 := by omega
            have hi6 := IntWalk.i64_in ((t : Int) - 1) (by omega)
            have hi7 : (0 : Int) ≤ (t : Int) := by omega
            have hsF : Hid ((mixTo F (stepF F G kk M) t).set t (heldI (wrap64 (ix F t - wrap64 (kk * ix G (t - 1)) / 16384))) = mixTo F (stepF F G kk M) (t + 1)) := by
              show _ = _
              have := mixTo_set (xs := F) (ys := stepF F G kk M) (k := t) (by rw [← hFl.out]; omega)
              rwa [stepF_ix (by rw [← hFl.out]; omega) (by omega)] at this
            have hsG : Hid ((mixTo G (stepG F G kk M) t).set t (heldI (wrap64 (ix G (t - 1) - wrap64 (kk * ix F t) / 16384))) = mixTo G (stepG F G kk M) (t + 1)) := by
              show _ = _
              have := mixTo_set (xs := G) (ys := stepG F G kk M) (k := t) (by rw [← hGl.out]; omega)
              rwa [stepG_ix (by rw [← hFl.out]; omega) (by omega)] at this
            clear htn
            go_wp2_with fail
            go_quiet (fail)
            clear hi3 hi4 hi5 hi6
            go_wp2_with fail
            (with_reducible refine (heldR_any _ _).mono ?_); rintro e w' ⟨rfl, rfl⟩
            have e2 := own_set (Hf7.out.drewN nq) t (heldI (wrap64 (ix F t - wrap64 (kk * ix G (t - 1)) / 16384)))
            rw [hsF.out] at e2
            have e3 : OwnZ (((wr.drewN nq)).setCell ⟨gf, t, none⟩ (.int .i64 (heldI (wrap64 (ix F t - wrap64 (kk * ix G (t - 1)) / 16384))))) w5.heap.size (some ⟨g3, 0, none⟩) n c6 (mixTo G (stepG F G kk M) t) :=
              OwnZ.other (Hn7.out.drewN nq) fun q hq => by simp [Value.ownBlock] at hq; subst hq; exact Below.heap_setCell _ _ _ _ (by simp; omega)
            have d5 := World.ownsRow.frozenAt e3 t
            have d6 := own_cell e3 hlt2
            have e4 : OwnZ (((wr.drewN nq)).setCell ⟨gf, t, none⟩ (.int .i64 (heldI (wrap64 (ix F t - wrap64 (kk * ix G (t - 1)) / 16384))))) w1.heap.size A3 m c3 (refTo f0 m).2 :=
              OwnZ.other (Hk7.out.drewN nq) fun q hq => Below.heap_setCell _ _ _ _ (by have := (Hkb.out q hq).1; simp; omega)
            have e7 : OwnZ (((wr.drewN nq)).setCell ⟨gf, t, none⟩ (.int .i64 (heldI (wrap64 (ix F t - wrap64 (kk * ix G (t - 1)) / 16384))))) w1.heap.size (some ⟨g2, 0, none⟩) n cg G :=
              OwnZ.other (Hg7.out.drewN nq) fun q hq => Below.heap_setCell _ _ _ _ (by have := (Hgb.out q hq).1; simp; omega)
            have e5 : Below w.heap.size w (((wr.drewN nq)).setCell ⟨gf, t, none⟩ (.int .i64 (heldI (wrap64 (ix F t - wrap64 (kk * ix G (t - 1)) / 16384))))) := (below_drewN Hb7.out nq).setCell (p := ⟨gf, t, none⟩) hfb3 _
            have e6 : w6.heap.size ≤ (((wr.drewN nq)).setCell ⟨gf, t, none⟩ (.int .i64 (heldI (wrap64 (ix F t - wrap64 (kk * ix G (t - 1)) / 16384))))).heap.size := by simp [World.setCell]; exact hsz7
            have E2 := Lib.hid (show OwnZ _ w.heap.size (some ⟨gf, 0, none⟩) n cf (mixTo F (stepF F G kk M) (t + 1)) from e2)
            have E3 := Lib.hid e3
            have E4 := Lib.hid e4
            have E5 := Lib.hid e5
            have E7 := Lib.hid e7
            clear e2 e3 e4 e5 e7 d2
            go_wp2_with fail
            generalize (((wr.drewN nq)).setCell ⟨gf, t, none⟩ (.int .i64 (heldI (wrap64 (ix F t - wrap64 (kk * ix G (t - 1)) / 16384))))) = wz at *
            (with_reducible refine (heldR_any _ _).mono ?_); rintro e w' ⟨rfl, rfl⟩
            go_wp2_with fail
            go_roundw
            case rel =>
              refine ⟨⟨t + 1, by omega, .inl (by omega), by go_num, ?_, ?_, ?_, ?_⟩, E5.out.setCell (p := ⟨g3, t, none⟩) (show w.heap.size ≤ g3 by omega) _, by simp [World.setCell]; exact e6⟩
              · exact OwnZ.other E2.out fun q hq => by simp [Value.ownBlock] at hq; subst hq; exact Below.heap_setCell _ _ _ _ (by simp; omega)
              · rw [← hsG.out]; exact own_set E3.out t _
              · exact OwnZ.other E7.out fun q hq => Below.heap_setCell _ _ _ _ (by have := (Hgb.out q hq).2; simp; omega)
              · exact OwnZ.other E4.out fun q hq => Below.heap_setCell _ _ _ _ (by have := (Hkb.out q hq).2; simp; omega)
            case measure => simp [intOf]; omega
          · have hFf : Hid (OwnZ wr w.heap.size Af n cf (stepF F G kk M)) := by
              show OwnZ _ _ _ _ _ _
              have := Hf7.out
              rwa [mixTo_all (by rw [stepF_len]) (by rw [← hFl.out]; omega)] at this
            have hGf : Hid (OwnZ wr w5.heap.size A6 n c6 (stepG F G kk M)) := by
              show OwnZ _ _ _ _ _ _
              have := Hn7.out
              rwa [mixTo_all (by rw [stepG_len, ← hFl.out, hGl.out]) (by rw [← hGl.out]; omega)] at this
            have htI : (n : Int) ≤ (t : Int) := by omega
            clear htn
            have hbs7 := Hb7.out.size
            go_wp2_with (at_builtin; refine app_zg _ rfl (.tmp 82) (.tmp 84) rfl w1.heap.size _ _ _ _ rfl (Hk7.out.alloc _) _ _ 1 1 [kk] rfl rfl (rd_new1 _ _ _) (by omega) (by simp; omega) ?_; intro A8 c8 w8 hk8 hg8 hat8)
            have Hk8 := Lib.hid hk8
            have Hf8 := Lib.hid (OwnZ.grown (hFf.out.alloc (.cells #[.int .i64 kk] 3)) hg8 fun q hq e => by have := (Hfb.out q hq).2; have := (Hkb.out q e.symm).1; omega)
            have Hn8 := Lib.hid (OwnZ.grown (hGf.out.alloc (.cells #[.int .i64 kk] 3)) hg8 fun q hq e => by have := (hGf.out.lt q hq).1; have := (Hkb.out q e.symm).2; omega)
            have Hb8 : Hid (Below w.heap.size w w8) := (bal Hb7.out (.cells #[.int .i64 kk] 3)).grown hg8 (by simp; omega) fun q hq => by have := (Hkb.out q hq).1; omega
            have hs8 : w2.heap.size ≤ w8.heap.size := by have := hg8.size; simp at this; omega
            have Hsep8 : Hid (∀ q, (Value.slice A6 n c6).ownBlock = some q → (Value.slice A8 (m + 1) c8).ownBlock ≠ some q) := fun q hq e => by
              have h1 := hGf.out.lt q hq
              rcases hat8 with h | h
              · rw [h] at e; have := (Hkb.out q e).2; omega
              · rw [h] at e; simp at e; omega
            clear hk8 hg8 hat8
            go_wp2_with fail
            go_roundw
            case rel =>
              have hm := HM.out
              refine ⟨⟨M, A6, c6, A8, c8, hMo, by go_num, rfl, by rw [hm], ?_, ?_, ?_, ?_⟩, Hb8.out, hs8⟩
              · rw [hrt.out, hm]; exact Hk8.out
              · rw [hrt.out]; exact Hf8.out
              · rw [hrt.out]; exact Hn8.out.base (by omega)
              · rw [hm]; exact Hsep8.out
            case measure => have hm := HM.out; simp [intOf]; omega
      · have e : m = o := by omega
        subst e
        have hr : Hid (refP l (m : Int) = ((refTo f0 m).2, 0)) := by show _ = _; rw [refP_ok hok.out Hw.out, Int.toNat_natCast, ← Hf0.out]
        go_wp2_with fail
        go_ret2
        rw [hr.out]
        exact ints_of (Hk.out.base (by omega)) Hb.out
theorem reflectR_any (l : List Int) (n : Nat) (hn : n = l.length) (hn1 : n ≤ 9223372036854775807) (o : Int) (A : Option Addr) (c : Nat) (w : World) (ha : Ints .i64 w w.heap.size A l) :
    Calls Try.prog 25 #[.slice A n c, .int .i64 o] w (IntsQ (refP l o) w) := by
  cases h : okRef l o with
  | false => exact reflectR_bad l n hn hn1 o h A c w
  | true =>
    obtain ⟨h1, h2, h3⟩ := okRef_true.1 h
    obtain ⟨m, rfl⟩ := Int.eq_ofNat_of_zero_le (show 0 ≤ o by omega)
    exact reflectR_ok l n hn (by omega) m (by omega) (by omega) A c w ha
end Go.Proofs.Ytmbebcgicddbnaa
