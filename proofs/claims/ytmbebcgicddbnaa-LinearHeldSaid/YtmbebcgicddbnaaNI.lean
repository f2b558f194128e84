/-
  linear.Reflect.
-/
import Derived.Test.YtmbebcgicddbnaaProg
import Derived.Test.YtmbebcgicddbnaaNH
namespace Go.Proofs.Ytmbebcgicddbnaa
open Go.RowKit

/-- append of numbers to a row of the call's own, where other rows are written in place: which block has grown. -/
theorem app_zg {ops : Array Oper} {rest : List Oper} {o : Oper} {a : Act} {Q : Exit → Act → World → Prop} (w : World) (hgd : o.guard = none) (s x : Operand)
    (ho : o.op = .call { callee := .builtin .append, args := #[s, x], argTypes := #[22, 22] }) (B : Nat) (A1 : Option Addr) (n c1 : Nat) (xs : List Int) (hs : a.eval s = .slice A1 n c1) (hown : OwnZ w B A1 n c1 xs)
    (B1 : Nat) (A : Option Addr) (m c : Nat) (news : List Int) (hx : a.eval x = .slice A m c) (hl : news.length = m) (hr : Ints .i64 w B1 A news) (hsz : n + m ≤ 1000000) (hB : B ≤ w.heap.size)
    (h : ∀ A' c' w', OwnZ w' B A' (n + m) c' (xs ++ news) → w.grownBy w' (Value.slice A1 n c1).ownBlock → ((Value.slice A' (n + m) c').ownBlock = (Value.slice A1 n c1).ownBlock ∨ (Value.slice A' (n + m) c').ownBlock = some w.heap.size) → wpList Try.prog ops Q rest (a.put o.dst (.slice A' (n + m) c')) w') : wpList Try.prog ops Q (o :: rest) a w := by
  obtain ⟨i0, hi0, hz0, hz1, hz2⟩ := info_parts intInfo
  refine wpList_app w hgd s x 22 ho B 3 i0 _ 1 8 Try.underlying22 hi0 hz0 hz1 hz2 rfl (by omega) _ n _ hs hown B1 A m c (news.map (Value.int .i64)) hx (by simpa using hl) hr (oneCell_ints _ _) (by simp only [maxLen]; omega) (by omega) hB fun A' c' w' h2 h3 h4 => h A' c' w' ?_ h3 h4
  unfold OwnZ
  rw [List.map_append]
  exact h2
theorem OwnZ.other {w w' : World} {B : Nat} {A : Option Addr} {n c : Nat} {l : List Int} (h : OwnZ w B A n c l) (hk : ∀ q, (Value.slice A n c).ownBlock = some q → w'.heap[q]? = w.heap[q]?) : OwnZ w' B A n c l := own_of_block h hk
theorem OwnZ.lt {w : World} {B : Nat} {A : Option Addr} {n c : Nat} {l : List Int} (h : OwnZ w B A n c l) : ∀ q, (Value.slice A n c).ownBlock = some q → B ≤ q ∧ q < w.heap.size := fun q hq => World.ownsRow.lt h q hq
theorem OwnZ.grown {w w' : World} {B : Nat} {A : Option Addr} {n c : Nat} {l : List Int} {row : Option Nat} (h : OwnZ w B A n c l) (hg : w.grownBy w' row) (hne : ∀ q, (Value.slice A n c).ownBlock = some q → some q ≠ row) : OwnZ w' B A n c l :=
  h.other fun q hq => hg.block q (h.lt q hq).2 (hne q hq)

theorem reflectL_bad (l : List Int) (n : Nat) (hn : n = l.length) (hn1 : n ≤ 9223372036854775807) (o : Int) (h : okRef l o = false) (A : Option Addr) (c : Nat) (w : World) :
    Calls Try.prog 24 #[.slice A n c, .int .i64 o] w (IntsQ (refP l o) w) := by
  have hr := Lib.hid (refP_bad h)
  have hno : ¬ (1 ≤ o ∧ o ≤ 32 ∧ n ≤ 4096) := fun h' => by rw [hn] at h'; rw [okRef_true.2 h'] at h; cases h
  clear h hn
  by_cases h1 : o < 1
  · clear hno
    go_enter Try.func24, Try.ntmps24
    go_wp2_with fail
    go_ret2
    rw [hr.out]
    exact ints_none (brefl w)
  · by_cases h2 : 32 < o
    · clear hno
      go_enter Try.func24, Try.ntmps24
      go_wp2_with fail
      go_ret2
      rw [hr.out]
      exact ints_none (brefl w)
    · have h3 : (4096 : Int) < (n : Int) := by omega
      clear hno
      go_enter Try.func24, Try.ntmps24
      go_wp2_with fail
      go_ret2
      rw [hr.out]
      exact ints_none (brefl w)

set_option maxHeartbeats 4000000 in
theorem reflectL_ok (l : List Int) (n : Nat) (hn : n = l.length) (hn1 : n ≤ 4096) (o : Nat) (o1 : 1 ≤ o) (o2 : o ≤ 32) (A : Option Addr) (c : Nat) (w : World) (ha : Ints .i64 w w.heap.size A l) :
    Calls Try.prog 24 #[.slice A n c, .int .i64 (o : Int)] w (IntsQ (refP l (o : Int)) w) := by
  have hok := Lib.hid (okRef_true (l := l) (o := (o : Int)) |>.2 ⟨by omega, by omega, by omega⟩)
  have i1 : (1 : Int) ≤ (o : Int) := by omega
  have i2 : (o : Int) ≤ 32 := by omega
  have i3 : (n : Int) ≤ 4096 := by omega
  have Hn := Lib.hid hn
  clear hn
  cases hw : allWideB l with
  | false =>
    have Hw := Lib.hid hw
    clear hw
    go_enter Try.func24, Try.ntmps24
    go_wp2_with fail
    (with_reducible refine (allWideN_any l _ Hn.out (by omega) _ _ _ _ ha).mono ?_); rintro e w' ⟨rfl, rfl⟩
    rw [Hw.out]
    go_wp2_with fail
    go_ret2
    rw [refP_far hok.out Hw.out]
    exact ints_none (brefl w)
  | true =>
    have Hw := Lib.hid hw
    clear hw
    obtain ⟨f0, hf0⟩ : ∃ f0, f0 = scaledP l := ⟨_, rfl⟩
    have Hf0 := Lib.hid hf0
    have hfl : Hid (f0.length = n) := by show _ = _; rw [hf0, scaledP_len, Hn.out]
    clear hf0
    have hmk := run_mk0 o (by omega)
    go_enter Try.func24, Try.ntmps24
    go_wp2_with fail
    (with_reducible refine (allWideN_any l _ Hn.out (by omega) _ _ _ _ ha).mono ?_); rintro e w' ⟨rfl, rfl⟩
    rw [Hw.out]
    go_wp2_with fail
    (with_reducible refine (scaledL_any l n Hn.out (by omega) Hw.out _ _ _ ha).mono ?_); rintro e w1 ⟨gf, cf, rfl, hof, b1⟩
    rw [← Hf0.out, hfl.out] at hof ⊢
    have Hof := Lib.hid hof
    have B1 := Lib.hid b1
    clear hof b1
    go_wp2_with fail
    (with_reducible refine (cloneS_any f0 n hfl.out.symm (by omega) _ _ _ (OwnZ.ints Hof.out)).mono ?_); rintro e w2 ⟨Ag, cg, rfl, hog, b2⟩
    rw [hfl.out] at hog ⊢
    have Hog := Lib.hid hog
    have Hof2 := Lib.hid (OwnZ.below Hof.out b2 (Nat.le_refl _))
    have B2 := Lib.hid (bth B1.out b2)
    have hgf : gf < w1.heap.size := (Hof.out.lt gf (by simp [Value.ownBlock])).2
    have hgf0 : w.heap.size ≤ gf := (Hof.out.lt gf (by simp [Value.ownBlock])).1
    have h12 := b2.size
    have h01 := B1.out.size
    have Hgb : Hid (∀ q, (Value.slice Ag n cg).ownBlock = some q → w1.heap.size ≤ q ∧ q < w2.heap.size) := Hog.out.lt
    clear hog b2
    go_wp2_with fail
    have hk0 := Lib.hid (own_mk0 w2 o (by omega))
    have hof3 := Lib.hid (OwnZ.alloc Hof2.out (zobj o))
    have hog3 := Lib.hid (OwnZ.alloc Hog.out (zobj o))
    have B3 := Lib.hid (bal B2.out (zobj o))
    clear hmk
    go_loopw [8, 9, 10, 11, 12, 13] (fun kv mv _ _ _ _ wr => (∃ (m : Nat) (A' : Option Addr) (c' : Nat), m ≤ o ∧ mv = .int .i64 ((m + 1 : Nat) : Int) ∧ kv = .slice A' m c' ∧ OwnZ wr w2.heap.size A' m c' (refTo f0 m).2 ∧ OwnZ wr w.heap.size (some ⟨gf, 0, none⟩) n cf (refTo f0 m).1.1 ∧ OwnZ wr w1.heap.size Ag n cg (refTo f0 m).1.2) ∧ Below w.heap.size w wr ∧ w2.heap.size ≤ wr.heap.size) (fun _ mv _ _ _ _ _ => o + 1 - (intOf mv).toNat)
    case atStart => exact ⟨⟨0, _, _, Nat.zero_le _, rfl, rfl, hk0.out, hof3.out, hog3.out⟩, B3.out, by simp⟩
    case round =>
      obtain ⟨⟨m, A3, c3, hm, rfl, rfl, hk, hf, hg⟩, hbl, hsz⟩ := hrel
      obtain ⟨wo, rfl⟩ : ∃ wo : World, wo = wr := ⟨_, rfl⟩
      have Hk := Lib.hid hk
      have Hf := Lib.hid hf
      have Hg := Lib.hid hg
      have Hb := Lib.hid hbl
      clear hk hf hg hbl
      by_cases hlt : m < o
      · obtain ⟨M, hM⟩ : ∃ M : Nat, M = m + 1 := ⟨_, rfl⟩
        obtain ⟨F, hF⟩ : ∃ F, F = (refTo f0 m).1.1 := ⟨_, rfl⟩
        obtain ⟨G, hG⟩ : ∃ G, G = (refTo f0 m).1.2 := ⟨_, rfl⟩
        obtain ⟨kk, hkk⟩ : ∃ kk, kk = reflK F G M := ⟨_, rfl⟩
        have hrt : Hid (refTo f0 M = ((stepF F G kk M, stepG F G kk M), (refTo f0 m).2 ++ [kk])) := by show _ = _; rw [hM, refTo, hkk, hF, hG, hM]
        have hFl : Hid (n = F.length) := by show _ = _; rw [hF, (refTo_len f0 m).1, hfl.out]
        have hGl : Hid (n = G.length) := by show _ = _; rw [hG, (refTo_len f0 m).2.1, hfl.out]
        have HM := Lib.hid hM
        have Hkk := Lib.hid hkk
        rw [← hF] at Hf
        rw [← hG] at Hg
        rw [← hM]
        have hM1 : 1 ≤ M := by omega
        have hM2 : M ≤ 32 := by omega
        have hMo : M ≤ o := by omega
        have hm32 : m ≤ 32 := by omega
        clear hM hF hG hkk hlt hm
        go_wp2_with fail
        (with_reducible refine (reflL_any F G n hFl.out hGl.out (by omega) M hM1 hM2 _ rfl _ _ _ _ _ _ _ (OwnZ.ints Hf.out) (OwnZ.ints Hg.out)).mono ?_); rintro e w5 ⟨rfl, q5, hw5⟩
        rw [← Hkk.out]
        have Hk5 : Hid (OwnZ w5 w2.heap.size A3 m c3 (refTo f0 m).2) := by show OwnZ _ _ _ _ _ _; rw [hw5]; exact Hk.out.drewN q5
        have Hf5 : Hid (OwnZ w5 w.heap.size (some ⟨gf, 0, none⟩) n cf F) := by show OwnZ _ _ _ _ _ _; rw [hw5]; exact Hf.out.drewN q5
        have Hg5 : Hid (OwnZ w5 w1.heap.size Ag n cg G) := by show OwnZ _ _ _ _ _ _; rw [hw5]; exact Hg.out.drewN q5
        have Hb5 : Hid (Below w.heap.size w w5) := by show Below _ _ _; rw [hw5]; exact below_drewN Hb.out q5
        have hs5 : w2.heap.size ≤ w5.heap.size := by rw [hw5]; exact hsz
        clear hw5 Hk Hf Hg Hb
        have hbs5 := Hb5.out.size
        go_wp2_with (at_builtin; refine app_zg _ rfl (.tmp 43) (.tmp 45) rfl w2.heap.size _ _ _ _ rfl (Hk5.out.alloc _) _ _ 1 1 [kk] rfl rfl (rd_new1 _ _ _) (by omega) (by simp; omega) ?_; intro A6 c6 w6 hk6 hg6 hat6)
        have Hk6 := Lib.hid hk6
        have hne6 : ∀ q, q < w2.heap.size → some q ≠ (Value.slice A3 m c3).ownBlock := fun q hq e => by have := (Hk5.out.lt q e.symm).1; omega
        have Hf6 := Lib.hid (OwnZ.grown (Hf5.out.alloc (.cells #[.int .i64 kk] 3)) hg6 fun q hq => hne6 q (by simp [Value.ownBlock] at hq; omega))
        have Hg6 := Lib.hid (OwnZ.grown (Hg5.out.alloc (.cells #[.int .i64 kk] 3)) hg6 fun q hq => hne6 q (Hgb.out q hq).2)
        have Hb6 : Hid (Below w.heap.size w w6) := (bal Hb5.out (.cells #[.int .i64 kk] 3)).grown hg6 (by simp; omega) fun q hq => by have := (Hk5.out.lt q hq).1; omega
        have hs6 : w2.heap.size ≤ w6.heap.size := by have := hg6.size; simp at this; omega
        clear hk6 hne6 hg6 hat6 Hk5 Hf5 Hg5 Hb5
        go_loopw [11, 12, 13] (fun iv _ _ wi => (∃ t : Nat, t ≤ n ∧ (M ≤ t ∨ t = n) ∧ iv = .int .i64 ((t : Int) - 1) ∧ OwnZ wi w.heap.size (some ⟨gf, 0, none⟩) n cf (tailFrom F (stepF F G kk M) t) ∧ OwnZ wi w1.heap.size Ag n cg (tailFrom G (stepG F G kk M) t) ∧ OwnZ wi w2.heap.size A6 (m + 1) c6 ((refTo f0 m).2 ++ [kk])) ∧ Below w.heap.size w wi ∧ w2.heap.size ≤ wi.heap.size) (fun iv _ _ _ => (intOf iv + 1).toNat)
        case atStart => exact ⟨⟨n, Nat.le_refl _, .inr rfl, by go_num, by rw [tailFrom_none (by rw [← hFl.out]; exact Nat.le_refl _)]; exact Hf6.out, by rw [tailFrom_none (by rw [← hGl.out]; exact Nat.le_refl _)]; exact Hg6.out, Hk6.out⟩, Hb6.out, hs6⟩
        case round =>
          obtain ⟨⟨t, htn, htM, rfl, hf, hg, hk⟩, hbl, hsz7⟩ := hrel
          have Hf7 := Lib.hid hf
          have Hg7 := Lib.hid hg
          have Hk7 := Lib.hid hk
          have Hb7 := Lib.hid hbl
          clear hf hg hk hbl
          by_cases hlt2 : M < t
          · obtain ⟨i, hi⟩ : ∃ i : Nat, t = i + 1 := ⟨t - 1, by omega⟩
            subst hi
            obtain ⟨g2, rfl, hg21, hg22⟩ := own_addr Hg7.out (by omega)
            have hiI : ((i + 1 : Nat) : Int) - 1 = (i : Int) := by omega
            rw [hiI]
            have d1 := own_cell Hf7.out (i := i) (by omega)
            rw [tailFrom_ix (by rw [← hFl.out]; omega), if_pos (by omega)] at d1
            have d2 := own_cell Hg7.out (i := i - 1) (by omega)
            rw [tailFrom_ix (by rw [← hGl.out]; omega), if_pos (by omega)] at d2
            have d3 := World.ownsRow.frozenAt Hf7.out i
            have d4 := World.ownsRow.frozenAt Hg7.out i
            have hMi : (M : Int) ≤ (i : Int) := by omega
            have hi1 : (1 : Int) ≤ (i : Int) := by omega
            have hi2 : (i : Int) < (n : Int) := by omega
            have hi3 : (i : Int) - 1 < (n : Int) := by omega
            have hi4 : (0 : Int) ≤ (i : Int) - 1 := by omega
            have hi5 : ((i : Int) - 1).toNat = i - 1 := by omega
            have hi6 := IntWalk.i64_in ((i : Int) - 1) (by omega)
            have hi7 : (0 : Int) ≤ (i : Int) := by omega
            have hne := (Hgb.out g2 (by simp [Value.ownBlock])).1
            have hsF : Hid ((tailFrom F (stepF F G kk M) (i + 1)).set i (heldI (wrap64 (ix F i - wrap64 (kk * ix G (i - 1)) / 16384))) = tailFrom F (stepF F G kk M) i) := by
              show _ = _
              have := tailFrom_set (xs := F) (ys := stepF F G kk M) (k := i) (by rw [← hFl.out]; omega)
              rwa [stepF_ix (by rw [← hFl.out]; omega) (by omega)] at this
            have hsG : Hid ((tailFrom G (stepG F G kk M) (i + 1)).set i (heldI (wrap64 (ix G (i - 1) - wrap64 (kk * ix F i) / 16384))) = tailFrom G (stepG F G kk M) i) := by
              show _ = _
              have := tailFrom_set (xs := G) (ys := stepG F G kk M) (k := i) (by rw [← hGl.out]; omega)
              rwa [stepG_ix (by rw [← hFl.out]; omega) (by omega)] at this
            clear htM
            go_wp2_with fail
            go_quiet (fail)
            clear hi3 hi4 hi5 hi6
            go_wp2_with fail
            (with_reducible refine (clampL_any _ _).mono ?_); rintro e w' ⟨rfl, rfl⟩
            have hfg : gf ≠ g2 := by omega
            have e1 := Hf7.out.drewN nq
            have e2 := own_set e1 i (heldI (wrap64 (ix F i - wrap64 (kk * ix G (i - 1)) / 16384)))
            rw [hsF.out] at e2
            have e3 : OwnZ (((wr.drewN nq)).setCell ⟨gf, i, none⟩ (.int .i64 (heldI (wrap64 (ix F i - wrap64 (kk * ix G (i - 1)) / 16384))))) w1.heap.size (some ⟨g2, 0, none⟩) n cg (tailFrom G (stepG F G kk M) (i + 1)) :=
              OwnZ.other (Hg7.out.drewN nq) fun q hq => by simp [Value.ownBlock] at hq; subst hq; exact Below.heap_setCell _ _ _ _ (by simp; omega)
            have d5 := World.ownsRow.frozenAt e3 i
            have d6 := own_cell e3 (i := i) (by omega)
            have e4 : OwnZ (((wr.drewN nq)).setCell ⟨gf, i, none⟩ (.int .i64 (heldI (wrap64 (ix F i - wrap64 (kk * ix G (i - 1)) / 16384))))) w2.heap.size A6 (m + 1) c6 ((refTo f0 m).2 ++ [kk]) :=
              OwnZ.other (Hk7.out.drewN nq) fun q hq => Below.heap_setCell _ _ _ _ (by have := (Hk7.out.lt q hq).1; simp; omega)
            have e5 : Below w.heap.size w (((wr.drewN nq)).setCell ⟨gf, i, none⟩ (.int .i64 (heldI (wrap64 (ix F i - wrap64 (kk * ix G (i - 1)) / 16384))))) := (below_drewN Hb7.out nq).setCell (p := ⟨gf, i, none⟩) hgf0 _
            have e6 : w2.heap.size ≤ (((wr.drewN nq)).setCell ⟨gf, i, none⟩ (.int .i64 (heldI (wrap64 (ix F i - wrap64 (kk * ix G (i - 1)) / 16384))))).heap.size := by simp [World.setCell]; exact hsz7
            have E2 := Lib.hid (show OwnZ _ w.heap.size (some ⟨gf, 0, none⟩) n cf (tailFrom F (stepF F G kk M) i) from e2)
            have E3 := Lib.hid e3
            have E4 := Lib.hid e4
            have E5 := Lib.hid e5
            clear e1 e2 e3 e4 e5 d2 d3 d4 d1
            have d1 := own_cell Hf7.out (i := i) (by omega)
            have d3 := World.ownsRow.frozenAt Hf7.out i
            go_wp2_with fail
            generalize (((wr.drewN nq)).setCell ⟨gf, i, none⟩ (.int .i64 (heldI (wrap64 (ix F i - wrap64 (kk * ix G (i - 1)) / 16384))))) = wz at *
            (with_reducible refine (clampL_any _ _).mono ?_); rintro e w' ⟨rfl, rfl⟩
            go_wp2_with fail
            go_roundw
            case rel =>
              refine ⟨⟨i, by omega, .inl (by omega), rfl, ?_, ?_, ?_⟩, E5.out.setCell (p := ⟨g2, i, none⟩) (show w.heap.size ≤ g2 by omega) _, by simp [World.setCell]; exact e6⟩
              · exact OwnZ.other E2.out fun q hq => by simp [Value.ownBlock] at hq; subst hq; exact Below.heap_setCell _ _ _ _ (by simp; omega)
              · rw [← hsG.out]; exact own_set E3.out i _
              · exact OwnZ.other E4.out fun q hq => Below.heap_setCell _ _ _ _ (by have := (E4.out.lt q hq).1; have := (Hgb.out g2 (by simp [Value.ownBlock])).2; simp; omega)
            case measure => simp [intOf]
          · have htM2 : t ≤ M := by omega
            have hFf : Hid (OwnZ wr w.heap.size (some ⟨gf, 0, none⟩) n cf (stepF F G kk M)) := by
              show OwnZ _ _ _ _ _ _
              have := Hf7.out
              rwa [tailFrom_all (by rw [stepF_len]) fun j h1 h2 => stepF_lo h2 (by omega)] at this
            have hGf : Hid (OwnZ wr w1.heap.size Ag n cg (stepG F G kk M)) := by
              show OwnZ _ _ _ _ _ _
              have := Hg7.out
              rwa [tailFrom_all (by rw [stepG_len, ← hFl.out, hGl.out]) fun j h1 h2 => stepG_lo (by rw [← hFl.out, hGl.out]; exact h2) (by omega)] at this
            have htI : (t : Int) - 1 < (M : Int) := by omega
            clear htM
            go_wp2_with fail
            go_roundw
            case rel =>
              have hm := HM.out
              refine ⟨⟨M, A6, c6, hMo, by go_num, by rw [hm], ?_, ?_, ?_⟩, Hb7.out, hsz7⟩
              · rw [hrt.out, hm]; exact Hk7.out
              · rw [hrt.out]; exact hFf.out
              · rw [hrt.out]; exact hGf.out
            case measure => have hm := HM.out; simp [intOf]; omega
      · have e : m = o := by omega
        subst e
        have hr : Hid (refP l (m : Int) = ((refTo f0 m).2, 0)) := by show _ = _; rw [refP_ok hok.out Hw.out, Int.toNat_natCast, ← Hf0.out]
        go_wp2_with fail
        go_ret2
        rw [hr.out]
        exact ints_of (Hk.out.base (by omega)) Hb.out
theorem reflectL_any (l : List Int) (n : Nat) (hn : n = l.length) (hn1 : n ≤ 9223372036854775807) (o : Int) (A : Option Addr) (c : Nat) (w : World) (ha : Ints .i64 w w.heap.size A l) :
    Calls Try.prog 24 #[.slice A n c, .int .i64 o] w (IntsQ (refP l o) w) := by
  cases h : okRef l o with
  | false => exact reflectL_bad l n hn hn1 o h A c w
  | true =>
    obtain ⟨h1, h2, h3⟩ := okRef_true.1 h
    obtain ⟨m, rfl⟩ := Int.eq_ofNat_of_zero_le (show 0 ≤ o by omega)
    exact reflectL_ok l n hn (by omega) m (by omega) (by omega) A c w ha
end Go.Proofs.Ytmbebcgicddbnaa
