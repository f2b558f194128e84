/-
  linear: scaled of both, a copy of a row.
-/
import Derived.Test.YtmbebcgicddbnaaProg
import Derived.Test.YtmbebcgicddbnaaNG
namespace Go.Proofs.Ytmbebcgicddbnaa
open Go.RowKit

/-- a row of the call's own that is never nil. -/
def RowQ (xs : List Int) (w : World) (e : Ending) (w' : World) : Prop := ∃ g c, e = .returned (.slice (some ⟨g, 0, none⟩) xs.length c) ∧ OwnZ w' w.heap.size (some ⟨g, 0, none⟩) xs.length c xs ∧ Below w.heap.size w w'
theorem OwnZ.addr0 {w : World} {B n c : Nat} {A : Option Addr} {l : List Int} (h : OwnZ w B A n c l) (hA : A ≠ none) : ∃ g, A = some ⟨g, 0, none⟩ := by
  rcases h.2 with ⟨hv, _⟩ | ⟨g, cap, cur, hv, _⟩
  · injection hv with h1; exact absurd h1 hA
  · injection hv with h1; exact ⟨g, h1⟩

def SliceZ (xs : List Int) (w : World) (e : Ending) (w' : World) : Prop := ∃ A c, e = .returned (.slice A xs.length c) ∧ OwnZ w' w.heap.size A xs.length c xs ∧ Below w.heap.size w w'
set_option maxHeartbeats 1000000 in
theorem scaledL_any (l : List Int) (n : Nat) (hn : n = l.length) (hn1 : n ≤ 60000) (hw : allWideB l = true) (A : Option Addr) (c : Nat) (w : World) (ha : Ints .i64 w w.heap.size A l) :
    Calls Try.prog 36 #[.slice A n c] w (RowQ (scaledP l) w) := by
  have Hn := Lib.hid hn
  have Hw := Lib.hid hw
  clear hn hw
  go_enter Try.func36, Try.ntmps36
  go_wp2_with fail
  go_loopw [3, 5, 11, 22] (fun sv _ iv _ wr => (∃ k s : Nat, k ≤ n ∧ s ≤ 10 ∧ iv = .int .i64 k ∧ sv = .int .i64 s ∧ (∀ j, j < k → inB (ix l j / 2 ^ s) = true) ∧ ∀ t, t < s → okS l t = false) ∧ ∃ q, wr = w.drewN q) (fun _ _ iv _ _ => n - (intOf iv).toNat)
  case atStart => exact ⟨⟨0, 0, Nat.zero_le _, Nat.zero_le _, rfl, rfl, fun j h => absurd h (by omega), fun t h => absurd h (by omega)⟩, 0, rfl⟩
  case round =>
    obtain ⟨⟨k, s, hk, hs, rfl, rfl, hin, hno⟩, q, rfl⟩ := hrel
    have Hin := Lib.hid hin
    have Hno := Lib.hid hno
    clear hin hno
    by_cases hlt : k < n
    · obtain ⟨b1, o1, rfl, hc1⟩ := ha.at_ (i := k) (by rw [← Hn.out]; exact hlt)
      obtain ⟨x, hx⟩ : ∃ x, x = ix l k := ⟨_, rfl⟩
      rw [← hx] at hc1
      have Hx := Lib.hid hx
      clear hx
      have hten : Hid (inB (x / 2 ^ 10) = true) := by show _ = _; rw [Hx.out]; exact inB_ten (allWideB_true.1 Hw.out k (by rw [← Hn.out]; exact hlt))
      go_wp2_with fail
      go_loopw [3, 22] (fun sv _ wr => (∃ s : Nat, s ≤ 10 ∧ sv = .int .i64 s ∧ (∀ j, j < k → inB (ix l j / 2 ^ s) = true) ∧ ∀ t, t < s → okS l t = false) ∧ ∃ q, wr = w.drewN q) (fun sv _ _ => 10 - (intOf sv).toNat)
      case atStart => exact ⟨⟨s, hs, rfl, Hin.out, Hno.out⟩, q, rfl⟩
      case round =>
        obtain ⟨⟨s, hs, rfl, hin, hno⟩, q, rfl⟩ := hrel
        have Hin := Lib.hid hin
        have Hno := Lib.hid hno
        clear hin hno
        have sI : (s : Int) ≤ 10 := by omega
        have s0 : (0 : Int) ≤ (s : Int) := by omega
        obtain ⟨y, hy⟩ : ∃ y, x / 2 ^ s = y := ⟨_, rfl⟩
        have Hy := Lib.hid hy
        have hcl : ∀ w', Calls Try.prog 39 #[.int .i64 y] w' fun e w'' => e = .returned (.int .i64 (heldI y)) ∧ w'' = w' := fun w' => (clampL_any y w').mono fun _ _ ⟨h1, h2⟩ => ⟨h1, h2.symm⟩
        have Hcl := Lib.hid hcl
        generalize hwq : w.drewN q = wo
        have Hwq := Lib.hid hwq
        clear hcl hwq hy
        have hy2 := Hy.out
        cases hb : inB y with
        | true =>
          have hne : (heldI y != y) = false := by simp [held_in.2 hb]
          have Hb := Lib.hid hb
          clear hb
          go_wp2_with fail
          go_quiet ((go_at_call 39; exact Calls.quiet_of_same (Hcl.out _)))
          go_wp2_with fail
          go_roundw
          case rel =>
            refine ⟨⟨k + 1, s, by omega, hs, by go_num, rfl, fun j h => ?_, Hno.out⟩, q + nq, by rw [← Hwq.out, World.drewN_drewN]⟩
            by_cases e : j = k
            · subst e; rw [← Hx.out, Hy.out]; exact Hb.out
            · exact Hin.out j (by omega)
          case measure => simp [intOf]; omega
        | false =>
          have hne : (heldI y != y) = true := by
            simp only [bne_iff_ne]
            intro h; rw [held_in.1 h] at hb; cases hb
          have hs9 : s < 10 := by
            by_cases e : s < 10
            · exact e
            · have e2 : s = 10 := by omega
              subst e2
              rw [← hy2, hten.out] at hb; cases hb
          have hok : Hid (okS l s = false) := okS_false (by rw [← Hn.out]; exact hlt) (by rw [← Hx.out, Hy.out]; exact hb)
          clear hb
          go_wp2_with fail
          go_quiet ((go_at_call 39; exact Calls.quiet_of_same (Hcl.out _)))
          go_wp2_with fail
          go_roundw
          case rel =>
            refine ⟨⟨s + 1, by omega, by go_num, fun j h => inB_up (Hin.out j h), fun t h => ?_⟩, q + nq, by rw [← Hwq.out, World.drewN_drewN]⟩
            by_cases e : t = s
            · subst e; exact hok.out
            · exact Hno.out t (by omega)
          case measure => simp [intOf]; omega
    · have e : k = n := by omega
      subst e
      have hsh : Hid (shOf l = s) := shOf_eq (okS_true.2 fun j hj => Hin.out j (by rw [Hn.out]; exact hj)) hs Hno.out
      have hmk := run_mk k (by omega)
      generalize hwq : w.drewN q = wo
      have Hwq := Lib.hid hwq
      have haq : Ints .i64 wo w.heap.size A l := by rw [← hwq]; exact ha.drewN q
      have hbq : Below w.heap.size w wo := by rw [← hwq]; exact below_drewN (brefl w) q
      clear hwq
      go_wp2_with fail
      have ho1 := Lib.hid (own_mk wo k (by omega))
      have hb1 := Lib.hid (hbq.alloc hbq.size (zobj k))
      have hz := Lib.hid hbq.size
      obtain ⟨ys, hys⟩ : ∃ ys, ys = divL l s := ⟨_, rfl⟩
      have Hys := Lib.hid hys
      have hyl : Hid (ys.length = k) := by show _ = _; rw [hys, divL_len, Hn.out]
      have hrl : Hid ((List.replicate k (0 : Int)).length = k) := by show _ = _; simp
      clear hmk hys
      go_loopw [7, 8, 31] (fun _ _ iv wr => (∃ j : Nat, j ≤ k ∧ iv = .int .i64 j ∧ OwnZ wr wo.heap.size (some ⟨wo.heap.size, 0, none⟩) k k (mixTo (List.replicate k 0) ys j)) ∧ Below w.heap.size w wr ∧ wo.heap.size < wr.heap.size) (fun _ _ iv _ => k - (intOf iv).toNat)
      case atStart => exact ⟨⟨0, Nat.zero_le _, rfl, by rw [mixTo_zero]; exact ho1.out⟩, hb1.out, by simp⟩
      case round =>
        obtain ⟨⟨j, hj, rfl, ho⟩, hb, hsz⟩ := hrel
        have Ho := Lib.hid ho
        have Hb := Lib.hid hb
        clear ho hb
        by_cases hlt2 : j < k
        · obtain ⟨b1, o1, rfl, hc1⟩ := (ha.below Hb.out).at_ (i := j) (by rw [← Hn.out]; exact hlt2)
          have d1 := own_cell Ho.out hlt2
          have d2 := World.ownsRow.frozenAt Ho.out j
          have hset : Hid ((mixTo (List.replicate k 0) ys j).set j (ix l j / 2 ^ s) = mixTo (List.replicate k 0) ys (j + 1)) := by
            show _ = _
            rw [← mixTo_set (by simpa using hlt2), Hys.out, divL_ix (by rw [← Hn.out]; exact hlt2)]
          have sI : (s : Int) ≤ 10 := by omega
          have hzz := hz.out
          go_wp2_with fail
          go_roundw
          case rel => exact ⟨⟨j + 1, by omega, by go_num, by rw [← hset.out]; exact own_set Ho.out j _⟩, Hb.out.setCell (p := ⟨wo.heap.size, j, none⟩) hzz _, by simp [World.setCell]; exact hsz⟩
          case measure => simp [intOf]; omega
        · have e : j = k := by omega
          subst e
          have hfin : Hid (mixTo (List.replicate j 0) ys j = scaledP l) := by
            show _ = _
            rw [mixTo_all (by rw [hyl.out, hrl.out]) (by rw [hrl.out]; exact Nat.le_refl _), Hys.out, divL_scaled hsh.out]
          have hll : Hid ((scaledP l).length = j) := by show _ = _; rw [scaledP_len, Hn.out]
          go_wp2_with fail
          go_ret
          refine ⟨wo.heap.size, j, by rw [hll.out]; rfl, ?_, Hb.out⟩
          rw [hll.out, ← hfin.out]
          exact Ho.out.base hz.out

set_option maxHeartbeats 1000000 in
theorem cloneS_any (xs : List Int) (n : Nat) (hn : n = xs.length) (hn1 : n ≤ 60000) (g c : Nat) (w : World) (ha : Ints .i64 w w.heap.size (some ⟨g, 0, none⟩) xs) :
    Calls Try.prog 37 #[.slice (some ⟨g, 0, none⟩) n c] w (SliceZ xs w) := by
  have Hn := Lib.hid hn
  clear hn
  have hnil := fun w => Lib.run_eql_slice_nil (P := Try.prog) w 22 3 (some ⟨g, 0, none⟩) n c 0 0 Try.underlying22
  go_enter Try.func37, Try.ntmps37
  go_wp2_with (at_builtin; refine app_z0 _ rfl (.tmp 5) (.tmp 6) rfl w _ _ rfl (own_emptyZ w) _ _ n c xs rfl Hn.out.symm (ha.below (bal (brefl w) _)) (by omega) (bal (brefl w) _) ?_; intro A1 c1 w1 ho1 hb1)
  go_ret
  have h := Hn.out
  exact ⟨A1, c1, by rw [← h]; rfl, by rw [← h]; exact ho1, hb1⟩

theorem divL_step {l : List Int} {s n j : Nat} (hn : n = l.length) (h : j < n) : (mixTo (divL l s) (divL l (s + 1)) j).set j (ix l j / 2 ^ s / 2) = mixTo (divL l s) (divL l (s + 1)) (j + 1) := by
  rw [← mixTo_set (by rw [divL_len]; omega), divL_ix (s := s + 1) (by omega), div_succ]

set_option maxHeartbeats 2000000 in
theorem scaledR_any (l : List Int) (n : Nat) (hn : n = l.length) (hn1 : n ≤ 60000) (hw : allWideB l = true) (A : Option Addr) (c : Nat) (w : World) (ha : Ints .i64 w w.heap.size A l) :
    Calls Try.prog 40 #[.slice A n c] w (SliceZ (scaledP l) w) := by
  have Hn := Lib.hid hn
  have Hw := Lib.hid hw
  clear hn hw
  go_enter Try.func40, Try.ntmps40
  go_wp2_with (at_builtin; refine app_z0 _ rfl (.tmp 7) (.tmp 8) rfl w _ _ rfl (own_emptyZ w) _ _ n c l rfl Hn.out.symm (ha.below (bal (brefl w) _)) (by omega) (bal (brefl w) _) ?_; intro A1 c1 w1 ho1 hb1)
  have ho1' := Lib.hid ho1
  have hb1' := Lib.hid hb1
  clear ho1 hb1
  go_loopg [4, 5, 6] 10 (fun gh _ _ _ wr => (∃ s : Nat, s + gh = 10 ∧ OwnZ wr w.heap.size A1 n c1 (divL l s) ∧ ∀ t, t < s → okS l t = false) ∧ Below w.heap.size w wr)
  case atStart => exact ⟨⟨0, rfl, by rw [divL_zero]; exact ho1'.out, fun t h => absurd h (by omega)⟩, hb1'.out⟩
  case round =>
    obtain ⟨⟨s, hs, ho, hno⟩, hbl⟩ := hrel
    obtain ⟨wo, rfl⟩ : ∃ wo : World, wo = wr := ⟨_, rfl⟩
    have Ho := Lib.hid ho
    have Hb := Lib.hid hbl
    have Hno := Lib.hid hno
    have Hs := Lib.hid hs
    clear ho hbl hno hs
    go_wp2_with fail
    go_loopw [4, 5] (fun okv iv wi => (∃ (j : Nat) (ok : Bool), j ≤ n ∧ iv = .int .i64 j ∧ okv = .bool ok ∧ (ok = true → ∀ i, i < j → inB (ix l i / 2 ^ s) = true) ∧ (ok = false → okS l s = false)) ∧ ∃ q, wi = wo.drewN q) (fun _ iv _ => n - (intOf iv).toNat)
    case atStart => exact ⟨⟨0, true, Nat.zero_le _, rfl, rfl, fun _ i hi => absurd hi (by omega), fun h => by cases h⟩, 0, rfl⟩
    case round =>
      obtain ⟨⟨j, ok, hj, rfl, rfl, h1, h2⟩, q, rfl⟩ := hrel
      have H1 := Lib.hid h1
      have H2 := Lib.hid h2
      clear h1 h2
      by_cases hlt : j < n
      · generalize hwq : wo.drewN q = wi
        have Hwq := Lib.hid hwq
        have Hoi : OwnZ wi w.heap.size A1 n c1 (divL l s) := by rw [← hwq]; exact Ho.out.drewN q
        have HOi := Lib.hid Hoi
        clear hwq Hoi
        obtain ⟨g, rfl, hBg, hgs⟩ := own_addr HOi.out (by omega)
        have d1 := own_cell HOi.out hlt
        rw [divL_ix (by rw [← Hn.out]; exact hlt)] at d1
        obtain ⟨y, hy⟩ : ∃ y, ix l j / 2 ^ s = y := ⟨_, rfl⟩
        rw [hy] at d1
        have Hy := Lib.hid hy
        have hcl : ∀ w', Calls Try.prog 42 #[.int .i64 y] w' fun e w'' => e = .returned (.int .i64 (heldI y)) ∧ w'' = w' := fun w' => (heldR_any y w').mono fun _ _ ⟨h1, h2⟩ => ⟨h1, h2.symm⟩
        have Hcl := Lib.hid hcl
        have t2 : (0 : Int) ≤ (j : Int) := by omega
        have t3 : (j : Int) < (n : Int) := by omega
        clear hcl hy
        cases ok with
        | false =>
          go_wp2_with fail
          go_quiet ((go_at_call 42; exact Calls.quiet_of_same (Hcl.out _)))
          go_wp2_with fail
          go_roundw
          case rel => exact ⟨⟨j + 1, false, by omega, by go_num, rfl, (fun h => by cases h), fun _ => H2.out (by first | rfl | trivial)⟩, q + nq, by rw [← Hwq.out, World.drewN_drewN]⟩
          case measure => simp [intOf]; omega
        | true =>
          cases hb : inB y with
          | true =>
            have heq : (heldI y == y) = true := by simp [held_in.2 hb]
            have Hb2 := Lib.hid hb
            clear hb
            go_wp2_with fail
            go_quiet ((go_at_call 42; exact Calls.quiet_of_same (Hcl.out _)))
            go_wp2_with fail
            go_roundw
            case rel =>
              refine ⟨⟨j + 1, true, by omega, by go_num, rfl, fun _ i hi => ?_, fun h => by cases h⟩, q + nq, by rw [← Hwq.out, World.drewN_drewN]⟩
              by_cases e : i = j
              · subst e; rw [Hy.out]; exact Hb2.out
              · exact H1.out (by first | rfl | trivial) i (by omega)
            case measure => simp [intOf]; omega
          | false =>
            have heq : (heldI y == y) = false := by
              simp only [beq_eq_false_iff_ne, ne_eq]
              intro h; rw [held_in.1 h] at hb; cases hb
            have hok : Hid (okS l s = false) := okS_false (by rw [← Hn.out]; exact hlt) (by rw [Hy.out]; exact hb)
            clear hb
            go_wp2_with fail
            go_quiet ((go_at_call 42; exact Calls.quiet_of_same (Hcl.out _)))
            go_wp2_with fail
            go_roundw
            case rel => exact ⟨⟨j + 1, false, by omega, by go_num, rfl, (fun h => by cases h), fun _ => hok.out⟩, q + nq, by rw [← Hwq.out, World.drewN_drewN]⟩
            case measure => simp [intOf]; omega
      · have e : j = n := by omega
        subst e
        generalize hwq : wo.drewN q = wi
        have HOi : Hid (OwnZ wi w.heap.size A1 j c1 (divL l s)) := by show OwnZ _ _ _ _ _ _; rw [← hwq]; exact Ho.out.drewN q
        have Hbi : Hid (Below w.heap.size w wi) := by show Below _ _ _; rw [← hwq]; exact below_drewN Hb.out q
        clear hwq
        cases ok with
        | true =>
          have hsh : Hid (shOf l = s) := shOf_eq (okS_true.2 fun i hi => H1.out (by first | rfl | trivial) i (by rw [Hn.out]; exact hi)) (by have := Hs.out; omega) Hno.out
          have hll : Hid ((scaledP l).length = j) := by show _ = _; rw [scaledP_len, Hn.out]
          go_wp2_with fail
          go_ret
          refine ⟨A1, c1, by rw [hll.out]; rfl, ?_, Hbi.out⟩
          rw [hll.out, ← divL_scaled hsh.out]
          exact HOi.out
        | false =>
          have hnok : Hid (okS l s = false) := H2.out (by first | rfl | trivial)
          have hs9 : s < 10 := by
            by_cases e : s < 10
            · exact e
            · have e2 : s = 10 := by have := Hs.out; omega
              exfalso
              have h := hnok.out
              rw [e2, okS_true.2 fun i hi => inB_ten (allWideB_true.1 Hw.out i hi)] at h
              cases h
          go_wp2_with fail
          go_loopw [6] (fun iv wr => (∃ i : Nat, i ≤ j ∧ iv = .int .i64 i ∧ OwnZ wr w.heap.size A1 j c1 (mixTo (divL l s) (divL l (s + 1)) i)) ∧ Below w.heap.size w wr) (fun iv _ => j - (intOf iv).toNat)
          case atStart => exact ⟨⟨0, Nat.zero_le _, rfl, by rw [mixTo_zero]; exact HOi.out⟩, Hbi.out⟩
          case round =>
            obtain ⟨⟨i, hi, rfl, ho⟩, hbl⟩ := hrel
            have Hom := Lib.hid ho
            have Hbm := Lib.hid hbl
            clear ho hbl
            by_cases hlt2 : i < j
            · obtain ⟨g, rfl, hBg, hgs⟩ := own_addr Hom.out (by omega)
              have d1 := own_cell Hom.out hlt2
              rw [mixTo_ix (by rw [divL_len, ← Hn.out]; exact hlt2), if_neg (by omega), divL_ix (by rw [← Hn.out]; exact hlt2)] at d1
              have d2 := World.ownsRow.frozenAt Hom.out i
              have hset := Lib.hid (divL_step (s := s) Hn.out hlt2)
              go_wp2_with fail
              go_roundw
              case rel => exact ⟨⟨i + 1, by omega, by go_num, by rw [← hset.out]; exact own_set Hom.out i _⟩, Hbm.out.setCell (p := ⟨g, i, none⟩) hBg _⟩
              case measure => simp [intOf]; omega
            · have e : i = j := by omega
              subst e
              have hfin : Hid (OwnZ wr w.heap.size A1 i c1 (divL l (s + 1))) := by
                show OwnZ _ _ _ _ _ _
                have := Hom.out
                rwa [mixTo_all (by rw [divL_len, divL_len]) (by rw [divL_len, ← Hn.out]; exact Nat.le_refl _)] at this
              go_wp2_with fail
              go_roundg (gk - 1)
              case measure => have := Hs.out; omega
              case rel =>
                refine ⟨⟨s + 1, by have := Hs.out; omega, hfin.out, fun t h => ?_⟩, Hbm.out⟩
                by_cases e : t = s
                · subst e; exact hnok.out
                · exact Hno.out t (by omega)
end Go.Proofs.Ytmbebcgicddbnaa
