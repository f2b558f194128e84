/-
  The walk of LiftPlaces.
-/
import Derived.Test.YtjdoagkbcooonaaProg
import Derived.Test.YtjdoagkbcooonaaTPl
namespace Go.Proofs.Ytjdoagkbcooonaa
open Go.RowKit

set_option maxRecDepth 100000 in
set_option maxHeartbeats 8000000 in
theorem places_any (A : Option Addr) (c r : Nat) (RA : Nat → Option Addr) (RC : Nat → Nat) (R : Nat → List Int) (hr : r ≤ 9223372036854775807) (ls : List Lft) (hm : ls.length ≤ 9223372036854775807) (B : Option Addr) (d : Nat) (from_ to_ : Int) (w : World) (h : Rw w w.heap.size A r RA RC R) (hs : Lfts w w.heap.size B ls) (_f1 : (Lit.int .i64 from_).wf = true) (_f2 : (Lit.int .i64 to_).wf = true) :
    Calls Try.prog 7 #[.slice A r c, .slice B ls.length d, .int .i64 from_, .int .i64 to_] w fun e w' => e = .returned (.bool true) ∧ Below w.heap.size w w' := by
  clear _f1 _f2
  go_enter Try.func7, Try.ntmps7
  go_wp2_with fail
  (with_reducible refine (known_any _).mono ?_); rintro e w1 ⟨rfl, b1⟩
  go_wp2_with fail
  (with_reducible refine (small_any R r hr RA RC _ _ _ _ _ hm _ _ ((h.below b1).more b1.size)).mono ?_); rintro e w2 ⟨rfl, b2⟩
  have B2 := bth b1 b2
  clear b1 b2
  cases hsm : (smallB R r 150 && decide (ls.length ≤ 20)) with
  | false =>
    go_wp2_with fail
    go_ret
    exact ⟨rfl, B2⟩
  | true =>
    have hsm' : smallB R r 150 = true ∧ ls.length ≤ 20 := by simpa using hsm
    obtain ⟨h12, hlen⟩ := smallB_true.1 hsm'.1
    have h20 := hsm'.2
    have HR : Hid (∀ i, i < r → (R i).length ≤ 100000) := fun i hi => by have := hlen i hi; omega
    have m200 : 0 < r → (R 0).length ≤ 150 := fun h0 => by have := hlen 0 h0; omega
    clear hsm hsm' hlen
    go_wp2_with fail
    (with_reducible refine (fits_any R r (by omega) HR.out RA RC ls _ rfl hm _ _ _ _ _ ((h.below B2).more B2.size) ((hs.below B2).more B2.size)).mono ?_); rintro e w3 ⟨rfl, b3⟩
    have B3 := bth B2 b3
    clear b3 B2
    cases hf : (rowsB R r && liftB ls (r : Int)) with
    | false =>
      go_wp2_with fail
      go_ret
      exact ⟨rfl, B3⟩
    | true =>
      have hf' : rowsB R r = true ∧ liftB ls (r : Int) = true := by simpa using hf
      have Hrow := Lib.hid hf'.1
      have Hl := Lib.hid hf'.2
      have r1 := (rowsB_true.1 hf'.1).1
      have r8 := (rowsB_true.1 hf'.1).2.1
      have ml := m200 (by omega)
      have Hlv := Lib.hid (lvl_of hf'.1)
      clear hf hf' m200
      obtain ⟨n, hn⟩ : ∃ n, n = (R 0).length := ⟨_, rfl⟩
      have Hn := Lib.hid hn
      rw [← hn] at ml Hlv
      clear hn
      obtain ⟨u, hu⟩ : ∃ u : Nat, bits .and .i64 from_ 65535 = (u : Int) := ⟨(bits .and .i64 from_ 65535).toNat, by have := and16 from_; omega⟩
      obtain ⟨v, hv⟩ : ∃ v : Nat, bits .and .i64 to_ 65535 = (v : Int) := ⟨(bits .and .i64 to_ 65535).toNat, by have := and16 to_; omega⟩
      obtain ⟨a, ha⟩ : ∃ a : Nat, (u : Int) % ((n : Int) + 1) = (a : Int) := ⟨u % (n + 1), by rw [Int.natCast_emod]; rfl⟩
      have han : a ≤ n := by have := Int.emod_lt_of_pos (u : Int) (show (0 : Int) < (n : Int) + 1 by omega); omega
      obtain ⟨dd, hdd⟩ : ∃ dd : Nat, (v : Int) % ((n : Int) - (a : Int) + 1) = (dd : Int) := ⟨v % (n - a + 1), by rw [Int.natCast_emod]; congr 1; omega⟩
      have hdn : a + dd ≤ n := by have := Int.emod_lt_of_pos (v : Int) (show (0 : Int) < (n : Int) - (a : Int) + 1 by omega); omega
      obtain ⟨b, hb⟩ : ∃ b : Nat, b = a + dd := ⟨_, rfl⟩
      have habI : (a : Int) + (dd : Int) = (b : Int) := by omega
      have hda : b - a = dd := by omega
      have Hb := Lib.hid hb
      clear hb
      have h3 := (h.below B3).more B3.size
      obtain ⟨bA, oA, rfl, hz⟩ := h3.at_ (i := 0) (by omega)
      rw [Nat.add_zero, ← Hn.out] at hz
      have s0 : (0 : Int) < (r : Int) := by omega
      go_wp2_with fail
      rw [ha]
      obtain ⟨x, hx⟩ : ∃ x, x = doP 1 R r ls := ⟨_, rfl⟩
      have Hx := Lib.hid hx
      have Ha := Lib.hid ha
      clear ha hdd hu hv hx hz
      (with_reducible refine (doL_any R r (by omega) HR.out RA RC ls _ rfl hm _ _ _ _ _ h3 ((hs.below B3).more B3.size)).mono ?_); rintro e w4 hd4
      rw [← Hx.out] at hd4
      obtain ⟨⟨A4, k4, RA4, RC4, rfl, ho4⟩, b4⟩ := do_form hd4
      have B4 := bth B3 b4
      have Ho4 := Lib.hid ho4
      obtain ⟨nx, hnx⟩ : ∃ nx, nx = resN x r := ⟨_, rfl⟩
      obtain ⟨cx, hcx⟩ : ∃ cx, cx = resC x := ⟨_, rfl⟩
      have Hnx := Lib.hid hnx
      have Hcx := Lib.hid hcx
      rw [← hnx, ← hcx]
      clear hd4 b4 B3 ho4 h3 hnx hcx
      have h4 := (h.below B4).more B4.size
      go_wp2_with fail
      go_loopw [12, 16] (fun pv iv wr => (∃ (k : Nat) (A' : Option Addr) (c' : Nat) (RA' : Nat → Option Addr) (RC' : Nat → Nat), k ≤ r ∧ iv = .int .i64 k ∧ pv = .slice A' k c' ∧ OwnP wr w4.heap.size A' k c' dd RA' RC' (fun i => partL a dd (R i))) ∧ Below w4.heap.size w4 wr) (fun _ iv _ => r - (intOf iv).toNat)
      case atStart => exact ⟨⟨0, none, 0, fun _ => none, fun _ => 0, Nat.zero_le _, rfl, rfl, ownP_nil _ _ _ _ _ _⟩, brefl w4⟩
      case round =>
        obtain ⟨⟨k, A5, c5, RA5, RC5, hk, rfl, rfl, ho⟩, hbl⟩ := hrel
        obtain ⟨wo, rfl⟩ : ∃ wo : World, wo = wr := ⟨_, rfl⟩
        have Ho := Lib.hid ho
        have Hb5 := Lib.hid hbl
        clear ho hbl
        by_cases hlt : k < r
        · obtain ⟨b1, o1, e1, hc⟩ := (h4.below Hb5.out).at_ hlt
          have Hlk : Hid ((R k).length = n) := (Hlv.out k hlt).1
          have Hin := Lib.hid ((h4.below Hb5.out).ints k hlt)
          have hcap := h4.cap k hlt
          rw [Hlk.out] at hc hcap
          have hbs := Hb5.out.size
          have s1 : (a : Int) ≤ (b : Int) := by omega
          have s5 : (k : Int) < (r : Int) := by omega
          simp only [Option.some.injEq, Addr.mk.injEq, and_true] at e1
          obtain ⟨rfl, rfl⟩ := e1
          cases hRA : RA k with
          | none =>
            have n0 : n = 0 := by
              by_cases hp : 0 < n
              · obtain ⟨bb, oo, e, _⟩ := Hin.out.at_ (i := 0) (by rw [Hlk.out]; exact hp)
                rw [hRA] at e; cases e
              · omega
            have a0 : a = 0 := by omega
            have d0 : dd = 0 := by omega
            have b0 : b = 0 := by omega
            rw [hRA] at hc
            have HRA := Lib.hid hRA
            clear hRA
            subst n0 a0 d0 b0
            go_wp2_with (at_builtin; refine app_s _ rfl (.tmp 62) (.tmp 70) rfl w4.heap.size _ _ _ _ rfl (World.ownsRow.alloc Ho.out.outer _) _ _ 1 (.slice none 0 (RC k)) rfl (rd_new1 _ _ _) rfl (by omega) (by simp; omega) ?_; intro A7 c7 w7 ho7 hg7 hat7)
            have Hb7 : Hid (Below w4.heap.size w4 w7) := (Hb5.out.alloc hbs (.cells #[.slice none 0 (RC k)] 33)).grown hg7 (by simp; omega) fun q hq => (World.ownsRow.lt Ho.out.outer q hq).1
            have Ho7 := Lib.hid (OwnP.push (A' := none) (c' := RC k) Ho.out hbs (by rw [part_zero]; exact Ints.nil) (partL_len (by rw [Hlk.out]; exact hdn)) (by omega) ho7 (((Below.refl _ wo).alloc hbs (.cells #[.slice none 0 (RC k)] 33)).grown hg7 (by simp; omega) fun q hq => (World.ownsRow.lt Ho.out.outer q hq).1))
            clear ho7 hg7 hat7
            go_roundw
            case rel => first | exact ⟨⟨k + 1, A7, c7, _, _, by omega, by go_num, rfl, Ho7.out⟩, Hb7.out⟩ | exact ⟨⟨k + 1, by omega, by go_num, A7, c7, ⟨rfl, rfl, rfl⟩, _, _, Ho7.out⟩, Hb7.out⟩ | exact ⟨_, .slice A7 (k + 1) c7, .int .i64 ((k + 1 : Nat) : Int), ⟨⟨k + 1, by omega, rfl, A7, c7, rfl, _, _, Ho7.out⟩, Hb7.out⟩, rfl, rfl, by go_num⟩
            case measure => simp [intOf]; omega
          | some p =>
            obtain ⟨g, o, sp⟩ := p
            rw [hRA] at hc
            have HinP : Hid (Ints .i64 wo w4.heap.size (some ⟨g, o, sp⟩) (R k)) := by have := Hin.out; rw [hRA] at this; exact this
            clear hRA
            by_cases hca : RC k = a
            · have d0 : dd = 0 := by omega
              have hcz : RC k - a = 0 := by omega
              subst d0
              have b0 : a = b := by omega
              subst b0
              go_wp2_with (at_builtin; refine app_s _ rfl (.tmp 62) (.tmp 70) rfl w4.heap.size _ _ _ _ rfl (World.ownsRow.alloc Ho.out.outer _) _ _ 1 (.slice (some ⟨g, o, sp⟩) 0 0) rfl (rd_new1 _ _ _) rfl (by omega) (by simp; omega) ?_; intro A7 c7 w7 ho7 hg7 hat7)
              have Hb7 : Hid (Below w4.heap.size w4 w7) := (Hb5.out.alloc hbs (.cells #[.slice (some ⟨g, o, sp⟩) 0 0] 33)).grown hg7 (by simp; omega) fun q hq => (World.ownsRow.lt Ho.out.outer q hq).1
              have Ho7 := Lib.hid (OwnP.push (A' := some ⟨g, o, sp⟩) (c' := 0) Ho.out hbs (by rw [part_zero]; exact Ints.nil) (partL_len (by rw [Hlk.out]; exact hdn)) (by omega) ho7 (((Below.refl _ wo).alloc hbs (.cells #[.slice (some ⟨g, o, sp⟩) 0 0] 33)).grown hg7 (by simp; omega) fun q hq => (World.ownsRow.lt Ho.out.outer q hq).1))
              clear ho7 hg7 hat7
              go_roundw
              case rel => first | exact ⟨⟨k + 1, A7, c7, _, _, by omega, by go_num, rfl, Ho7.out⟩, Hb7.out⟩ | exact ⟨⟨k + 1, by omega, by go_num, A7, c7, ⟨rfl, rfl, rfl⟩, _, _, Ho7.out⟩, Hb7.out⟩ | exact ⟨_, .slice A7 (k + 1) c7, .int .i64 ((k + 1 : Nat) : Int), ⟨⟨k + 1, by omega, rfl, A7, c7, rfl, _, _, Ho7.out⟩, Hb7.out⟩, rfl, rfl, by go_num⟩
              case measure => simp [intOf]; omega
            · have hca1 : a < RC k := by omega
              go_wp2_with (at_builtin; refine app_s _ rfl (.tmp 62) (.tmp 70) rfl w4.heap.size _ _ _ _ rfl (World.ownsRow.alloc Ho.out.outer _) _ _ 1 (.slice (some (Addr.add ⟨g, o, sp⟩ a)) dd (RC k - a)) rfl (rd_new1 _ _ _) rfl (by omega) (by simp; omega) ?_; intro A7 c7 w7 ho7 hg7 hat7)
              have Hb7 : Hid (Below w4.heap.size w4 w7) := (Hb5.out.alloc hbs (.cells #[.slice (some (Addr.add ⟨g, o, sp⟩ a)) dd (RC k - a)] 33)).grown hg7 (by simp; omega) fun q hq => (World.ownsRow.lt Ho.out.outer q hq).1
              have Ho7 := Lib.hid (OwnP.push (A' := some (Addr.add ⟨g, o, sp⟩ a)) (c' := RC k - a) Ho.out hbs (part_read HinP.out (by rw [Hlk.out]; exact hdn)) (partL_len (by rw [Hlk.out]; exact hdn)) (by omega) ho7 (((Below.refl _ wo).alloc hbs (.cells #[.slice (some (Addr.add ⟨g, o, sp⟩ a)) dd (RC k - a)] 33)).grown hg7 (by simp; omega) fun q hq => (World.ownsRow.lt Ho.out.outer q hq).1))
              clear ho7 hg7 hat7
              go_roundw
              case rel => first | exact ⟨⟨k + 1, A7, c7, _, _, by omega, by go_num, rfl, Ho7.out⟩, Hb7.out⟩ | exact ⟨⟨k + 1, by omega, by go_num, A7, c7, ⟨rfl, rfl, rfl⟩, _, _, Ho7.out⟩, Hb7.out⟩ | exact ⟨_, .slice A7 (k + 1) c7, .int .i64 ((k + 1 : Nat) : Int), ⟨⟨k + 1, by omega, rfl, A7, c7, rfl, _, _, Ho7.out⟩, Hb7.out⟩, rfl, rfl, by go_num⟩
              case measure => simp [intOf]; omega
        · have e : r = k := by omega
          subst e
          go_wp2_with fail
          have hbs := Hb5.out.size
          have B5 := bth B4 Hb5.out
          (with_reducible refine (doL_any (fun i => partL a dd (R i)) r (by omega) (fun i hi => by rw [partL_len (by rw [(lvl_at Hlv.out hi).1]; exact hdn)]; omega) RA5 RC5 ls _ rfl hm _ _ _ _ _ (Ho.out.rw hbs (by omega)) ((hs.below B5).more B5.size)).mono ?_); rintro e w8 hd8
          have p4 := Ho4.out.below Hb5.out (Nat.le_refl _)
          clear Ho h4 Ho4
          rcases doP_two (sg := 1) Hrow.out Hl.out with hx | ⟨X, hx⟩
          · have hcx : cx = 6 := by rw [Hcx.out, Hx.out, hx]; rfl
            subst hcx
            rcases doP_two (sg := 1) (rows_part Hrow.out (by rw [← Hn.out]; exact hdn)) Hl.out with hy | ⟨Y, hy⟩
            · obtain ⟨rfl, b8⟩ := do_elim_err hd8 hy
              clear hd8 hy hx
              go_wp2_with fail
              go_ret
              exact ⟨rfl, bth B5 b8⟩
            · obtain ⟨⟨A8, k8, RA8, RC8, rfl, ho8⟩, b8⟩ := do_elim hd8 hy
              clear hd8 hy hx
              go_wp2_with fail
              go_ret
              exact ⟨rfl, bth B5 b8⟩
          · have hcx : cx = 0 := by rw [Hcx.out, Hx.out, hx]; rfl
            have hnx : nx = r := by rw [Hnx.out, Hx.out, hx]; rfl
            subst hcx
            rw [← Hnx.out] at p4
            have hX0 : resQ x = X := by rw [Hx.out, hx]; rfl
            rw [hX0] at p4
            rw [hnx] at p4 ⊢
            obtain ⟨⟨A8, k8, RA8, RC8, rfl, ho8⟩, b8⟩ := do_elim hd8 (doP_part hx (by rw [← Hn.out]; exact hdn))
            have B8 := bth B5 b8
            have hXl := Lib.hid (doP_len hx)
            have hX : Rw w8 w8.heap.size A4 r RA4 RC4 X := (p4.below b8 (Nat.le_refl _)).rw (by have := Hn.out; omega)
            obtain ⟨bX, oX, rfl, _⟩ := hX.at_ (i := 0) (by omega)
            have Ho8 := Lib.hid ho8
            have hne : ((r : Int) != (r : Int)) = false := by simp
            have hnn : ((n : Int) != (n : Int)) = false := by simp
            clear hd8 hx hX0 hnx p4 B4 B5 b8 ho8 Hb5
            go_wp2_with fail
            go_loopw [13, 19] (fun pv iv wr => (∃ (k : Nat) (A' : Option Addr) (c' : Nat) (RA' : Nat → Option Addr) (RC' : Nat → Nat), k ≤ r ∧ iv = .int .i64 k ∧ pv = .slice A' k c' ∧ OwnP wr w8.heap.size A' k c' dd RA' RC' (fun i => partL a dd (X i))) ∧ Below w8.heap.size w8 wr) (fun _ iv _ => r - (intOf iv).toNat)
            case atStart => exact ⟨⟨0, none, 0, fun _ => none, fun _ => 0, Nat.zero_le _, rfl, rfl, ownP_nil _ _ _ _ _ _⟩, brefl w8⟩
            case round =>
              obtain ⟨⟨k, A5, c5, RA5, RC5, hk, rfl, rfl, ho⟩, hbl⟩ := hrel
              obtain ⟨wo, rfl⟩ : ∃ wo : World, wo = wr := ⟨_, rfl⟩
              have Ho := Lib.hid ho
              have Hb5 := Lib.hid hbl
              clear ho hbl
              by_cases hlt : k < r
              · obtain ⟨b1, o1, e1, hc⟩ := (hX.below Hb5.out).at_ hlt
                have Hlk : Hid ((X k).length = n) := by show _ = _; rw [hXl.out k hlt, ← Hn.out]
                have Hin := Lib.hid ((hX.below Hb5.out).ints k hlt)
                have hcap := hX.cap k hlt
                rw [Hlk.out] at hc hcap
                have hbs := Hb5.out.size
                have s1 : (a : Int) ≤ (b : Int) := by omega
                have s5 : (k : Int) < (r : Int) := by omega
                simp only [Option.some.injEq, Addr.mk.injEq, and_true] at e1
                obtain ⟨rfl, rfl⟩ := e1
                cases hRA : RA4 k with
                | none =>
                  have n0 : n = 0 := by
                    by_cases hp : 0 < n
                    · obtain ⟨bb, oo, e, _⟩ := Hin.out.at_ (i := 0) (by rw [Hlk.out]; exact hp)
                      rw [hRA] at e; cases e
                    · omega
                  have a0 : a = 0 := by omega
                  have d0 : dd = 0 := by omega
                  have b0 : b = 0 := by omega
                  rw [hRA] at hc
                  have HRA := Lib.hid hRA
                  clear hRA
                  subst n0 a0 d0 b0
                  go_wp2_with (at_builtin; refine app_s _ rfl (.tmp 108) (.tmp 116) rfl w8.heap.size _ _ _ _ rfl (World.ownsRow.alloc Ho.out.outer _) _ _ 1 (.slice none 0 (RC4 k)) rfl (rd_new1 _ _ _) rfl (by omega) (by simp; omega) ?_; intro A7 c7 w7 ho7 hg7 hat7)
                  have Hb7 : Hid (Below w8.heap.size w8 w7) := (Hb5.out.alloc hbs (.cells #[.slice none 0 (RC4 k)] 33)).grown hg7 (by simp; omega) fun q hq => (World.ownsRow.lt Ho.out.outer q hq).1
                  have Ho7 := Lib.hid (OwnP.push (A' := none) (c' := RC4 k) Ho.out hbs (by rw [part_zero]; exact Ints.nil) (partL_len (by rw [Hlk.out]; exact hdn)) (by omega) ho7 (((Below.refl _ wo).alloc hbs (.cells #[.slice none 0 (RC4 k)] 33)).grown hg7 (by simp; omega) fun q hq => (World.ownsRow.lt Ho.out.outer q hq).1))
                  clear ho7 hg7 hat7
                  go_roundw
                  case rel => first | exact ⟨⟨k + 1, A7, c7, _, _, by omega, by go_num, rfl, Ho7.out⟩, Hb7.out⟩ | exact ⟨⟨k + 1, by omega, by go_num, A7, c7, ⟨rfl, rfl, rfl⟩, _, _, Ho7.out⟩, Hb7.out⟩ | exact ⟨_, .slice A7 (k + 1) c7, .int .i64 ((k + 1 : Nat) : Int), ⟨⟨k + 1, by omega, rfl, A7, c7, rfl, _, _, Ho7.out⟩, Hb7.out⟩, rfl, rfl, by go_num⟩
                  case measure => simp [intOf]; omega
                | some p =>
                  obtain ⟨g, o, sp⟩ := p
                  rw [hRA] at hc
                  have HinP : Hid (Ints .i64 wo w8.heap.size (some ⟨g, o, sp⟩) (X k)) := by have := Hin.out; rw [hRA] at this; exact this
                  clear hRA
                  by_cases hca : RC4 k = a
                  · have d0 : dd = 0 := by omega
                    have hcz : RC4 k - a = 0 := by omega
                    subst d0
                    have b0 : a = b := by omega
                    subst b0
                    go_wp2_with (at_builtin; refine app_s _ rfl (.tmp 108) (.tmp 116) rfl w8.heap.size _ _ _ _ rfl (World.ownsRow.alloc Ho.out.outer _) _ _ 1 (.slice (some ⟨g, o, sp⟩) 0 0) rfl (rd_new1 _ _ _) rfl (by omega) (by simp; omega) ?_; intro A7 c7 w7 ho7 hg7 hat7)
                    have Hb7 : Hid (Below w8.heap.size w8 w7) := (Hb5.out.alloc hbs (.cells #[.slice (some ⟨g, o, sp⟩) 0 0] 33)).grown hg7 (by simp; omega) fun q hq => (World.ownsRow.lt Ho.out.outer q hq).1
                    have Ho7 := Lib.hid (OwnP.push (A' := some ⟨g, o, sp⟩) (c' := 0) Ho.out hbs (by rw [part_zero]; exact Ints.nil) (partL_len (by rw [Hlk.out]; exact hdn)) (by omega) ho7 (((Below.refl _ wo).alloc hbs (.cells #[.slice (some ⟨g, o, sp⟩) 0 0] 33)).grown hg7 (by simp; omega) fun q hq => (World.ownsRow.lt Ho.out.outer q hq).1))
                    clear ho7 hg7 hat7
                    go_roundw
                    case rel => first | exact ⟨⟨k + 1, A7, c7, _, _, by omega, by go_num, rfl, Ho7.out⟩, Hb7.out⟩ | exact ⟨⟨k + 1, by omega, by go_num, A7, c7, ⟨rfl, rfl, rfl⟩, _, _, Ho7.out⟩, Hb7.out⟩ | exact ⟨_, .slice A7 (k + 1) c7, .int .i64 ((k + 1 : Nat) : Int), ⟨⟨k + 1, by omega, rfl, A7, c7, rfl, _, _, Ho7.out⟩, Hb7.out⟩, rfl, rfl, by go_num⟩
                    case measure => simp [intOf]; omega
                  · have hca1 : a < RC4 k := by omega
                    go_wp2_with (at_builtin; refine app_s _ rfl (.tmp 108) (.tmp 116) rfl w8.heap.size _ _ _ _ rfl (World.ownsRow.alloc Ho.out.outer _) _ _ 1 (.slice (some (Addr.add ⟨g, o, sp⟩ a)) dd (RC4 k - a)) rfl (rd_new1 _ _ _) rfl (by omega) (by simp; omega) ?_; intro A7 c7 w7 ho7 hg7 hat7)
                    have Hb7 : Hid (Below w8.heap.size w8 w7) := (Hb5.out.alloc hbs (.cells #[.slice (some (Addr.add ⟨g, o, sp⟩ a)) dd (RC4 k - a)] 33)).grown hg7 (by simp; omega) fun q hq => (World.ownsRow.lt Ho.out.outer q hq).1
                    have Ho7 := Lib.hid (OwnP.push (A' := some (Addr.add ⟨g, o, sp⟩ a)) (c' := RC4 k - a) Ho.out hbs (part_read HinP.out (by rw [Hlk.out]; exact hdn)) (partL_len (by rw [Hlk.out]; exact hdn)) (by omega) ho7 (((Below.refl _ wo).alloc hbs (.cells #[.slice (some (Addr.add ⟨g, o, sp⟩ a)) dd (RC4 k - a)] 33)).grown hg7 (by simp; omega) fun q hq => (World.ownsRow.lt Ho.out.outer q hq).1))
                    clear ho7 hg7 hat7
                    go_roundw
                    case rel => first | exact ⟨⟨k + 1, A7, c7, _, _, by omega, by go_num, rfl, Ho7.out⟩, Hb7.out⟩ | exact ⟨⟨k + 1, by omega, by go_num, A7, c7, ⟨rfl, rfl, rfl⟩, _, _, Ho7.out⟩, Hb7.out⟩ | exact ⟨_, .slice A7 (k + 1) c7, .int .i64 ((k + 1 : Nat) : Int), ⟨⟨k + 1, by omega, rfl, A7, c7, rfl, _, _, Ho7.out⟩, Hb7.out⟩, rfl, rfl, by go_num⟩
                    case measure => simp [intOf]; omega
              · have e : r = k := by omega
                subst e
                have BB := bth B8 Hb5.out
                have hbs := Hb5.out.size
                have g8 := Ho8.out.below Hb5.out (Nat.le_refl _)
                have hl8 : Hid ((partL a dd (R 0)).length = dd) := partL_len (by rw [← Hn.out]; exact hdn)
                have gw := Ho.out.rw hbs (by omega)
                go_wp2_with fail
                (with_reducible refine (sameRows_any (fun i => partL a dd (X i)) r (by omega) (fun i hi => by rw [partL_len (by rw [hXl.out i hi, ← Hn.out]; exact hdn)]; omega) _ _ _ _ _ _ _ _ _ _ _ (g8.rw (by rw [hl8.out]; omega)) gw).mono ?_); rintro e w9 ⟨rfl, b9⟩
                go_wp2_with fail
                go_ret
                exact ⟨rfl, bth BB b9⟩
end Go.Proofs.Ytjdoagkbcooonaa
