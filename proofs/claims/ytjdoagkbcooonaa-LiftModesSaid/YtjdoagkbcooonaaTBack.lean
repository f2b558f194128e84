/-
  LiftBack: the walk.
-/
import Derived.Test.YtjdoagkbcooonaaProg
import Derived.Test.YtjdoagkbcooonaaTDoes
namespace Go.Proofs.Ytjdoagkbcooonaa
open Go.RowKit

theorem doP_back {sg : Int} {R Q : Nat → List Int} {r : Nat} {ls : List Lft} (hsg : sg = 1 ∨ sg = -1) (h : doP sg R r ls = .ok Q) : doP (-sg) Q r ls = .ok R := by
  obtain ⟨hrow, hl, hgo⟩ := doP_okc h
  have hlv := lvl_of hrow
  have hm := liftB_mem hl
  obtain ⟨r1, r2, r3, _⟩ := rowsB_true.1 hrow
  have hm2 : ∀ s ∈ (if sg = 1 then ls else ls.reverse), liftOk (r : Int) s.1 s.2.1 s.2.2 = true := by
    intro s hs
    split at hs
    · exact hm s hs
    · exact hm s (List.mem_reverse.1 hs)
  have hq := goL_lvl hm2 hlv hgo
  have h0 := (hq 0 (by omega)).1
  have hrow2 : rowsB Q r = true := rowsB_true.2 ⟨r1, r2, by omega, fun i hi => ⟨by rw [(hq i hi).1, h0], (hq i hi).2⟩⟩
  refine doP_some hrow2 hl ?_
  have := goL_back hm2 hlv hgo
  rcases hsg with rfl | rfl
  · simpa using this
  · simpa using this
theorem doP_two {sg : Int} {R : Nat → List Int} {r : Nat} {ls : List Lft} (hrow : rowsB R r = true) (hl : liftB ls (r : Int) = true) : doP sg R r ls = .error 6 ∨ ∃ Q, doP sg R r ls = .ok Q := by
  cases h : goL sg R (if sg = 1 then ls else ls.reverse) with
  | none => exact .inl (doP_none hrow hl h)
  | some Q => exact .inr ⟨Q, doP_some hrow hl h⟩
theorem doP_len {sg : Int} {R Q : Nat → List Int} {r : Nat} {ls : List Lft} (h : doP sg R r ls = .ok Q) : ∀ i, i < r → (Q i).length = (R 0).length := by
  obtain ⟨hrow, hl, hgo⟩ := doP_okc h
  have hm := liftB_mem hl
  have hm2 : ∀ s ∈ (if sg = 1 then ls else ls.reverse), liftOk (r : Int) s.1 s.2.1 s.2.2 = true := by
    intro s hs
    split at hs
    · exact hm s hs
    · exact hm s (List.mem_reverse.1 hs)
  exact fun i hi => (goL_lvl hm2 (lvl_of hrow) hgo i hi).1

set_option maxHeartbeats 4000000 in
theorem back_any (A : Option Addr) (c r : Nat) (RA : Nat → Option Addr) (RC : Nat → Nat) (R : Nat → List Int) (hr : r ≤ 9223372036854775807) (ls : List Lft) (hm : ls.length ≤ 9223372036854775807) (B : Option Addr) (d : Nat) (w : World) (h : Rw w w.heap.size A r RA RC R) (hs : Lfts w w.heap.size B ls) :
    Calls Try.prog 4 #[.slice A r c, .slice B ls.length d] w fun e w' => e = .returned (.bool true) ∧ Below w.heap.size w w' := by
  go_enter Try.func4, Try.ntmps4
  go_wp2_with fail
  (with_reducible refine (known_any _).mono ?_); rintro e w1 ⟨rfl, b1⟩
  go_wp2_with fail
  (with_reducible refine (small_any R r hr RA RC _ _ _ _ _ hm _ _ ((h.below b1).more b1.size)).mono ?_); rintro e w2 ⟨rfl, b2⟩
  have B2 := bth b1 b2
  clear b1 b2
  cases hsm : (smallB R r 200 && decide (ls.length ≤ 20)) with
  | false =>
    go_wp2_with fail
    go_ret
    exact ⟨rfl, B2⟩
  | true =>
    have hsm' : smallB R r 200 = true ∧ ls.length ≤ 20 := by simpa using hsm
    obtain ⟨h12, hlen⟩ := smallB_true.1 hsm'.1
    have h20 := hsm'.2
    have HR : Hid (∀ i, i < r → (R i).length ≤ 100000) := fun i hi => by have := hlen i hi; omega
    have m200 : 0 < r → (R 0).length ≤ 200 := fun h0 => by have := hlen 0 h0; omega
    clear hsm hsm' hlen
    go_wp2_with fail
    (with_reducible refine (fits_any R r (by omega) HR.out RA RC ls _ rfl hm _ _ _ _ _ ((h.below B2).more B2.size) ((hs.below B2).more B2.size)).mono ?_); rintro e w3 ⟨rfl, b3⟩
    have B3 := bth B2 b3
    clear b3 B2
    cases hf : (rowsB R r && liftB ls (r : Int)) with
    | false =>
      go_wp2_with fail
      go_ret
      exact ⟨rfl, B3⟩
    | true =>
      have hf' : rowsB R r = true ∧ liftB ls (r : Int) = true := by simpa using hf
      have Hrow := Lib.hid hf'.1
      have Hl := Lib.hid hf'.2
      have r1 := (rowsB_true.1 hf'.1).1
      have r8 := (rowsB_true.1 hf'.1).2.1
      have ml := m200 (by omega)
      clear hf hf' m200
      go_wp2_with fail
      (with_reducible refine (doL_any R r (by omega) HR.out RA RC ls _ rfl hm _ _ _ _ _ ((h.below B3).more B3.size) ((hs.below B3).more B3.size)).mono ?_); rintro e w4 hd4
      rcases doP_two (sg := 1) Hrow.out Hl.out with hx | ⟨Q, hx⟩
      · obtain ⟨rfl, b4⟩ := do_elim_err hd4 hx
        have BB := bth B3 b4
        clear hd4 hx b4 B3
        go_wp2_with fail
        (with_reducible refine (undoL_any R r (by omega) HR.out RA RC ls _ rfl hm _ _ _ _ _ ((h.below BB).more BB.size) ((hs.below BB).more BB.size)).mono ?_); rintro e w7 hd7
        rcases doP_two (sg := -1) Hrow.out Hl.out with hy | ⟨Q2, hy⟩
        · obtain ⟨rfl, b7⟩ := do_elim_err hd7 hy
          clear hd7 hy
          go_wp2_with fail
          go_ret
          exact ⟨rfl, bth BB b7⟩
        · obtain ⟨⟨A7, k7, RA7, RC7, rfl, ho7⟩, b7⟩ := do_elim hd7 hy
          have B7 := bth BB b7
          have hl7 := Lib.hid (doP_len hy)
          have hbk := Lib.hid (doP_back (.inr rfl) hy)
          clear hd7 hy b7 BB
          go_wp2_with fail
          (with_reducible refine (doL_any Q2 r (by omega) (fun i hi => by rw [hl7.out i hi]; omega) RA7 RC7 ls _ rfl hm _ _ _ _ _ (ho7.rw (by omega)) ((hs.below B7).more B7.size)).mono ?_); rintro e w8 hd8
          obtain ⟨⟨A8, k8, RA8, RC8, rfl, ho8⟩, b8⟩ := do_elim hd8 hbk.out
          have B8 := bth B7 b8
          rw [hl7.out 0 (by omega)] at ho8
          clear hd8 b8
          go_wp2_with fail
          (with_reducible refine (sameRows_any R r (by omega) HR.out _ _ _ _ _ _ _ _ _ _ _ (ho8.rw (by omega)) (h.below B8)).mono ?_); rintro e w9 ⟨rfl, b9⟩
          go_wp2_with fail
          go_ret
          exact ⟨rfl, bth B8 b9⟩
      · obtain ⟨⟨A4, k4, RA4, RC4, rfl, ho4⟩, b4⟩ := do_elim hd4 hx
        have B4 := bth B3 b4
        have hl4 := Lib.hid (doP_len hx)
        have hbk4 := Lib.hid (doP_back (.inl rfl) hx)
        clear hd4 hx b4 B3
        go_wp2_with fail
        (with_reducible refine (undoL_any Q r (by omega) (fun i hi => by rw [hl4.out i hi]; omega) RA4 RC4 ls _ rfl hm _ _ _ _ _ (ho4.rw (by omega)) ((hs.below B4).more B4.size)).mono ?_); rintro e w5 hd5
        obtain ⟨⟨A5, k5, RA5, RC5, rfl, ho5⟩, b5⟩ := do_elim hd5 hbk4.out
        have B5 := bth B4 b5
        rw [hl4.out 0 (by omega)] at ho5
        clear hd5 b5
        go_wp2_with fail
        (with_reducible refine (sameRows_any R r (by omega) HR.out _ _ _ _ _ _ _ _ _ _ _ (ho5.rw (by omega)) (h.below B5)).mono ?_); rintro e w6 ⟨rfl, b6⟩
        have BB := bth B5 b6
        clear b6 ho5
        go_wp2_with fail
        (with_reducible refine (undoL_any R r (by omega) HR.out RA RC ls _ rfl hm _ _ _ _ _ ((h.below BB).more BB.size) ((hs.below BB).more BB.size)).mono ?_); rintro e w7 hd7
        rcases doP_two (sg := -1) Hrow.out Hl.out with hy | ⟨Q2, hy⟩
        · obtain ⟨rfl, b7⟩ := do_elim_err hd7 hy
          clear hd7 hy
          go_wp2_with fail
          go_ret
          exact ⟨rfl, bth BB b7⟩
        · obtain ⟨⟨A7, k7, RA7, RC7, rfl, ho7⟩, b7⟩ := do_elim hd7 hy
          have B7 := bth BB b7
          have hl7 := Lib.hid (doP_len hy)
          have hbk := Lib.hid (doP_back (.inr rfl) hy)
          clear hd7 hy b7 BB
          go_wp2_with fail
          (with_reducible refine (doL_any Q2 r (by omega) (fun i hi => by rw [hl7.out i hi]; omega) RA7 RC7 ls _ rfl hm _ _ _ _ _ (ho7.rw (by omega)) ((hs.below B7).more B7.size)).mono ?_); rintro e w8 hd8
          obtain ⟨⟨A8, k8, RA8, RC8, rfl, ho8⟩, b8⟩ := do_elim hd8 hbk.out
          have B8 := bth B7 b8
          rw [hl7.out 0 (by omega)] at ho8
          clear hd8 b8
          go_wp2_with fail
          (with_reducible refine (sameRows_any R r (by omega) HR.out _ _ _ _ _ _ _ _ _ _ _ (ho8.rw (by omega)) (h.below B8)).mono ?_); rintro e w9 ⟨rfl, b9⟩
          go_wp2_with fail
          go_ret
          exact ⟨rfl, bth B8 b9⟩
end Go.Proofs.Ytjdoagkbcooonaa
