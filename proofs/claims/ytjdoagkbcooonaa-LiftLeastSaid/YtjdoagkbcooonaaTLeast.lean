/-
  The walk of LiftLeast.
-/
import Derived.Test.YtjdoagkbcooonaaProg
import Derived.Test.YtjdoagkbcooonaaTBst
import Derived.Test.YtjdoagkbcooonaaBN
namespace Go.Proofs.Ytjdoagkbcooonaa
open Go.RowKit

theorem undrewN {w w' : World} {n : Nat} (h : Below (w.drewN n).heap.size (w.drewN n) w') : Below w.heap.size w w' := ⟨h.os, h.tape, h.output, h.size, h.block⟩
theorem and255 (o : Int) : 0 ≤ bits .and .i64 o 255 ∧ bits .and .i64 o 255 ≤ 255 := by
  have h : ((BitVec.ofInt 64 o) &&& (BitVec.ofInt 64 255)).toNat ≤ 255 := by
    rw [BitVec.toNat_and]; exact Nat.le_trans Nat.and_le_right (by decide)
  have e : bits .and .i64 o 255 = IntKind.i64.wrap (((BitVec.ofInt 64 o) &&& (BitVec.ofInt 64 255)).toNat : Int) := rfl
  rw [e, IntWalk.i64_in _ (by omega)]
  omega
theorem best_two {bits : Int} {R : Nat → List Int} (h : bmayB bits R 2 = true) : bestL bits R 2 = namedP (bestM R) := by
  unfold bestL
  rw [if_pos h]
  have e : pairR R 0 = R := by funext i; simp [pairR]
  show [] ++ shiftL _ (namedP (bestM (pairR R 0))) = _
  rw [e, List.nil_append]
  simp [shiftL]

set_option maxHeartbeats 4000000 in
theorem least_any (bits_ : Int) (A : Option Addr) (c r : Nat) (RA : Nat → Option Addr) (RC : Nat → Nat) (R : Nat → List Int) (hrc : r ≤ c) (hc63 : c ≤ 9223372036854775807) (mode : Int) (w : World) (h : Rw w w.heap.size A r RA RC R) (_f2 : (Lit.int .i64 mode).wf = true) :
    Calls Try.prog 10 #[.agg #[.int .i64 bits_, .slice A r c], .int .i64 mode] w fun e w' => e = .returned (.bool true) ∧ Below w.heap.size w w' := by
  clear _f2
  have hc0 : (w.alloc (.cells #[.int .i64 bits_, .slice A r c] 45)).cell? ⟨w.heap.size, 0, none⟩ = some (.int .i64 bits_) := (cell_of_row _ _ _ _ _ _ (heap_alloc_new w _)).trans rfl
  have hc1 : (w.alloc (.cells #[.int .i64 bits_, .slice A r c] 45)).cell? ⟨w.heap.size, 1, none⟩ = some (.slice A r c) := (cell_of_row _ _ _ _ _ _ (heap_alloc_new w _)).trans rfl
  have HC0 := Lib.hid hc0
  have HC1 := Lib.hid hc1
  have B1 := bal (brefl w) (.cells #[.int .i64 bits_, .slice A r c] 45)
  clear hc0 hc1
  obtain ⟨m, hm⟩ : ∃ m : Nat, bits .and .i64 mode 255 % 5 = (m : Int) := ⟨(bits .and .i64 mode 255 % 5).toNat, by have := and255 mode; omega⟩
  have hm4 : m ≤ 4 := by omega
  have hmt : (bits .and .i64 mode 255).tmod 5 = (m : Int) := by rw [Int.tmod_eq_emod_of_nonneg (and255 mode).1]; exact hm
  go_enter Try.func10, Try.ntmps10
  go_wp2_with fail
  obtain ⟨w1, hw1⟩ : ∃ w1, w1 = w.alloc (.cells #[.int .i64 bits_, .slice A r c] 45) := ⟨_, rfl⟩
  rw [← hw1] at B1 HC0 HC1 ⊢
  clear hw1
  (with_reducible refine (known_any _).mono ?_); rintro e w2 ⟨rfl, b2⟩
  have c0 := later b2 HC0.out
  have c1 := later b2 HC1.out
  have B2 := bth B1 b2
  go_wp2_with fail
  (with_reducible refine (small9_any R r (by omega) RA RC _ _ _ _ _ ((h.below B2).more B2.size)).mono ?_); rintro e w3 ⟨rfl, b3⟩
  have B3 := bth B2 b3
  have b13 := bth b2 b3
  clear c0 c1 b2 b3 B2
  cases hsm : smallB R r 150 with
  | false =>
    go_wp2_with fail
    go_ret
    exact ⟨rfl, B3⟩
  | true =>
    obtain ⟨h12, hlen⟩ := smallB_true.1 hsm
    have HR : Hid (∀ i, i < r → (R i).length ≤ 100000) := fun i hi => by have := hlen i hi; omega
    clear hsm hlen
    have c0 := later b13 HC0.out
    have c1 := later b13 HC1.out
    by_cases hr2 : r = 2
    · subst hr2
      have hne : (((2 : Nat) : Int) != 2) = false := by decide
      go_wp2_with fail
      (with_reducible refine (bmayR_any R 2 (by omega) HR.out RA RC _ _ _ _ ((h.below B3).more B3.size)).mono ?_); rintro e w4 ⟨rfl, b4⟩
      have B4 := bth B3 b4
      have b14 := bth b13 b4
      clear c0 c1 b13 b4 B3 hne
      cases hmay : bmayB bits_ R 2 with
      | false =>
        go_wp2_with fail
        go_ret
        exact ⟨rfl, B4⟩
      | true =>
        have htwo : Two R := by
          have := pair_two (k := 0) hmay (by omega)
          have e : pairR R 0 = R := by funext i; simp [pairR]
          rwa [e] at this
        obtain ⟨b, hb4, hbm, hle⟩ := bestM_least htwo
        have hbl := Lib.hid (best_two hmay)
        obtain ⟨Qb, hQb⟩ := htwo.do_ (b : Int)
        obtain ⟨Qm, hQm⟩ := htwo.do_ (m : Int)
        have hwle : Hid (weightP Qb 2 ≤ weightP Qm 2) := by
          have := hle m hm4
          rw [resW_of hQb, resW_of hQm] at this
          exact this
        have hlQb := doP_len hQb
        have hlQm := doP_len hQm
        have l96 : (R 0).length ≤ 4096 := htwo.2.1
        have HQb := Lib.hid hQb
        have HQm := Lib.hid hQm
        have Hbm := Lib.hid hbm
        have hlift := Lib.hid (named_liftB (b : Int))
        have hnb := named_len (b : Int)
        have hnm := named_len (m : Int)
        clear hmay htwo hle hQb hQm hbm
        have c0 := later b14 HC0.out
        have c1 := later b14 HC1.out
        go_wp2_with fail
        (with_reducible refine (bestL_any R 2 (by omega) HR.out RA RC _ _ hrc hc63 _ _ ((h.below B4).more B4.size)).mono ?_); rintro e w5 ⟨A5, k5, rfl, hl5, b5⟩
        rw [hbl.out, Hbm.out] at hl5 ⊢
        have B5 := bth B4 b5
        have b15 := bth b14 b5
        clear c0 c1 b14 b5 B4
        have c1 := later b15 HC1.out
        go_wp2_with fail
        (with_reducible refine (doL_any R 2 (by omega) HR.out RA RC (namedP (b : Int)) _ rfl (by omega) _ _ _ _ _ ((h.below B5).more B5.size) hl5).mono ?_); rintro e w6 hd6
        obtain ⟨⟨A6, k6, RA6, RC6, rfl, ho6⟩, b6⟩ := do_elim hd6 HQb.out
        have B6 := bth B5 b6
        have b16 := bth b15 b6
        have hl6 := (hl5.below b6).more b6.size
        clear hd6 hl5 c1 b15 b6 B5
        have c1 := later b16 HC1.out
        have h6 := (h.below B6).more B6.size
        go_wp2_with fail
        go_region_held3 (fun w' => w'.cell? ⟨w.heap.size, 1, none⟩ = some (.slice A 2 c)) (first | (go_keep; done) | exact later b7 c1 | exact later (bth b7 b8) c1)
          (first | (go_at_call 19; (with_reducible refine (namedL_any (m : Int) _).mono ?_); rintro e w7 ⟨A7, k7, rfl, hl7, b7'⟩; have b7 : Below w6.heap.size w6 w7 := ⟨b7'.os, b7'.tape, b7'.output, b7'.size, b7'.block⟩; have h7 := (h6.below b7).more b7.size) | (go_at_call 13; (with_reducible refine (doL_any R 2 (by omega) HR.out RA RC (namedP (m : Int)) _ rfl (by omega) _ _ _ _ _ (by exact ⟨h7.out, h7.ints, h7.len, h7.cap⟩) (by exact hl7)).mono ?_); rintro e w8 hd8; obtain ⟨⟨A8, k8, RA8, RC8, rfl, ho8⟩, b8'⟩ := do_elim hd8 HQm.out; have b8 : Below w7.heap.size w7 w8 := ⟨b8'.os, b8'.tape, b8'.output, b8'.size, b8'.block⟩; clear hd8))
        have B8 := bth B6 (bth b7 b8)
        have ho6' := ho6.below (bth b7 b8) (Nat.le_refl _)
        have hl9 : Lfts w8 w8.heap.size A5 (namedP (b : Int)) := (hl6.below (bth b7 b8)).more (bth b7 b8).size
        clear h7 h6 hl7 b7 b8 ho6 hl6 c1 b16 B6 b8' b7'
        go_wp2_with fail
        (with_reducible refine (mayL_any (namedP (b : Int)) _ rfl (by omega) 2 _ _ _ hl9).mono ?_); rintro e w9 ⟨rfl, b9⟩
        rw [hlift.out]
        have B9 := bth B8 b9
        have ho6 := ho6'.below b9 (Nat.le_refl _)
        have ho9 := ho8.below b9 (Nat.le_refl _)
        clear ho6' ho8 hl9 B8 b9
        go_wp2_with fail
        (with_reducible refine (weightL_any Qb 2 (by omega) (fun i hi => by rw [hlQb i hi]; omega) RA6 RC6 _ _ _ _ (ho6.rw (by omega))).mono ?_); rintro e w10 ⟨rfl, b10⟩
        have B10 := bth B9 b10
        have ho10 := ho9.below b10 (Nat.le_refl _)
        clear ho6 ho9 B9 b10
        go_wp2_with fail
        (with_reducible refine (weightL_any Qm 2 (by omega) (fun i hi => by rw [hlQm i hi]; omega) RA8 RC8 _ _ _ _ (ho10.rw (by omega))).mono ?_); rintro e w11 ⟨rfl, b11⟩
        have hwI := hwle.out
        go_wp2_with fail
        go_ret
        exact ⟨rfl, bth B10 b11⟩
    · have hne : ((r : Int) != 2) = true := by simp; omega
      go_wp2_with fail
      go_ret
      exact ⟨rfl, B3⟩
end Go.Proofs.Ytjdoagkbcooonaa
