/-
  Which blocks may be, on both sides; a block's length.
-/
import Derived.Test.YtfihbcpainlpcaaProg
import Derived.Test.YtfihbcpainlpcaaQA
import Derived.Test.YtfihbcpainlpcaaMA
namespace Go.Proofs.Ytfihbcpainlpcaa
open Go.RowKit
set_option linter.unusedVariables false
set_option linter.unusedSimpArgs false

def fitRow (bits : Int) (l : List Int) : Bool := l.all fun x => fitsB x bits
theorem fitRow_true {bits : Int} {l : List Int} : fitRow bits l = true ↔ ∀ k, k < l.length → fitsB (ix l k) bits = true := by
  simp only [fitRow, List.all_eq_true]
  exact ⟨fun h k hk => h _ (by simp [ix, hk]), fun h x hx => by obtain ⟨k, hk, rfl⟩ := mem_ix hx; exact h k hk⟩
theorem fitRow_false {bits : Int} {l : List Int} {k : Nat} (hk : k < l.length) (h : fitsB (ix l k) bits = false) : fitRow bits l = false := by
  cases e : fitRow bits l with
  | false => rfl
  | true => rw [fitRow_true.1 e k hk] at h; cases h
def bmayB (bits : Int) (R : Nat → List Int) (r : Nat) : Bool := decide (4 ≤ bits) && decide (bits ≤ 24) && decide (1 ≤ r) && decide (r ≤ 8) && decide (1 ≤ (R 0).length) && decide ((R 0).length ≤ 4096) && (List.range r).all fun i => decide ((R i).length = (R 0).length) && fitRow bits (R i)
theorem bmayB_true {bits : Int} {R : Nat → List Int} {r : Nat} : bmayB bits R r = true ↔ 4 ≤ bits ∧ bits ≤ 24 ∧ 1 ≤ r ∧ r ≤ 8 ∧ 1 ≤ (R 0).length ∧ (R 0).length ≤ 4096 ∧ ∀ i, i < r → (R i).length = (R 0).length ∧ fitRow bits (R i) = true := by
  simp [bmayB, and_assoc]
theorem bmayB_no {bits : Int} {R : Nat → List Int} {r : Nat} (h : ¬ (4 ≤ bits ∧ bits ≤ 24 ∧ 1 ≤ r ∧ r ≤ 8 ∧ 1 ≤ (R 0).length ∧ (R 0).length ≤ 4096 ∧ ∀ i, i < r → (R i).length = (R 0).length ∧ fitRow bits (R i) = true)) : bmayB bits R r = false := by
  cases e : bmayB bits R r with
  | false => rfl
  | true => exact absurd (bmayB_true.1 e) h
def lenI (R : Nat → List Int) (r : Nat) : Int := if r = 0 then 0 else ((R 0).length : Int)

theorem depth_any (x : Int) (w : World) : Calls Try.prog 43 #[.int .i64 x] w fun e w' => e = .returned (.bool (decide (4 ≤ x) && decide (x ≤ 24))) ∧ w' = w := by
  by_cases h1 : 4 ≤ x
  · by_cases h2 : x ≤ 24
    all_goals
      go_enter Try.func43, Try.ntmps43
      go_wp2
      go_ret
      exact ⟨by simp [h1, h2] <;> omega, rfl⟩
  · go_enter Try.func43, Try.ntmps43
    go_wp2
    go_ret
    have hd : decide (4 ≤ x) = false := decide_eq_false (by omega)
    exact ⟨by rw [hd]; rfl, rfl⟩

theorem len_any (R : Nat → List Int) (r : Nat) (hr1 : r ≤ 1000) (RA : Nat → Option Addr) (RC : Nat → Nat) (A : Option Addr) (c : Nat) (bits : Int) (w : World) (h : Rw w w.heap.size A r RA RC R) :
    Calls Try.prog 20 #[.agg #[.int .i64 bits, .slice A r c]] w fun e w' => e = .returned (.int .i64 (lenI R r)) ∧ Below w.heap.size w w' := by
  by_cases h0 : r = 0
  · subst h0
    have e0 : (((0 : Nat) : Int) == 0) = true := by decide
    go_enter Try.func20, Try.ntmps20
    go_wp2
    go_ret
    exact ⟨rfl, bal (brefl w) _⟩
  · have hl : Hid (lenI R r = ((R 0).length : Int)) := by show _ = _; unfold lenI; rw [if_neg h0]
    have e0 : ((r : Int) == 0) = false := by simp; omega
    have h' := h.below (bal (brefl w) (.cells #[.int .i64 bits, .slice A r c] 28))
    obtain ⟨b1, o1, rfl, hc⟩ := h'.at_ (i := 0) (by omega)
    rw [Nat.add_zero] at hc
    have s1 : (0 : Int) < (r : Int) := by omega
    go_enter Try.func20, Try.ntmps20
    go_wp2
    go_ret
    exact ⟨ret_int hl.out.symm, bal (brefl w) _⟩

set_option maxHeartbeats 2000000 in
theorem bmayL_any (R : Nat → List Int) (r : Nat) (hr1 : r ≤ 1000) (hR : ∀ i, i < r → (R i).length ≤ 100000) (RA : Nat → Option Addr) (RC : Nat → Nat) (A : Option Addr) (c : Nat) (bits : Int) (w : World) (h : Rw w w.heap.size A r RA RC R) :
    Calls Try.prog 21 #[.agg #[.int .i64 bits, .slice A r c]] w fun e w' => e = .returned (.bool (bmayB bits R r)) ∧ Below w.heap.size w w' := by
  have hc0 : (w.alloc (.cells #[.int .i64 bits, .slice A r c] 28)).cell? ⟨w.heap.size, 0, none⟩ = some (.int .i64 bits) := (cell_of_row _ _ _ _ _ _ (heap_alloc_new w _)).trans rfl
  have hc1 : (w.alloc (.cells #[.int .i64 bits, .slice A r c] 28)).cell? ⟨w.heap.size, 1, none⟩ = some (.slice A r c) := (cell_of_row _ _ _ _ _ _ (heap_alloc_new w _)).trans rfl
  have HC0 := Lib.hid hc0
  have HC1 := Lib.hid hc1
  have HR := Lib.hid hR
  clear hc0 hc1 hR
  cases hd : (decide (4 ≤ bits) && decide (bits ≤ 24)) with
  | false =>
    have hr := Lib.hid (bmayB_no (bits := bits) (R := R) (r := r) fun h' => by rw [decide_eq_true h'.1, decide_eq_true h'.2.1] at hd; cases hd)
    have Hd := Lib.hid hd
    clear hd
    go_enter Try.func21, Try.ntmps21
    go_wp2_with fail
    (with_reducible refine (depth_any _ _).mono ?_); rintro e w' ⟨rfl, rfl⟩
    rw [Hd.out]
    go_wp2_with fail
    go_ret
    exact ⟨ret_bool hr.out.symm, bal (brefl w) _⟩
  | true =>
    have hbits : 4 ≤ bits ∧ bits ≤ 24 := by simpa using hd
    have Hd := Lib.hid hd
    clear hd
    by_cases h1 : r < 1
    · have hr := Lib.hid (bmayB_no (bits := bits) (R := R) (r := r) (by omega))
      have hI : (r : Int) < 1 := by omega
      clear h1 hbits
      go_enter Try.func21, Try.ntmps21
      go_wp2_with fail
      (with_reducible refine (depth_any _ _).mono ?_); rintro e w' ⟨rfl, rfl⟩
      rw [Hd.out]
      go_wp2_with fail
      go_ret
      exact ⟨ret_bool hr.out.symm, bal (brefl w) _⟩
    have hI1 : (1 : Int) ≤ (r : Int) := by omega
    by_cases h2 : 8 < r
    · have hr := Lib.hid (bmayB_no (bits := bits) (R := R) (r := r) (by omega))
      have hI : (8 : Int) < (r : Int) := by omega
      clear h1 h2 hbits
      go_enter Try.func21, Try.ntmps21
      go_wp2_with fail
      (with_reducible refine (depth_any _ _).mono ?_); rintro e w' ⟨rfl, rfl⟩
      rw [Hd.out]
      go_wp2_with fail
      go_ret
      exact ⟨ret_bool hr.out.symm, bal (brefl w) _⟩
    have hI2 : (r : Int) ≤ 8 := by omega
    have r0 : 0 < r := by omega
    have hl : Hid (lenI R r = ((R 0).length : Int)) := by show _ = _; unfold lenI; rw [if_neg (by omega)]
    have Hyes : Hid ((1 ≤ (R 0).length) → (R 0).length ≤ 4096 → (∀ i, i < r → (R i).length = (R 0).length ∧ fitRow bits (R i) = true) → bmayB bits R r = true) := fun a1 a2 a3 => bmayB_true.2 ⟨hbits.1, hbits.2, by omega, by omega, a1, a2, a3⟩
    have Hno : Hid (¬ (1 ≤ (R 0).length ∧ (R 0).length ≤ 4096 ∧ ∀ i, i < r → (R i).length = (R 0).length ∧ fitRow bits (R i) = true) → bmayB bits R r = false) := fun hh => bmayB_no fun h' => hh h'.2.2.2.2
    have l0 := HR.out 0 r0
    clear h1 h2 hbits
    go_enter Try.func21, Try.ntmps21
    go_wp2_with fail
    (with_reducible refine (depth_any _ _).mono ?_); rintro e w' ⟨rfl, rfl⟩
    rw [Hd.out]
    go_wp2_with fail
    have B1 := bal (brefl w) (.cells #[.int .i64 bits, .slice A r c] 28)
    obtain ⟨w1, hw1⟩ : ∃ w1, w1 = w.alloc (.cells #[.int .i64 bits, .slice A r c] 28) := ⟨_, rfl⟩
    rw [← hw1] at B1 HC0 HC1 ⊢
    have hz1 : w.heap.size + 1 = w1.heap.size := by rw [hw1]; simp
    clear hw1
    (with_reducible refine (len_any R r hr1 RA RC _ _ _ _ ((h.below B1).more B1.size)).mono ?_); rintro e w2 ⟨rfl, b2⟩
    rw [hl.out]
    have B2 := bth B1 b2
    by_cases h3 : (R 0).length < 1
    · have hr := Lib.hid (Hno.out (by omega))
      have hI : ((R 0).length : Int) < 1 := by omega
      clear h3
      go_wp2_with fail
      go_ret
      exact ⟨ret_bool hr.out.symm, B2⟩
    have hI3 : (1 : Int) ≤ ((R 0).length : Int) := by omega
    have c0 := later b2 HC0.out
    have c1 := later b2 HC1.out
    go_wp2_with fail
    (with_reducible refine (len_any R r hr1 RA RC _ _ _ _ ((h.below B2).more B2.size)).mono ?_); rintro e w3 ⟨rfl, b3⟩
    rw [hl.out]
    have B3 := bth B2 b3
    have b13 := bth b2 b3
    clear c0 c1 b2 b3 B2
    have c1 := later b13 HC1.out
    by_cases h4 : 4096 < (R 0).length
    · have hr := Lib.hid (Hno.out (by omega))
      have hI : (4096 : Int) < ((R 0).length : Int) := by omega
      clear h3 h4
      go_wp2_with fail
      go_ret
      exact ⟨ret_bool hr.out.symm, B3⟩
    have hI4 : ((R 0).length : Int) ≤ 4096 := by omega
    have Hok : Hid ((∀ i, i < r → (R i).length = (R 0).length ∧ fitRow bits (R i) = true) → bmayB bits R r = true) := Hyes.out (by omega) (by omega)
    have Hbad : Hid (∀ i, i < r → ((R i).length ≠ (R 0).length ∨ fitRow bits (R i) = false) → bmayB bits R r = false) := fun i hi hh => Hno.out fun h' => by
      have := h'.2.2 i hi
      rcases hh with hh | hh
      · exact hh this.1
      · rw [this.2] at hh; cases hh
    clear h3 h4 Hyes Hno
    go_wp2_with fail
    clear c1
    go_loopw [4, 6, 34, 45] (fun _ _ iv _ wr => (∃ k : Nat, k ≤ r ∧ iv = .int .i64 k ∧ ∀ i, i < k → (R i).length = (R 0).length ∧ fitRow bits (R i) = true) ∧ Below w1.heap.size w1 wr) (fun _ _ iv _ _ => r - (intOf iv).toNat)
    case atStart => exact ⟨⟨0, Nat.zero_le _, rfl, fun i h => absurd h (by omega)⟩, b13⟩
    case round =>
      obtain ⟨⟨k, hk, rfl, hj⟩, hbl⟩ := hrel
      have Hj := Lib.hid hj
      have Hb := Lib.hid hbl
      have BB := bth B1 hbl
      clear hj hbl
      by_cases hlt : k < r
      · obtain ⟨b1, o1, rfl, hc⟩ := (h.below BB).at_ hlt
        have lk := HR.out k hlt
        have c0 := later Hb.out HC0.out
        have c1 := later Hb.out HC1.out
        by_cases hlk : (R k).length = (R 0).length
        · have hne : (((R k).length : Int) != ((R 0).length : Int)) = false := by simp [hlk]
          have Hlk := Lib.hid hlk
          obtain ⟨m, hm⟩ : ∃ m, m = (R k).length := ⟨_, rfl⟩
          have Hm := Lib.hid hm
          rw [← hm] at hc hne lk
          obtain ⟨Ak, hA⟩ : ∃ Ak, Ak = RA k := ⟨_, rfl⟩
          have hin := ((h.below BB).more BB.size).ints k hlt
          rw [← hA] at hc hin
          have Hin := Lib.hid hin
          clear hA hm hlk hin
          go_wp2_with fail
          (with_reducible refine (len_any R r hr1 RA RC _ _ _ _ ((h.below BB).more BB.size)).mono ?_); rintro e w5 ⟨rfl, b5⟩
          rw [hl.out]
          have Hb5 := Lib.hid (bth Hb.out b5)
          have B5 := Lib.hid (bth BB b5)
          have Hin5 := Lib.hid (Hin.out.below b5)
          clear b5 c0 c1 hc
          have c0 := later Hb5.out HC0.out
          go_wp2_with fail
          go_loop [6, 45] (fun _ iv => ∃ j : Nat, j ≤ m ∧ iv = .int .i64 j ∧ ∀ i, i < j → fitsB (ix (R k) i) bits = true) (fun _ iv => m - (intOf iv).toNat)
          case atStart => exact ⟨0, Nat.zero_le _, rfl, fun i h => absurd h (by omega)⟩
          case round =>
            obtain ⟨j, hjl, rfl, hw⟩ := hrel
            have Hw := Lib.hid hw
            clear hw
            by_cases hlt2 : j < m
            · obtain ⟨b2, o2, rfl, hc2⟩ := Hin5.out.at_ (i := j) (by rw [← Hm.out]; exact hlt2)
              cases hb : fitsB (ix (R k) j) bits with
              | false =>
                have hr := Lib.hid (Hbad.out k hlt (.inr (fitRow_false (by rw [← Hm.out]; exact hlt2) hb)))
                have Hb := Lib.hid hb
                clear hb
                go_wp2_with ((with_reducible refine (fitsL_any _ _ _).mono ?_); rintro e w' ⟨rfl, rfl⟩; rw [Hb.out])
                go_ret
                exact ⟨ret_bool hr.out.symm, B5.out⟩
              | true =>
                have Hb := Lib.hid hb
                clear hb
                go_wp2_with ((with_reducible refine (fitsL_any _ _ _).mono ?_); rintro e w' ⟨rfl, rfl⟩; rw [Hb.out])
                go_round
                case rel =>
                  refine ⟨j + 1, by omega, by go_num, fun i hi => ?_⟩
                  by_cases e : i = j
                  · subst e; exact Hb.out
                  · exact Hw.out i (by omega)
                case measure => simp [intOf]; omega
            · have hok : Hid (fitRow bits (R k) = true) := fitRow_true.2 fun i hi => Hw.out i (by have := Hm.out; omega)
              go_wp2_with fail
              go_roundw
              case rel =>
                refine ⟨⟨k + 1, by omega, by go_num, fun i hi => ?_⟩, Hb5.out⟩
                by_cases e : i = k
                · subst e; exact ⟨Hlk.out, hok.out⟩
                · exact Hj.out i (by omega)
              case measure => simp [intOf]; omega
        · have hne : (((R k).length : Int) != ((R 0).length : Int)) = true := by simp; omega
          have hr := Lib.hid (Hbad.out k hlt (.inl hlk))
          clear hlk
          go_wp2_with fail
          (with_reducible refine (len_any R r hr1 RA RC _ _ _ _ ((h.below BB).more BB.size)).mono ?_); rintro e w5 ⟨rfl, b5⟩
          rw [hl.out]
          have B5 := bth BB b5
          go_wp2_with fail
          go_ret
          exact ⟨ret_bool hr.out.symm, B5⟩
      · have hr := Lib.hid (Hok.out fun i hi => Hj.out i (by omega))
        go_wp2_with fail
        go_ret
        exact ⟨ret_bool hr.out.symm, BB⟩
end Go.Proofs.Ytfihbcpainlpcaa
