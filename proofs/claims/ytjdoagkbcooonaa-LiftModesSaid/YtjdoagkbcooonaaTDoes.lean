/-
  The walks of LiftDoes and LiftBack.
-/
import Derived.Test.YtjdoagkbcooonaaProg
import Derived.Test.YtjdoagkbcooonaaTK
namespace Go.Proofs.Ytjdoagkbcooonaa
open Go.RowKit

def resN (x : Except Int (Nat → List Int)) (r : Nat) : Nat := match x with | .error _ => 0 | .ok _ => r
def resQ (x : Except Int (Nat → List Int)) : Nat → List Int := match x with | .error _ => fun _ => [] | .ok Q => Q
def resC (x : Except Int (Nat → List Int)) : Int := match x with | .error c => c | .ok _ => 0
theorem do_form {x : Except Int (Nat → List Int)} {r m : Nat} {w w' : World} {e : Ending} (h : DoQ x r m w e w') : (∃ A c RA RC, e = .returned (.tuple #[.slice A (resN x r) c, .int .i64 (resC x)]) ∧ OwnM w' w.heap.size A (resN x r) c m RA RC (resQ x)) ∧ Below w.heap.size w w' := by
  cases x with
  | error c => exact ⟨⟨none, 0, fun _ => none, fun _ => 0, h.1, ownM_nil _ _ _ _ _ _⟩, h.2⟩
  | ok Q => exact h
theorem resN_le (x : Except Int (Nat → List Int)) (r : Nat) : resN x r ≤ r := by cases x <;> simp [resN]

theorem ownM_rw {w : World} {B n c m : Nat} {A : Option Addr} {RA : Nat → Option Addr} {RC : Nat → Nat} {R : Nat → List Int} (h : OwnM w B A n c m RA RC R) (hm : 0 < n → m ≤ 100000) : Rw w w.heap.size A n RA RC R := by
  by_cases h0 : 0 < n
  · exact h.rw (by have := hm h0; omega)
  · obtain rfl : n = 0 := by omega
    exact Rw.nil

set_option maxHeartbeats 2000000 in
theorem does_any (A : Option Addr) (c r : Nat) (RA : Nat → Option Addr) (RC : Nat → Nat) (R : Nat → List Int) (hr : r ≤ 9223372036854775807) (ls : List Lft) (hm : ls.length ≤ 9223372036854775807) (B : Option Addr) (d : Nat) (w : World) (h : Rw w w.heap.size A r RA RC R) (hs : Lfts w w.heap.size B ls) :
    Calls Try.prog 3 #[.slice A r c, .slice B ls.length d] w fun e w' => e = .returned (.bool true) ∧ Below w.heap.size w w' := by
  go_enter Try.func3, Try.ntmps3
  go_wp2_with fail
  (with_reducible refine (known_any _).mono ?_); rintro e w1 ⟨rfl, b1⟩
  go_wp2_with fail
  (with_reducible refine (small_any R r hr RA RC _ _ _ _ _ hm _ _ ((h.below b1).more b1.size)).mono ?_); rintro e w2 ⟨rfl, b2⟩
  have B2 := bth b1 b2
  clear b1 b2
  cases hsm : (smallB R r 200 && decide (ls.length ≤ 20)) with
  | false =>
    go_wp2_with fail
    go_ret
    exact ⟨rfl, B2⟩
  | true =>
    have hsm' : smallB R r 200 = true ∧ ls.length ≤ 20 := by simpa using hsm
    obtain ⟨h12, hlen⟩ := smallB_true.1 hsm'.1
    have h20 := hsm'.2
    have HR : Hid (∀ i, i < r → (R i).length ≤ 100000) := fun i hi => by have := hlen i hi; omega
    have m200 : 0 < r → (R 0).length ≤ 200 := fun h0 => by have := hlen 0 h0; omega
    clear hsm hsm' hlen
    obtain ⟨x, hx⟩ : ∃ x, x = doP 1 R r ls := ⟨_, rfl⟩
    obtain ⟨y, hy⟩ : ∃ y, y = doP (-1) R r ls := ⟨_, rfl⟩
    have Hx := Lib.hid hx
    have Hy := Lib.hid hy
    clear hx hy
    go_wp2_with fail
    (with_reducible refine (doL_any R r (by omega) HR.out RA RC ls _ rfl hm _ _ _ _ _ ((h.below B2).more B2.size) ((hs.below B2).more B2.size)).mono ?_); rintro e w3 hd3
    rw [← Hx.out] at hd3
    obtain ⟨⟨A3, k3, RA3, RC3, rfl, ho3⟩, b3⟩ := do_form hd3
    have B3 := bth B2 b3
    clear hd3 b3 B2
    go_wp2_with fail
    (with_reducible refine (doR_any R r (by omega) HR.out RA RC ls _ rfl hm _ _ _ _ _ ((h.below B3).more B3.size) ((hs.below B3).more B3.size)).mono ?_); rintro e w4 hd4
    rw [← Hx.out] at hd4
    obtain ⟨⟨A4, k4, RA4, RC4, rfl, ho4⟩, b4⟩ := do_form hd4
    have B4 := bth B3 b4
    have p3 := Lib.hid (ho3.below b4 (Nat.le_refl _))
    have p4 := Lib.hid ho4
    clear hd4 b4 B3 ho3 ho4
    go_wp2_with fail
    (with_reducible refine (undoL_any R r (by omega) HR.out RA RC ls _ rfl hm _ _ _ _ _ ((h.below B4).more B4.size) ((hs.below B4).more B4.size)).mono ?_); rintro e w5 hd5
    rw [← Hy.out] at hd5
    obtain ⟨⟨A5, k5, RA5, RC5, rfl, ho5⟩, b5⟩ := do_form hd5
    have B5 := bth B4 b5
    have q3 := Lib.hid (p3.out.below b5 (Nat.le_refl _))
    have q4 := Lib.hid (p4.out.below b5 (Nat.le_refl _))
    clear hd5 b5 B4 p3 p4
    go_wp2_with fail
    (with_reducible refine (undoR_any R r (by omega) HR.out RA RC ls _ rfl hm _ _ _ _ _ ((h.below B5).more B5.size) ((hs.below B5).more B5.size)).mono ?_); rintro e w6 hd6
    rw [← Hy.out] at hd6
    obtain ⟨⟨A6, k6, RA6, RC6, rfl, ho6⟩, b6⟩ := do_form hd6
    have B6 := bth B5 b6
    have r3 := Lib.hid (q3.out.below b6 (Nat.le_refl _))
    have r4 := Lib.hid (q4.out.below b6 (Nat.le_refl _))
    have r5 := Lib.hid (ho5.below b6 (Nat.le_refl _))
    have r6 := Lib.hid ho6
    clear hd6 b6 B5 q3 q4 ho5 ho6
    have n1 := resN_le x r
    have n2 := resN_le y r
    have e1 : (resC x == resC x) = true := by simp
    have e2 : (resC y == resC y) = true := by simp
    have m0 : 0 < resN x r → (R 0).length ≤ 200 := fun h0 => m200 (by omega)
    have m1 : 0 < resN y r → (R 0).length ≤ 200 := fun h0 => m200 (by omega)
    have M0 := Lib.hid m0
    have M1 := Lib.hid m1
    have hl1 : ∀ i, i < resN x r → (resQ x i).length ≤ 100000 := fun i hi => by rw [r3.out.len hi]; have := m0 (by omega); omega
    have hl2 : ∀ i, i < resN y r → (resQ y i).length ≤ 100000 := fun i hi => by rw [r5.out.len hi]; have := m1 (by omega); omega
    have g3 : Rw w6 w6.heap.size A3 (resN x r) RA3 RC3 (resQ x) := ownM_rw r3.out fun h0 => by have := m0 h0; omega
    have g4 : Rw w6 w6.heap.size A4 (resN x r) RA4 RC4 (resQ x) := ownM_rw r4.out fun h0 => by have := m0 h0; omega
    have g5 : Rw w6 w6.heap.size A5 (resN y r) RA5 RC5 (resQ y) := ownM_rw r5.out fun h0 => by have := m1 h0; omega
    have g6 : Rw w6 w6.heap.size A6 (resN y r) RA6 RC6 (resQ y) := ownM_rw r6.out fun h0 => by have := m1 h0; omega
    have hl1' := Lib.hid hl1
    have hl2' := Lib.hid hl2
    obtain ⟨nx, hnx⟩ : ∃ nx, nx = resN x r := ⟨_, rfl⟩
    obtain ⟨ny, hny⟩ : ∃ ny, ny = resN y r := ⟨_, rfl⟩
    obtain ⟨cx, hcx⟩ : ∃ cx, cx = resC x := ⟨_, rfl⟩
    obtain ⟨cy, hcy⟩ : ∃ cy, cy = resC y := ⟨_, rfl⟩
    rw [← hnx] at n1 hl1' g3 g4 ⊢
    rw [← hny] at n2 hl2' g5 g6 ⊢
    rw [← hcx] at e1 ⊢
    rw [← hcy] at e2 ⊢
    clear hl1 hl2 m0 m1 M0 M1 hnx hny hcx hcy r3 r4 r5 r6 m200
    go_wp2_with fail
    (with_reducible refine (sameRows_any (resQ x) nx (by omega) hl1'.out _ _ _ _ _ _ _ _ _ _ _ g3 g4).mono ?_); rintro e w7 ⟨rfl, b7⟩
    go_wp2_with fail
    (with_reducible refine (sameRows_any (resQ y) ny (by omega) hl2'.out _ _ _ _ _ _ _ _ _ _ _ (g5.below b7) (g6.below b7)).mono ?_); rintro e w8 ⟨rfl, b8⟩
    go_wp2_with fail
    go_ret
    exact ⟨rfl, bth B6 (bth b7 b8)⟩
end Go.Proofs.Ytjdoagkbcooonaa
