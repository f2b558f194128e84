/-
  The laws' known.
-/
import Derived.Test.YtjdoagkbcooonaaProg
import Derived.Test.YtjdoagkbcooonaaTS
namespace Go.Proofs.Ytjdoagkbcooonaa
open Go.RowKit

def two {α : Type} (x y : α) : Nat → α := fun i => if i = 0 then x else y
theorem two_lt {i : Nat} (h : i < 2) : i = 0 ∨ i = 1 := by omega
theorem do_elim {x : Except Int (Nat → List Int)} {Q : Nat → List Int} {r m : Nat} {w w' : World} {e : Ending} (h : DoQ x r m w e w') (hx : x = .ok Q) : (∃ A c RA RC, e = .returned (.tuple #[.slice A r c, .int .i64 0]) ∧ OwnM w' w.heap.size A r c m RA RC Q) ∧ Below w.heap.size w w' := by
  subst hx; exact h
theorem do_elim_err {x : Except Int (Nat → List Int)} {c : Int} {r m : Nat} {w w' : World} {e : Ending} (h : DoQ x r m w e w') (hx : x = .error c) : e = .returned (.tuple #[.slice none 0 0, .int .i64 c]) ∧ Below w.heap.size w w' := by
  subst hx; exact h

theorem rw_lit2 (w : World) (xs ys : List Int) (a1 a2 a3 : Array Value) (h1 : a1.toList = xs.map (.int .i64)) (h2 : a2.toList = ys.map (.int .i64)) (n1 n2 : Nat) (e1 : n1 = xs.length) (e2 : n2 = ys.length) (m1 : n1 ≤ 1000) (m2 : n2 ≤ 1000)
    (h3 : a3 = #[.slice (some ⟨w.heap.size, 0, none⟩) n1 n1, .slice (some ⟨w.heap.size + 1, 0, none⟩) n2 n2]) (g : Nat) (hg : g = w.heap.size + 2) :
    Rw (((w.alloc (.cells a1 3)).alloc (.cells a2 3)).alloc (.cells a3 33)) (((w.alloc (.cells a1 3)).alloc (.cells a2 3)).alloc (.cells a3 33)).heap.size (some ⟨g, 0, none⟩) 2
      (two (some ⟨w.heap.size, 0, none⟩) (some ⟨w.heap.size + 1, 0, none⟩)) (two n1 n2) (two xs ys) := by
  subst e1; subst e2; subst hg; subst h3
  refine ⟨fun _ => ⟨w.heap.size + 2, 0, rfl, by simp, fun i hi => ?_⟩, fun i hi => ?_, fun i hi => ?_, fun i hi => ?_⟩
  · have hs : ((w.alloc (.cells a1 3)).alloc (.cells a2 3)).heap.size = w.heap.size + 2 := by simp
    have := heap_alloc_new ((w.alloc (.cells a1 3)).alloc (.cells a2 3)) (.cells #[.slice (some ⟨w.heap.size, 0, none⟩) xs.length xs.length, .slice (some ⟨w.heap.size + 1, 0, none⟩) ys.length ys.length] 33)
    rw [hs] at this
    rcases two_lt hi with rfl | rfl <;> exact (cell_of_row _ _ _ _ _ _ this).trans rfl
  · rcases two_lt hi with rfl | rfl
    · exact (((ints_lit w .i64 xs a1 _ h1).below (((bal (brefl (w.alloc (.cells a1 3))) (.cells a2 3)).mono (by simp)))).below ((bal (brefl ((w.alloc (.cells a1 3)).alloc (.cells a2 3))) _).mono (by simp))).more (by simp)
    · have := ints_lit (w.alloc (.cells a1 3)) .i64 ys a2 3 h2
      simp only [World.size_alloc] at this
      exact (this.below ((bal (brefl ((w.alloc (.cells a1 3)).alloc (.cells a2 3))) _).mono (by simp))).more (by simp)
  · rcases two_lt hi with rfl | rfl <;> (simp [two]; omega)
  · rcases two_lt hi with rfl | rfl <;> simp [two]

def kR : Nat → List Int := two [10, -3] [7, 4]
def kQ : Nat → List Int := appP (appP kR 1 0 (-256) 1) 0 1 128 1
def kU : Nat → List Int := appP (appP kQ 0 1 128 (-1)) 1 0 (-256) (-1)
theorem k_do : doP 1 kR 2 (namedP 3) = .ok kQ := doP_some (by decide +kernel) (by decide +kernel) (by
  rw [show (if (1 : Int) = 1 then namedP 3 else (namedP 3).reverse) = [(1, 0, -256), (0, 1, 128)] from rfl, goL_some (by decide +kernel), goL_some (by decide +kernel)]; rfl)
theorem k_un : doP (-1) kQ 2 (namedP 3) = .ok kU := doP_some (by decide +kernel) (by decide +kernel) (by
  rw [show (if (-1 : Int) = 1 then namedP 3 else (namedP 3).reverse) = [(0, 1, 128), (1, 0, -256)] from rfl, goL_some (by decide +kernel), goL_some (by decide +kernel)]; rfl)
theorem k_q : ∀ i, i < 2 → two [3, -7] [8, 0] i = kQ i := fun i hi => by rcases two_lt hi with rfl | rfl <;> decide +kernel
theorem k_u : ∀ i, i < 2 → two [10, -3] [7, 4] i = kU i := fun i hi => by rcases two_lt hi with rfl | rfl <;> decide +kernel
theorem k_rl : ∀ i, i < 2 → (kR i).length ≤ 100000 := fun i hi => by rcases two_lt hi with rfl | rfl <;> decide +kernel
theorem k_ql : ∀ i, i < 2 → (kQ i).length ≤ 100000 := fun i hi => by rcases two_lt hi with rfl | rfl <;> decide +kernel
theorem k_ul : ∀ i, i < 2 → (kU i).length ≤ 100000 := fun i hi => by rcases two_lt hi with rfl | rfl <;> decide +kernel

set_option maxHeartbeats 2000000 in
theorem known_any (w : World) : Calls Try.prog 11 #[] w fun e w' => e = .returned (.bool true) ∧ Below w.heap.size w w' := by
  have M4 : Hid (liftB (namedP 4) 2 = true) := by show _ = _; decide +kernel
  have M5 : Hid (liftB (namedP 4) 1 = false) := by show _ = _; decide +kernel
  have L0 : Hid (∀ (w : World) (g : Nat), g = w.heap.size + 2 → Rw (((w.alloc (.cells #[.int .i64 10, .int .i64 (-3)] 3)).alloc (.cells #[.int .i64 7, .int .i64 4] 3)).alloc (.cells #[.slice (some ⟨w.heap.size, 0, none⟩) 2 2, .slice (some ⟨w.heap.size + 1, 0, none⟩) 2 2] 33)) (((w.alloc (.cells #[.int .i64 10, .int .i64 (-3)] 3)).alloc (.cells #[.int .i64 7, .int .i64 4] 3)).alloc (.cells #[.slice (some ⟨w.heap.size, 0, none⟩) 2 2, .slice (some ⟨w.heap.size + 1, 0, none⟩) 2 2] 33)).heap.size (some ⟨g, 0, none⟩) 2
      (two (some ⟨w.heap.size, 0, none⟩) (some ⟨w.heap.size + 1, 0, none⟩)) (two 2 2) (two [10, -3] [7, 4])) := fun w g hg => rw_lit2 w [10, -3] [7, 4] _ _ _ rfl rfl 2 2 rfl rfl (by omega) (by omega) rfl g hg
  have L1 : Hid (∀ (w : World) (g : Nat), g = w.heap.size + 2 → Rw (((w.alloc (.cells #[.int .i64 3, .int .i64 (-7)] 3)).alloc (.cells #[.int .i64 8, .int .i64 0] 3)).alloc (.cells #[.slice (some ⟨w.heap.size, 0, none⟩) 2 2, .slice (some ⟨w.heap.size + 1, 0, none⟩) 2 2] 33)) (((w.alloc (.cells #[.int .i64 3, .int .i64 (-7)] 3)).alloc (.cells #[.int .i64 8, .int .i64 0] 3)).alloc (.cells #[.slice (some ⟨w.heap.size, 0, none⟩) 2 2, .slice (some ⟨w.heap.size + 1, 0, none⟩) 2 2] 33)).heap.size (some ⟨g, 0, none⟩) 2
      (two (some ⟨w.heap.size, 0, none⟩) (some ⟨w.heap.size + 1, 0, none⟩)) (two 2 2) (two [3, -7] [8, 0])) := fun w g hg => rw_lit2 w [3, -7] [8, 0] _ _ _ rfl rfl 2 2 rfl rfl (by omega) (by omega) rfl g hg
  go_enter Try.func11, Try.ntmps11
  go_wp2_with fail
  have B0 := bal (bal (bal (brefl w) (.cells #[.int .i64 10, .int .i64 (-3)] 3)) (.cells #[.int .i64 7, .int .i64 4] 3)) (.cells #[.slice (some ⟨w.heap.size, 0, none⟩) 2 2, .slice (some ⟨w.heap.size + 1, 0, none⟩) 2 2] 33)
  (with_reducible refine (namedL_any 3 _).mono ?_); rintro e w1 ⟨A1, k1, rfl, hl1, b1⟩
  have hr1 := ((L0.out w _ rfl).below b1).more b1.size
  have B1 := bth B0 b1
  clear b1 B0
  go_wp2_with fail
  (with_reducible refine (doL_any kR 2 (by omega) k_rl _ _ (namedP 3) _ rfl (by decide) _ _ _ _ _ hr1 hl1).mono ?_); rintro e w2 hd2
  obtain ⟨⟨A2, k2, RA2, RC2, rfl, ho2⟩, b2⟩ := do_elim hd2 k_do
  have B2 := bth B1 b2
  clear hd2 b2 B1 hr1 hl1
  go_wp2_with fail
  (with_reducible refine (namedL_any 3 _).mono ?_); rintro e w3 ⟨A3, k3, rfl, hl3, b3⟩
  have ho3 := ho2.below b3 (Nat.le_refl _)
  have B3 := bth B2 b3
  clear ho2 b3 B2
  go_wp2_with fail
  (with_reducible refine (undoL_any kQ 2 (by omega) k_ql RA2 RC2 (namedP 3) _ rfl (by decide) _ _ _ _ _ (ho3.rw (by decide)) hl3).mono ?_); rintro e w4 hd4
  obtain ⟨⟨A4, k4, RA4, RC4, rfl, ho4⟩, b4⟩ := do_elim hd4 k_un
  have B4 := bth B3 b4
  have ho5 := ho3.below b4 (Nat.le_refl _)
  clear hd4 b4 B3 hl3 ho3
  go_wp2_with fail
  have D0 := bal (bal (bal (brefl w4) (.cells #[.int .i64 3, .int .i64 (-7)] 3)) (.cells #[.int .i64 8, .int .i64 0] 3)) (.cells #[.slice (some ⟨w4.heap.size, 0, none⟩) 2 2, .slice (some ⟨w4.heap.size + 1, 0, none⟩) 2 2] 33)
  (with_reducible refine (sameRows_any kQ 2 (by omega) k_ql _ _ _ _ _ _ _ _ _ _ _ ((ho5.below D0 (Nat.le_refl _)).rw (by decide)) ((L1.out w4 _ rfl).cong fun i hi => (k_q i hi).symm)).mono ?_); rintro e w5 ⟨rfl, b5⟩
  have D1 := bth D0 b5
  have ho6 := ho4.below D1 (Nat.le_refl _)
  have B5 := bth B4 D1
  clear D0 D1 b5 B4
  go_wp2_with fail
  have D0 := bal (bal (bal (brefl w5) (.cells #[.int .i64 10, .int .i64 (-3)] 3)) (.cells #[.int .i64 7, .int .i64 4] 3)) (.cells #[.slice (some ⟨w5.heap.size, 0, none⟩) 2 2, .slice (some ⟨w5.heap.size + 1, 0, none⟩) 2 2] 33)
  (with_reducible refine (sameRows_any kU 2 (by omega) k_ul _ _ _ _ _ _ _ _ _ _ _ ((ho6.below D0 (Nat.le_refl _)).rw (by decide)) ((L0.out w5 _ rfl).cong fun i hi => (k_u i hi).symm)).mono ?_); rintro e w6 ⟨rfl, b6⟩
  have B6 := bth B5 (bth D0 b6)
  clear D0 b6 B5
  go_wp2_with fail
  (with_reducible refine (namedL_any 4 _).mono ?_); rintro e w7 ⟨A7, k7, rfl, hl7, b7⟩
  have B7 := bth B6 b7
  go_wp2_with fail
  (with_reducible refine (mayL_any (namedP 4) _ rfl (by decide) 2 _ _ _ hl7).mono ?_); rintro e w8 ⟨rfl, b8⟩
  rw [M4.out]
  have B8 := bth B7 b8
  go_wp2_with fail
  (with_reducible refine (namedL_any 4 _).mono ?_); rintro e w9 ⟨A9, k9, rfl, hl9, b9⟩
  have B9 := bth B8 b9
  go_wp2_with fail
  (with_reducible refine (mayL_any (namedP 4) _ rfl (by decide) 1 _ _ _ hl9).mono ?_); rintro e w10 ⟨rfl, b10⟩
  rw [M5.out]
  go_wp2_with fail
  go_ret
  exact ⟨rfl, bth B9 b10⟩
end Go.Proofs.Ytjdoagkbcooonaa
