/-
  linear's laws: known, and the walk of LinearBacks.
-/
import Derived.Test.YtmbebcgicddbnaaProg
import Derived.Test.YtmbebcgicddbnaaNE
import Derived.Test.YtmbebcgicddbnaaO
namespace Go.Proofs.Ytmbebcgicddbnaa
open Go.RowKit

theorem lit_more (w : World) (xs : List Int) (arr : Array Value) (h : arr.toList = xs.map (.int .i64)) (g : Nat) (hg : g = w.heap.size) : Ints .i64 (w.alloc (.cells arr 3)) (w.alloc (.cells arr 3)).heap.size (some ⟨g, 0, none⟩) xs := by
  subst hg; exact (ints_lit w .i64 _ _ _ h).more (by simp)

theorem lit_next {w : World} {B : Nat} {A : Option Addr} {xs : List Int} (h : Ints .i64 w B A xs) (hB : B ≤ w.heap.size) (o : Obj) : Ints .i64 (w.alloc o) (w.alloc o).heap.size A xs := (h.below ((bal (brefl w) o).mono hB)).more (by simp; omega)
theorem lit_own {w : World} {B : Nat} {A : Option Addr} {n c : Nat} {xs : List Int} (h : OwnZ w B A n c xs) (o : Obj) : Ints .i64 (w.alloc o) (w.alloc o).heap.size A xs := lit_next (OwnZ.ints h) (Nat.le_refl _) o

set_option maxHeartbeats 1000000 in
theorem known_any (w : World) : Calls Try.prog 11 #[] w fun e w' => e = .returned (.bool true) ∧ Below w.heap.size w w' := by
  have r1 : lrestP [8, 5, -3] [1] 1 = ([1, -5], 0) := by decide +kernel
  have r2 : lbackP [8] [1, -5] [1] 1 = ([8, 5, -3], 0) := by decide +kernel
  have r3 : roundP [16384, -5000] 8 = ([64, -20], 6, 0) := by decide +kernel
  have r4 : guessP [4, 9] [3, -1] 0 = 23 := by decide +kernel
  have R1 := Lib.hid r1
  have R2 := Lib.hid r2
  have R3 := Lib.hid r3
  have R4 := Lib.hid r4
  clear r1 r2 r3 r4
  have q1 : eqI [1, -5] [1, -5] = true := eqI_refl _
  have q2 : eqI [8, 5, -3] [8, 5, -3] = true := eqI_refl _
  have q3 : eqI [64, -20] [64, -20] = true := eqI_refl _
  have l3 := fun (w : World) (g : Nat) (hg : g = w.heap.size) => lit_more w [8, 5, -3] #[.int .i64 8, .int .i64 5, .int .i64 (-3)] rfl g hg
  have l1 := fun (w : World) (g : Nat) (hg : g = w.heap.size) => lit_more w [1] #[.int .i64 1] rfl g hg
  have l8 := fun (w : World) (g : Nat) (hg : g = w.heap.size) => lit_more w [8] #[.int .i64 8] rfl g hg
  have l16 := fun (w : World) (g : Nat) (hg : g = w.heap.size) => lit_more w [16384, -5000] #[.int .i64 16384, .int .i64 (-5000)] rfl g hg
  have l15 := fun (w : World) (g : Nat) (hg : g = w.heap.size) => lit_more w [1, -5] #[.int .i64 1, .int .i64 (-5)] rfl g hg
  have l64 := fun (w : World) (g : Nat) (hg : g = w.heap.size) => lit_more w [64, -20] #[.int .i64 64, .int .i64 (-20)] rfl g hg
  have l49 := fun (w : World) (g : Nat) (hg : g = w.heap.size) => lit_more w [4, 9] #[.int .i64 4, .int .i64 9] rfl g hg
  have l31 := fun (w : World) (g : Nat) (hg : g = w.heap.size) => lit_more w [3, -1] #[.int .i64 3, .int .i64 (-1)] rfl g hg
  have L3 := Lib.hid l3
  have L1 := Lib.hid l1
  have L8 := Lib.hid l8
  have L16 := Lib.hid l16
  have L15 := Lib.hid l15
  have L64 := Lib.hid l64
  have L49 := Lib.hid l49
  have L31 := Lib.hid l31
  clear l3 l1 l8 l16 l15 l64 l49 l31
  go_enter Try.func11, Try.ntmps11
  go_wp2_with fail
  (with_reducible refine (restL_any [8, 5, -3] [1] 3 1 rfl rfl (by omega) (by omega) 1 _ _ 3 1 (by omega) _ (lit_next (L3.out w _ rfl) (Nat.le_refl _) _) (L1.out _ _ (by simp))).mono ?_); rintro e w1 ⟨A1, k1, rfl, ho1, b1⟩
  rw [R1.out] at ho1 ⊢
  have B1 := bth (bal (bal (brefl w) _) _) b1
  clear b1
  go_wp2_with fail
  have x1 := OwnZ.ints ho1
  (with_reducible refine (backL_any [8] [1, -5] [1] 1 2 1 rfl rfl rfl (by omega) (by omega) (by omega) 1 _ _ _ 1 _ 1 _ (lit_next (L8.out w1 _ rfl) (Nat.le_refl _) _) (lit_next (lit_own ho1 _) (Nat.le_refl _) _) (L1.out _ _ (by simp))).mono ?_); rintro e w2 ⟨A2, k2, rfl, ho2, b2⟩
  rw [R2.out] at ho2 ⊢
  have C2 := bth (bal (bal (brefl w1) _) _) b2
  have B2 := bth B1 C2
  have x1 := (x1.below C2)
  have x2 := OwnZ.ints ho2
  clear b2
  go_wp2_with fail
  (with_reducible refine (roundL_any [16384, -5000] 2 rfl (by omega) 8 _ 2 _ (L16.out w2 _ rfl)).mono ?_); rintro e w3 ⟨A3, k3, rfl, ho3, b3⟩
  rw [R3.out] at ho3 ⊢
  have C3 := bth (bal (brefl w2) _) b3
  have B3 := bth B2 C3
  have x1 := (x1.more C2.size).below C3
  have x2 := x2.below C3
  have x3 := OwnZ.ints ho3
  clear b3
  go_wp2_with fail
  have D0 := bal (brefl w3) (.cells #[.int .i64 1, .int .i64 (-5)] 3)
  (with_reducible refine (same_q [1, -5] [1, -5] 2 2 rfl rfl (by omega) (by omega) _ _ _ _ _ _ _ ((x1.more C3.size).below D0) (L15.out w3 _ rfl)).mono ?_); rintro e w4 ⟨rfl, b4⟩
  rw [q1]
  have D4 := bth D0 b4
  clear b4
  go_wp2_with fail
  have D5 := bal D4 (.cells #[.int .i64 8, .int .i64 5, .int .i64 (-3)] 3)
  (with_reducible refine (same_q [8, 5, -3] [8, 5, -3] 3 3 rfl rfl (by omega) (by omega) _ _ _ _ _ _ _ ((x2.more C3.size).below D5) (L3.out w4 _ rfl)).mono ?_); rintro e w5 ⟨rfl, b5⟩
  rw [q2]
  have D6 := bth D5 b5
  clear b5
  go_wp2_with fail
  have D7 := bal D6 (.cells #[.int .i64 64, .int .i64 (-20)] 3)
  (with_reducible refine (same_q [64, -20] [64, -20] 2 2 rfl rfl (by omega) (by omega) _ _ _ _ _ _ _ (x3.below D7) (L64.out w5 _ rfl)).mono ?_); rintro e w6 ⟨rfl, b6⟩
  rw [q3]
  have D8 := bth D7 b6
  clear b6
  go_wp2_with fail
  have hw : allWideB [4, 9] = true := by decide
  (with_reducible refine (guessL_any [4, 9] [3, -1] 2 2 rfl rfl (by omega) (by omega) hw 0 _ _ _ _ 2 2 (by omega) _ (lit_next (L49.out w6 _ rfl) (Nat.le_refl _) _) (L31.out _ _ (by simp))).mono ?_); rintro e w' ⟨rfl, rfl⟩
  rw [R4.out]
  go_wp2_with fail
  go_ret
  exact ⟨rfl, bth B3 (bal (bal D8 _) _)⟩

set_option maxHeartbeats 1000000 in
theorem backs_any (warm : List Int) (hm : warm.length ≤ 9223372036854775807) (A : Option Addr) (c : Nat) (rest : List Int) (hm2 : rest.length ≤ 9223372036854775807) (A2 : Option Addr) (c2 : Nat) (cs : List Int) (hm3 : cs.length ≤ 9223372036854775807) (A3 : Option Addr) (c3 : Nat) (sh : Int) (w : World)
    (ha : Ints .i64 w w.heap.size A warm) (_f1 : Fit .i64 warm) (hb : Ints .i64 w w.heap.size A2 rest) (_f2 : Fit .i64 rest) (hc : Ints .i64 w w.heap.size A3 cs) (_f3 : Fit .i64 cs) (_f4 : (Lit.int .i64 sh).wf = true) :
    Calls Try.prog 3 #[.slice A warm.length c, .slice A2 rest.length c2, .slice A3 cs.length c3, .int .i64 sh] w fun e w' => e = .returned (.bool true) ∧ Below w.heap.size w w' := by
  by_cases q1 : 40 < warm.length
  · have hI : (40 : Int) < (warm.length : Int) := by omega
    go_enter Try.func3, Try.ntmps3
    go_wp2_with fail
    (with_reducible refine (known_any _).mono ?_); rintro e w1 ⟨rfl, b1⟩
    go_wp2_with fail
    go_ret
    exact ⟨rfl, b1⟩
  have q1I : (warm.length : Int) ≤ 40 := by omega
  by_cases q2 : 200 < rest.length
  · have hI : (200 : Int) < (rest.length : Int) := by omega
    go_enter Try.func3, Try.ntmps3
    go_wp2_with fail
    (with_reducible refine (known_any _).mono ?_); rintro e w1 ⟨rfl, b1⟩
    go_wp2_with fail
    go_ret
    exact ⟨rfl, b1⟩
  have q2I : (rest.length : Int) ≤ 200 := by omega
  by_cases q3 : 40 < cs.length
  · have hI : (40 : Int) < (cs.length : Int) := by omega
    go_enter Try.func3, Try.ntmps3
    go_wp2_with fail
    (with_reducible refine (known_any _).mono ?_); rintro e w1 ⟨rfl, b1⟩
    go_wp2_with fail
    go_ret
    exact ⟨rfl, b1⟩
  have q3I : (cs.length : Int) ≤ 40 := by omega
  clear q1 q2 q3
  have hll := @lbackP_len warm rest cs sh
  have s1 : eqI (lbackP warm rest cs sh).1 (lbackP warm rest cs sh).1 = true := eqI_refl _
  go_enter Try.func3, Try.ntmps3
  go_wp2_with fail
  (with_reducible refine (known_any _).mono ?_); rintro e w1 ⟨rfl, b1⟩
  go_wp2_with fail
  (with_reducible refine (backL_any warm rest cs _ _ _ rfl rfl rfl (by omega) (by omega) (by omega) _ _ _ _ _ _ _ _ ((ha.below b1).more b1.size) ((hb.below b1).more b1.size) ((hc.below b1).more b1.size)).mono ?_); rintro e w2 ⟨R2, r2, rfl, hr2, b2⟩
  have B2 := bth b1 b2
  go_wp2_with fail
  (with_reducible refine (backR_any warm rest cs _ _ _ rfl rfl rfl (by omega) (by omega) (by omega) _ _ _ _ _ _ _ _ ((ha.below B2).more B2.size) ((hb.below B2).more B2.size) ((hc.below B2).more B2.size)).mono ?_); rintro e w3 ⟨R3, r3, rfl, hr3, b3⟩
  have B3 := bth B2 b3
  have z2 := (OwnZ.ints hr2).below b3
  have z3 := OwnZ.ints hr3
  go_wp2_with fail
  (with_reducible refine (same_q (lbackP warm rest cs sh).1 (lbackP warm rest cs sh).1 _ _ rfl rfl (by omega) (by omega) _ _ _ _ _ _ _ z2 z3).mono ?_); rintro e w4 ⟨rfl, b4⟩
  rw [s1]
  go_wp2_with fail
  go_ret
  exact ⟨rfl, bth B3 b4⟩
end Go.Proofs.Ytmbebcgicddbnaa
