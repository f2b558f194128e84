/-
  LearnTwin: the walk of the law, call by call.
-/
import Derived.Test.YtjhmmbejpdibhaaProg
import Derived.Test.YtjhmmbejpdibhaaLF
import Derived.Test.YtjhmmbejpdibhaaLG
import Derived.Test.YtjhmmbejpdibhaaO
namespace Go.Proofs.Ytjhmmbejpdibhaa
open Go.RowKit

def TwinArgs (o r : Int) (A1 A2 A3 : Option Addr) (n1 n2 n3 c1 c2 c3 : Nat) : Array Value := #[.agg #[.int .i64 o, .int .i64 r], .slice A1 n1 c1, .slice A2 n2 c2, .slice A3 n3 c3]

set_option maxHeartbeats 4000000 in
set_option maxRecDepth 100000 in
theorem twinlaw_valid (n : Nat) (r : Int) (h1 : 1 ≤ n) (h2 : n ≤ 32) (h3 : 0 ≤ r) (h4 : r ≤ 8) (l1 l2 l3 : List Int) (hl1 : l1.length ≤ 60) (hl2 : l2.length ≤ 60) (hl3 : l3.length ≤ 60) (A1 A2 A3 : Option Addr) (c1 c2 c3 : Nat) (w : World)
    (ha1 : Ints .i64 w w.heap.size A1 l1) (ha2 : Ints .i64 w w.heap.size A2 l2) (ha3 : Ints .i64 w w.heap.size A3 l3) :
    Calls Try.prog 4 #[.agg #[.int .i64 (n : Int), .int .i64 r], .slice A1 l1.length c1, .slice A2 l2.length c2, .slice A3 l3.length c3] w fun e w' => e = .returned (.bool true) ∧ Below w.heap.size w w' := by
  have hvt := Lib.hid (validB_true (o := (n : Int)) (r := r) |>.2 ⟨by omega, by omega, h3, h4⟩)
  have i1 : (l1.length : Int) ≤ 60 := by omega
  have i2 : (l2.length : Int) ≤ 60 := by omega
  have i3 : (l3.length : Int) ≤ 60 := by omega
  go_enter Try.func4, Try.ntmps4
  go_wp2_with fail
  (with_reducible refine (known_any _).mono ?_); rintro e w1 ⟨rfl, b1⟩
  have B1 := bth (bal (brefl w) _) b1
  have x0 : w1.cell? ⟨w.heap.size, 0, none⟩ = some (.int .i64 (n : Int)) := later b1 (by simp [World.cell?_alloc_new])
  have x1 : w1.cell? ⟨w.heap.size, 1, none⟩ = some (.int .i64 r) := later b1 (by simp [World.cell?_alloc_new])
  clear b1
  go_wp2_with fail
  (with_reducible refine (stageMay_any _ _ _).mono ?_); rintro e w2 ⟨rfl, b2⟩
  rw [hvt.out]
  have B2 := bth B1 b2
  have x0 := later b2 x0
  have x1 := later b2 x1
  go_wp2_with fail
  (with_reducible refine (newL_yes n r h1 h2 h3 h4 _).mono ?_); rintro e w3 ⟨bf, bwf, bsf, rfl, F, f1, f2, f3, b3⟩
  have B3 := bth B2 b3
  have x0 := later b3 x0
  have x1 := later b3 x1
  have SF : Hid (∀ k, (k = bf ∨ k = bwf ∨ k = bsf) → w2.heap.size ≤ k ∧ k < w3.heap.size) := fun k hk => ⟨by rcases hk with rfl | rfl | rfl <;> assumption, F.lt k hk⟩
  have Z2 := B2.size
  have Z3 := B3.size
  have Y3 := b3.size
  clear f1 f2 f3
  go_wp2_with fail
  (with_reducible refine (newL_yes n r h1 h2 h3 h4 _).mono ?_); rintro e w4 ⟨bg, bwg, bsg, rfl, G, f1, f2, f3, b4⟩
  have B4 := bth B3 b4
  have F := F.below b4
  have SG : Hid (∀ k, (k = bg ∨ k = bwg ∨ k = bsg) → w3.heap.size ≤ k ∧ k < w4.heap.size) := fun k hk => ⟨by rcases hk with rfl | rfl | rfl <;> assumption, G.lt k hk⟩
  have Y4 := b4.size
  clear f1 f2 f3 x0 x1 b2 b3 b4
  go_wp2_with fail
  obtain ⟨st1, hst1⟩ : ∃ st, st = toldP r (List.replicate n 0, List.replicate n 0) l1 := ⟨_, rfl⟩
  obtain ⟨st2, hst2⟩ : ∃ st, st = toldP r (st1.1, st1.2) l2 := ⟨_, rfl⟩
  obtain ⟨st3, hst3⟩ : ∃ st, st = toldP r (st1.1, st1.2) l3 := ⟨_, rfl⟩
  have Hst1 := Lib.hid hst1
  have Hst2 := Lib.hid hst2
  have Hst3 := Lib.hid hst3
  clear hst1 hst2 hst3
  have e1 : eqI st1.1 st1.1 = true := eqI_refl _
  have e2 : eqI st2.1 st2.1 = true := eqI_refl _
  have g1 : (guessP st1.1 st1.2 != guessP st1.1 st1.2) = false := by simp
  have g2 : (guessP st2.1 st2.2 != guessP st2.1 st2.2) = false := by simp
  have g3 : (guessP st2.1 st2.2 == guessP st2.1 st2.2) = true := by simp
  have a5 := ha1.below B4
  (with_reducible refine (told_any F l1 _ rfl (by omega) _ _ _ a5 (by have := (SF.out _ (.inl rfl)).1; omega) (by have := (SF.out _ (.inr (.inl rfl))).1; omega) (by have := (SF.out _ (.inr (.inr rfl))).1; omega) B4.size).mono ?_); rintro e w5 ⟨rfl, F', k5⟩
  have B5 := B4.trans (k5.below (fun k hk => by have := (SF.out k hk).1; omega) B4.size)
  have G := G.kp k5 (fun k hk hk' => by have := SF.out k hk'; have := SG.out k hk; omega)
  have Y5 := k5.size
  clear a5 F k5
  have F := F'
  clear F'
  rw [← Hst1.out] at F
  go_wp2_with fail
  have a6 := ha1.below B5
  (with_reducible refine (told_any G l1 _ rfl (by omega) _ _ _ a6 (by have := (SG.out _ (.inl rfl)).1; omega) (by have := (SG.out _ (.inr (.inl rfl))).1; omega) (by have := (SG.out _ (.inr (.inr rfl))).1; omega) B5.size).mono ?_); rintro e w6 ⟨rfl, G', k6⟩
  have B6 := B5.trans (k6.below (fun k hk => by have := (SG.out k hk).1; omega) B5.size)
  have F := F.kp k6 (fun k hk hk' => by have := SG.out k hk'; have := SF.out k hk; omega)
  have Y6 := k6.size
  clear a6 G k6
  have G := G'
  clear G'
  rw [← Hst1.out] at G
  go_wp2_with fail
  have L1 := F.hi
  (with_reducible refine (twin_any F).mono ?_); rintro e w7 ⟨bt, bwt, cwt, bst, cst, rfl, T, f1, f2, f3, b7⟩
  have B7 := bth B6 b7
  have F := F.below b7
  have G := G.below b7
  have Y7 := b7.size
  have ST : Hid (∀ k, (k = bt ∨ k = bwt ∨ k = bst) → w6.heap.size ≤ k ∧ k < w7.heap.size) := fun k hk => ⟨by rcases hk with rfl | rfl | rfl <;> assumption, T.lt k hk⟩
  clear f1 f2 f3 b7
  go_wp2_with fail
  (with_reducible refine (guessL_any T).mono ?_); rintro e w' ⟨rfl, rfl⟩
  go_wp2_with fail
  (with_reducible refine (guessL_any F).mono ?_); rintro e w' ⟨rfl, rfl⟩
  go_wp2_with fail
  (with_reducible refine (weights_any T).mono ?_); rintro e w8 ⟨Po1, qo1, rfl, o1, b8⟩
  have B8 := bth B7 b8
  have F := F.below b8
  have G := G.below b8
  have T := T.below b8
  have Y8 := b8.size
  clear b8
  go_wp2_with fail
  (with_reducible refine (weights_any F).mono ?_); rintro e w9 ⟨Po2, qo2, rfl, o2, b9⟩
  have B9 := bth B8 b9
  have F := F.below b9
  have G := G.below b9
  have T := T.below b9
  have o1 := own_below o1 b9 (Nat.le_refl _)
  have Y9 := b9.size
  clear b9
  go_wp2_with fail
  (with_reducible refine (same_q st1.1 st1.1 _ _ rfl rfl (by omega) (by omega) _ _ _ _ _ _ _ (own_ints o1) (own_ints o2)).mono ?_); rintro e w10 ⟨rfl, b10⟩
  rw [e1]
  have B10 := bth B9 b10
  have F := F.below b10
  have G := G.below b10
  have T := T.below b10
  have o1 := own_below o1 b10 (Nat.le_refl _)
  have o2 := own_below o2 b10 (Nat.le_refl _)
  have Y10 := b10.size
  clear b10
  clear o1
  clear o2
  go_wp2_with fail
  have a11 := ha2.below B10
  (with_reducible refine (told_any T l2 _ rfl (by omega) _ _ _ a11 (by have := (ST.out _ (.inl rfl)).1; omega) (by have := (ST.out _ (.inr (.inl rfl))).1; omega) (by have := (ST.out _ (.inr (.inr rfl))).1; omega) B10.size).mono ?_); rintro e w11 ⟨rfl, T', k11⟩
  have B11 := B10.trans (k11.below (fun k hk => by have := (ST.out k hk).1; omega) B10.size)
  have F := F.kp k11 (fun k hk hk' => by have := ST.out k hk'; have := SF.out k hk; omega)
  have G := G.kp k11 (fun k hk hk' => by have := ST.out k hk'; have := SG.out k hk; omega)
  have Y11 := k11.size
  clear a11 T k11
  have T := T'
  clear T'
  rw [← Hst2.out] at T
  go_wp2_with fail
  (with_reducible refine (weights_any F).mono ?_); rintro e w12 ⟨Po3, qo3, rfl, o3, b12⟩
  have B12 := bth B11 b12
  have F := F.below b12
  have G := G.below b12
  have T := T.below b12
  have Y12 := b12.size
  clear b12
  go_wp2_with fail
  have a13 := ha2.below B12
  (with_reducible refine (told_any G l2 _ rfl (by omega) _ _ _ a13 (by have := (SG.out _ (.inl rfl)).1; omega) (by have := (SG.out _ (.inr (.inl rfl))).1; omega) (by have := (SG.out _ (.inr (.inr rfl))).1; omega) B12.size).mono ?_); rintro e w13 ⟨rfl, G', k13⟩
  have B13 := B12.trans (k13.below (fun k hk => by have := (SG.out k hk).1; omega) B12.size)
  have F := F.kp k13 (fun k hk hk' => by have := SG.out k hk'; have := SF.out k hk; omega)
  have T := T.kp k13 (fun k hk hk' => by have := SG.out k hk'; have := ST.out k hk; omega)
  have o3 := own_kp o3 k13 (fun k hk => by have := SG.out k hk; omega)
  have Y13 := k13.size
  clear a13 G k13
  have G := G'
  clear G'
  rw [← Hst2.out] at G
  have L2 := G.hi
  go_wp2_with fail
  (with_reducible refine (weights_any F).mono ?_); rintro e w14 ⟨Po4, qo4, rfl, o4, b14⟩
  have B14 := bth B13 b14
  have F := F.below b14
  have G := G.below b14
  have T := T.below b14
  have o3 := own_below o3 b14 (Nat.le_refl _)
  have Y14 := b14.size
  clear b14
  go_wp2_with fail
  (with_reducible refine (same_q st1.1 st1.1 _ _ rfl rfl (by omega) (by omega) _ _ _ _ _ _ _ (own_ints o3) (own_ints o4)).mono ?_); rintro e w15 ⟨rfl, b15⟩
  rw [e1]
  have B15 := bth B14 b15
  have F := F.below b15
  have G := G.below b15
  have T := T.below b15
  have o3 := own_below o3 b15 (Nat.le_refl _)
  have o4 := own_below o4 b15 (Nat.le_refl _)
  have Y15 := b15.size
  clear b15
  clear o3
  clear o4
  go_wp2_with fail
  (with_reducible refine (guessL_any T).mono ?_); rintro e w' ⟨rfl, rfl⟩
  go_wp2_with fail
  (with_reducible refine (guessL_any G).mono ?_); rintro e w' ⟨rfl, rfl⟩
  go_wp2_with fail
  (with_reducible refine (weights_any T).mono ?_); rintro e w16 ⟨Po5, qo5, rfl, o5, b16⟩
  have B16 := bth B15 b16
  have F := F.below b16
  have G := G.below b16
  have T := T.below b16
  have Y16 := b16.size
  clear b16
  go_wp2_with fail
  (with_reducible refine (weights_any G).mono ?_); rintro e w17 ⟨Po6, qo6, rfl, o6, b17⟩
  have B17 := bth B16 b17
  have F := F.below b17
  have G := G.below b17
  have T := T.below b17
  have o5 := own_below o5 b17 (Nat.le_refl _)
  have Y17 := b17.size
  clear b17
  go_wp2_with fail
  (with_reducible refine (same_q st2.1 st2.1 _ _ rfl rfl (by omega) (by omega) _ _ _ _ _ _ _ (own_ints o5) (own_ints o6)).mono ?_); rintro e w18 ⟨rfl, b18⟩
  rw [e2]
  have B18 := bth B17 b18
  have F := F.below b18
  have G := G.below b18
  have T := T.below b18
  have o5 := own_below o5 b18 (Nat.le_refl _)
  have o6 := own_below o6 b18 (Nat.le_refl _)
  have Y18 := b18.size
  clear b18
  clear o5
  clear o6
  go_wp2_with fail
  (with_reducible refine (weights_any T).mono ?_); rintro e w19 ⟨Po7, qo7, rfl, o7, b19⟩
  have B19 := bth B18 b19
  have F := F.below b19
  have G := G.below b19
  have T := T.below b19
  have Y19 := b19.size
  clear b19
  go_wp2_with fail
  have a20 := ha3.below B19
  (with_reducible refine (told_any F l3 _ rfl (by omega) _ _ _ a20 (by have := (SF.out _ (.inl rfl)).1; omega) (by have := (SF.out _ (.inr (.inl rfl))).1; omega) (by have := (SF.out _ (.inr (.inr rfl))).1; omega) B19.size).mono ?_); rintro e w20 ⟨rfl, F', k20⟩
  have B20 := B19.trans (k20.below (fun k hk => by have := (SF.out k hk).1; omega) B19.size)
  have G := G.kp k20 (fun k hk hk' => by have := SF.out k hk'; have := SG.out k hk; omega)
  have T := T.kp k20 (fun k hk hk' => by have := SF.out k hk'; have := ST.out k hk; omega)
  have o7 := own_kp o7 k20 (fun k hk => by have := SF.out k hk; omega)
  have Y20 := k20.size
  clear a20 F k20
  have F := F'
  clear F'
  go_wp2_with fail
  (with_reducible refine (weights_any T).mono ?_); rintro e w21 ⟨Po8, qo8, rfl, o8, b21⟩
  have B21 := bth B20 b21
  have F := F.below b21
  have G := G.below b21
  have T := T.below b21
  have o7 := own_below o7 b21 (Nat.le_refl _)
  have Y21 := b21.size
  clear b21
  go_wp2_with fail
  (with_reducible refine (same_q st2.1 st2.1 _ _ rfl rfl (by omega) (by omega) _ _ _ _ _ _ _ (own_ints o7) (own_ints o8)).mono ?_); rintro e w22 ⟨rfl, b22⟩
  rw [e2]
  have B22 := bth B21 b22
  have F := F.below b22
  have G := G.below b22
  have T := T.below b22
  have o7 := own_below o7 b22 (Nat.le_refl _)
  have o8 := own_below o8 b22 (Nat.le_refl _)
  have Y22 := b22.size
  clear b22
  go_wp2_with fail
  (with_reducible refine (guessL_any T).mono ?_); rintro e w' ⟨rfl, rfl⟩
  go_wp2_with fail
  (with_reducible refine (guessL_any G).mono ?_); rintro e w' ⟨rfl, rfl⟩
  go_wp2_with fail
  go_ret
  exact ⟨rfl, B22⟩

theorem twinlaw_other (o r : Int) (l1 l2 l3 : List Int) (hm1 : l1.length ≤ 9223372036854775807) (hm2 : l2.length ≤ 9223372036854775807) (hm3 : l3.length ≤ 9223372036854775807) (A1 A2 A3 : Option Addr) (c1 c2 c3 : Nat) (w : World)
    (h : 60 < l1.length ∨ 60 < l2.length ∨ 60 < l3.length ∨ validB o r = false) :
    Calls Try.prog 4 #[.agg #[.int .i64 o, .int .i64 r], .slice A1 l1.length c1, .slice A2 l2.length c2, .slice A3 l3.length c3] w fun e w' => e = .returned (.bool true) ∧ Below w.heap.size w w' := by
  by_cases q1 : 60 < l1.length
  · have i1 : (60 : Int) < (l1.length : Int) := by omega
    clear h
    go_enter Try.func4, Try.ntmps4
    go_wp2_with fail
    (with_reducible refine (known_any _).mono ?_); rintro e w1 ⟨rfl, b1⟩
    go_wp2_with fail
    go_ret
    exact ⟨rfl, bth (bal (brefl w) _) b1⟩
  have i1 : (l1.length : Int) ≤ 60 := by omega
  by_cases q2 : 60 < l2.length
  · have i2 : (60 : Int) < (l2.length : Int) := by omega
    clear h
    go_enter Try.func4, Try.ntmps4
    go_wp2_with fail
    (with_reducible refine (known_any _).mono ?_); rintro e w1 ⟨rfl, b1⟩
    go_wp2_with fail
    go_ret
    exact ⟨rfl, bth (bal (brefl w) _) b1⟩
  have i2 : (l2.length : Int) ≤ 60 := by omega
  by_cases q3 : 60 < l3.length
  · have i3 : (60 : Int) < (l3.length : Int) := by omega
    clear h
    go_enter Try.func4, Try.ntmps4
    go_wp2_with fail
    (with_reducible refine (known_any _).mono ?_); rintro e w1 ⟨rfl, b1⟩
    go_wp2_with fail
    go_ret
    exact ⟨rfl, bth (bal (brefl w) _) b1⟩
  have i3 : (l3.length : Int) ≤ 60 := by omega
  have hv := Lib.hid (((h.resolve_left q1).resolve_left q2).resolve_left q3)
  clear h
  go_enter Try.func4, Try.ntmps4
  go_wp2_with fail
  (with_reducible refine (known_any _).mono ?_); rintro e w1 ⟨rfl, b1⟩
  have B1 := bth (bal (brefl w) _) b1
  have x0 : w1.cell? ⟨w.heap.size, 0, none⟩ = some (.int .i64 o) := later b1 (by simp [World.cell?_alloc_new])
  have x1 : w1.cell? ⟨w.heap.size, 1, none⟩ = some (.int .i64 r) := later b1 (by simp [World.cell?_alloc_new])
  clear b1
  go_wp2_with fail
  (with_reducible refine (stageMay_any _ _ _).mono ?_); rintro e w2 ⟨rfl, b2⟩
  rw [hv.out]
  go_wp2_with fail
  go_ret
  exact ⟨rfl, bth B1 b2⟩

theorem twinlaw_any (o r : Int) (l1 : List Int) (hm1 : l1.length ≤ 9223372036854775807) (A1 : Option Addr) (c1 : Nat) (l2 : List Int) (hm2 : l2.length ≤ 9223372036854775807) (A2 : Option Addr) (c2 : Nat) (l3 : List Int) (hm3 : l3.length ≤ 9223372036854775807) (A3 : Option Addr) (c3 : Nat) (w : World)
    (ha1 : Ints .i64 w w.heap.size A1 l1) (_f1 : Fit .i64 l1) (ha2 : Ints .i64 w w.heap.size A2 l2) (_f2 : Fit .i64 l2) (ha3 : Ints .i64 w w.heap.size A3 l3) (_f3 : Fit .i64 l3) :
    Calls Try.prog 4 #[.agg #[.int .i64 o, .int .i64 r], .slice A1 l1.length c1, .slice A2 l2.length c2, .slice A3 l3.length c3] w fun e w' => e = .returned (.bool true) ∧ Below w.heap.size w w' := by
  by_cases h : 60 < l1.length ∨ 60 < l2.length ∨ 60 < l3.length ∨ validB o r = false
  · exact twinlaw_other o r l1 l2 l3 hm1 hm2 hm3 A1 A2 A3 c1 c2 c3 w h
  · have hv : validB o r = true := by
      cases e : validB o r with
      | true => rfl
      | false => exact absurd (.inr (.inr (.inr e))) h
    obtain ⟨g1, g2, g3, g4⟩ := validB_true.1 hv
    obtain ⟨n, rfl⟩ : ∃ n : Nat, o = (n : Int) := ⟨o.toNat, by omega⟩
    have q1 : l1.length ≤ 60 := by by_cases q : 60 < l1.length; exact absurd (.inl q) h; omega
    have q2 : l2.length ≤ 60 := by by_cases q : 60 < l2.length; exact absurd (.inr (.inl q)) h; omega
    have q3 : l3.length ≤ 60 := by by_cases q : 60 < l3.length; exact absurd (.inr (.inr (.inl q))) h; omega
    exact twinlaw_valid n r (by omega) (by omega) g3 g4 l1 l2 l3 q1 q2 q3 A1 A2 A3 c1 c2 c3 w ha1 ha2 ha3
end Go.Proofs.Ytjhmmbejpdibhaa
