/-
  SampleWide: a row fits in its width, and in no less; the walk of the law.
-/
import Derived.Test.YthpaohgdadnkaaaDoorProg
import Derived.Test.YthpaohgdadnkaaaDoorMF
namespace Go.Proofs.YthpaohgdadnkaaaDoor
open Go.RowKit

theorem fits_more {x : Int} {w u : Nat} (h : fitsB x (w : Int) = true) (hw : w ≤ u) (hu : u < 32) : fitsB x (u : Int) = true := by
  simp only [fitsB, Bool.and_eq_true, decide_eq_true_eq] at h ⊢
  obtain ⟨⟨h1, h2⟩, h3⟩ := h
  have ho := okb_true.1 h1
  have hp : (2 : Nat) ^ (w - 1) ≤ 2 ^ (u - 1) := Nat.pow_le_pow_right (by omega) (by omega)
  have e1 : ((2 ^ (w - 1) : Nat) : Int) = 2 ^ (w - 1) := by simp
  have e2 : ((2 ^ (u - 1) : Nat) : Int) = 2 ^ (u - 1) := by simp
  have hl : lowI (w : Int) = -(2 ^ (w - 1)) := by rw [lowI, if_pos h1, show ((w : Int) - 1).toNat = w - 1 by omega]
  have hh : highI (w : Int) = 2 ^ (w - 1) - 1 := by rw [highI, if_pos h1, show ((w : Int) - 1).toNat = w - 1 by omega]
  have hou : okb (u : Int) = true := okb_true.2 ⟨by omega, by omega⟩
  have hl2 : lowI (u : Int) = -(2 ^ (u - 1)) := by rw [lowI, if_pos hou, show ((u : Int) - 1).toNat = u - 1 by omega]
  have hh2 : highI (u : Int) = 2 ^ (u - 1) - 1 := by rw [highI, if_pos hou, show ((u : Int) - 1).toNat = u - 1 by omega]
  refine ⟨⟨hou, ?_⟩, ?_⟩ <;> omega
theorem grow_spec (x : Int) : ∀ f v, v ≤ 32 → 32 < v + f → (grow x f v = v ∨ (v < grow x f v ∧ x ≠ 0 ∧ fitsB x ((grow x f v : Int) - 1) = false)) ∧ (x = 0 ∨ grow x f v = 32 ∨ fitsB x (grow x f v : Int) = true)
  | 0, v, h, h2 => by omega
  | f + 1, v, h, h2 => by
    unfold grow
    split
    · rename_i q
      obtain ⟨q1, q2, q3⟩ := q
      obtain ⟨a, b⟩ := grow_spec x f (v + 1) (by omega) (by omega)
      refine ⟨Or.inr ?_, b⟩
      rcases a with a | ⟨a1, a2, a3⟩
      · rw [a]
        refine ⟨by omega, q1, ?_⟩
        rw [show ((v + 1 : Nat) : Int) - 1 = (v : Int) by omega]; exact q3
      · exact ⟨by omega, a2, a3⟩
    · rename_i q
      refine ⟨Or.inl rfl, ?_⟩
      by_cases h0 : x = 0
      · exact Or.inl h0
      · right
        by_cases h32 : v = 32
        · exact Or.inl h32
        · right
          cases hf : fitsB x (v : Int) with
          | true => rfl
          | false => exact absurd ⟨h0, by omega, hf⟩ q
def foldN (l : List Int) (v : Nat) : Nat := l.foldl (fun w x => need x w) v
theorem width_spec (l : List Int) : ∀ v, v ≤ 32 → v ≤ foldN l v ∧ foldN l v ≤ 32 ∧ (∀ x ∈ l, x = 0 ∨ foldN l v = 32 ∨ fitsB x (foldN l v : Int) = true) ∧
    (foldN l v = v ∨ ∃ x ∈ l, x ≠ 0 ∧ fitsB x ((foldN l v : Int) - 1) = false) := by
  induction l with
  | nil => intro v h; exact ⟨Nat.le_refl _, h, by simp, Or.inl rfl⟩
  | cons x l ih =>
    intro v h
    obtain ⟨n1, n2⟩ := need_le (x := x) h
    obtain ⟨s1, s2⟩ := grow_spec x 33 v h (by omega)
    change (need x v = v ∨ _) at s1
    obtain ⟨i1, i2, i3, i4⟩ := ih (need x v) n1
    have ec : foldN (x :: l) v = foldN l (need x v) := rfl
    rw [ec]
    obtain ⟨u, hu⟩ : ∃ u, u = foldN l (need x v) := ⟨_, rfl⟩
    rw [← hu] at i1 i2 i3 i4 ⊢
    refine ⟨by omega, i2, fun y hy => ?_, ?_⟩
    · rcases List.mem_cons.1 hy with rfl | hy
      · rcases s2 with s2 | s2 | s2
        · exact Or.inl s2
        · right; left; change need y v = 32 at s2; omega
        · right
          by_cases h32 : u = 32
          · exact Or.inl h32
          · exact Or.inr (fits_more s2 i1 (by omega))
      · exact i3 y hy
    · rcases i4 with i4 | ⟨y, hy, h1, h2⟩
      · rcases s1 with s1 | ⟨s1, s3, s4⟩
        · left; omega
        · right; rw [i4]; exact ⟨x, List.mem_cons_self .., s3, s4⟩
      · exact Or.inr ⟨y, List.mem_cons_of_mem _ hy, h1, h2⟩
/-- fits x in w bits, or in none? -/
def inW (w x : Int) : Bool := fitsB x w || (w == 0 && x == 0)
def inL (w x : Int) : Bool := fitsB x (w - 1) || (w == 1 && x == 0)
def allTo (f : Int → Bool) (l : List Int) (k : Nat) : Bool := (l.take k).all f
theorem allTo_step {f : Int → Bool} {l : List Int} {k : Nat} (h : k < l.length) : allTo f l (k + 1) = (allTo f l k && f (ix l k)) := by
  unfold allTo; rw [List.take_add_one, List.getElem?_eq_getElem h, ← ix_eq h]; simp
theorem wide_all (l : List Int) : allTo (inW (widthN l)) l l.length = decide (widthN l < 32) := by
  obtain ⟨_, h2, h3, h4⟩ := width_spec l 0 (by omega)
  change widthN l ≤ 32 at h2
  change ∀ x ∈ l, x = 0 ∨ widthN l = 32 ∨ fitsB x (widthN l : Int) = true at h3
  change widthN l = 0 ∨ _ at h4
  obtain ⟨w, hw⟩ : ∃ w, w = widthN l := ⟨_, rfl⟩
  rw [← hw] at h2 h3 h4 ⊢
  unfold allTo; rw [List.take_length]
  by_cases h : w < 32
  · rw [decide_eq_true h, List.all_eq_true]
    intro x hx
    rcases h3 x hx with h0 | h0 | h0
    · subst h0
      by_cases hz : w = 0
      · subst hz; simp [inW]
      · have ho : okb (w : Int) = true := okb_true.2 ⟨by omega, by omega⟩
        have := low_b (w : Int); have := high_b (w : Int)
        simp [inW, fitsB, ho]; left; omega
    · omega
    · simp [inW, h0]
  · rw [decide_eq_false h]
    have e : w = 32 := by omega
    subst e
    rcases h4 with h4 | ⟨x, hx, _, _⟩
    · omega
    · rw [List.all_eq_false]
      refine ⟨x, hx, ?_⟩
      have ho : okb 32 = false := okb_no (by omega)
      simp [inW, fitsB, ho]
theorem wide_less (l : List Int) : widthN l = 0 ∨ allTo (inL (widthN l)) l l.length = false := by
  obtain ⟨_, h2, h3, h4⟩ := width_spec l 0 (by omega)
  change widthN l = 0 ∨ _ at h4
  rcases h4 with h4 | ⟨x, hx, h0, hf⟩
  · exact Or.inl h4
  · right
    change fitsB x ((widthN l : Int) - 1) = false at hf
    unfold allTo; rw [List.take_length, List.all_eq_false]
    exact ⟨x, hx, by simp [inL, hf, h0]⟩
theorem arm (p f y z : Bool) : (p = false ∧ (p && (f || (y && z))) = false) ∨ (p = true ∧ f = true ∧ (p && (f || (y && z))) = true) ∨ (p = true ∧ f = false ∧ y = false ∧ (p && (f || (y && z))) = false) ∨
    (p = true ∧ f = false ∧ y = true ∧ z = false ∧ (p && (f || (y && z))) = false) ∨ (p = true ∧ f = false ∧ y = true ∧ z = true ∧ (p && (f || (y && z))) = true) := by
  cases p <;> cases f <;> cases y <;> cases z <;> simp

set_option maxHeartbeats 4000000 in
theorem wide_any (l : List Int) (_hm : l.length ≤ 9223372036854775807) (A : Option Addr) (c : Nat) (w : World) (hT : Tab w) (ha : Ints .i64 w w.heap.size A l) :
    Calls Tryd.prog 5 #[.slice A l.length c] w fun e w' => e = .returned (.bool true) ∧ Below w.heap.size w w' := by
  have HT := Lib.hid hT
  clear hT
  by_cases q1 : 200 < l.length
  · have hI : (200 : Int) < (l.length : Int) := by omega
    go_enter Tryd.func5, Tryd.ntmps5
    go_wp2_with fail
    (with_reducible refine (known_any _ HT.out).mono ?_); rintro e w1 ⟨rfl, b1⟩
    go_wp2_with fail
    go_ret
    exact ⟨rfl, b1⟩
  have q1I : (l.length : Int) ≤ 200 := by omega
  have hwid := widthN_le l
  have Wa := Lib.hid (wide_all l)
  have Wl := Lib.hid (wide_less l)
  go_enter Tryd.func5, Tryd.ntmps5
  go_wp2_with fail
  (with_reducible refine (known_any _ HT.out).mono ?_); rintro e w1 ⟨rfl, b1⟩
  have B1 := Lib.hid b1
  have z1 := Lib.hid (ha.below b1)
  clear b1
  go_wp2_with fail
  (with_reducible refine (widthL_any l _ rfl (by omega) _ _ _ _ z1.out).mono ?_); rintro e w2 ⟨rfl, n2, hw2⟩
  have B2 : Hid (Below w.heap.size w w2) := by show Below _ _ _; rw [hw2]; exact below_drewN B1.out _
  have z2 : Hid (Ints .i64 w2 w.heap.size A l) := by show Ints _ _ _ _ _; rw [hw2]; exact z1.out.drewN _
  clear hw2
  obtain ⟨v, hv⟩ : ∃ v, v = widthN l := ⟨_, rfl⟩
  rw [← hv] at hwid Wa Wl ⊢
  clear hv
  have hv0 : (0 : Int) ≤ (v : Int) := by omega
  have hv32 : (v : Int) ≤ 32 := by omega
  go_wp2_with fail
  go_loopw [4, 5, 6] (fun av lv iv wr => (∃ k : Nat, k ≤ l.length ∧ iv = .int .i64 k ∧ av = .bool (allTo (inW v) l k) ∧ lv = .bool (allTo (inL v) l k)) ∧ ∃ n, wr = w2.drewN n) (fun _ _ iv _ => l.length - (intOf iv).toNat)
  case atStart => exact ⟨⟨0, Nat.zero_le _, rfl, rfl, rfl⟩, 0, rfl⟩
  case round =>
    obtain ⟨⟨k, hk, rfl, rfl, rfl⟩, n, rfl⟩ := hrel
    by_cases hlt : k < l.length
    · obtain ⟨b1, o1, rfl, hc1⟩ := z2.out.at_ hlt
      have h1 := allTo_step (f := inW v) hlt
      have h2 := allTo_step (f := inL v) hlt
      obtain ⟨x, hx⟩ : ∃ x, x = ix l k := ⟨_, rfl⟩
      rw [← hx] at h1 h2 hc1
      clear hx
      obtain ⟨p, hp⟩ : ∃ p, p = allTo (inW v) l k := ⟨_, rfl⟩
      obtain ⟨q, hq⟩ : ∃ q, q = allTo (inL v) l k := ⟨_, rfl⟩
      rw [← hp] at h1 ⊢
      rw [← hq] at h2 ⊢
      have H1 : Hid (allTo (inW v) l (k + 1) = (p && (fitsB x v || ((v : Int) == 0 && x == 0)))) := h1
      have H2 : Hid (allTo (inL v) l (k + 1) = (q && (fitsB x ((v : Int) - 1) || ((v : Int) == 1 && x == 0)))) := h2
      have k1 := arm p (fitsB x v) ((v : Int) == 0) (x == 0)
      have k2 := arm q (fitsB x ((v : Int) - 1)) ((v : Int) == 1) (x == 0)
      clear h1 h2 hp hq
      rcases k1 with ⟨rfl, g1⟩ | ⟨rfl, f1, g1⟩ | ⟨rfl, f1, y1, g1⟩ | ⟨rfl, f1, y1, zz1, g1⟩ | ⟨rfl, f1, y1, zz1, g1⟩ <;> rcases k2 with ⟨rfl, g2⟩ | ⟨rfl, f2, g2⟩ | ⟨rfl, f2, y2, g2⟩ | ⟨rfl, f2, y2, zz2, g2⟩ | ⟨rfl, f2, y2, zz2, g2⟩ <;>
        (first
          | (exfalso; rw [zz1] at zz2; cases zz2; done)
          | (exfalso; have a1 := beq_iff_eq.1 y1; have a2 := beq_iff_eq.1 y2; omega)
          | skip) <;>
        (rw [g1] at H1
         rw [g2] at H2
         clear g1 g2
         go_wp2_with ((with_reducible refine (fitsL_any _ _ _).mono ?_); rintro e w' ⟨rfl, rfl⟩)
         constructor
         · exact ⟨⟨k + 1, by omega, by go_num, by rw [H1.out], by rw [H2.out]⟩, n, rfl⟩
         · simp [intOf]; omega)
    · have e : k = l.length := by omega
      subst e
      rw [Wa.out]
      obtain ⟨q, hq⟩ : ∃ q, q = allTo (inL v) l l.length := ⟨_, rfl⟩
      rw [← hq] at Wl ⊢
      clear hq
      have eb := beq_self_eq_true (decide (v < 32))
      have Bn := Lib.hid (below_drewN B2.out n)
      rcases Wl.out with h0 | rfl
      · subst h0
        go_wp2_with fail
        go_ret
        exact ⟨rfl, Bn.out⟩
      · go_wp2_with fail
        all_goals
          go_ret
          exact ⟨rfl, Bn.out⟩
end Go.Proofs.YthpaohgdadnkaaaDoor
