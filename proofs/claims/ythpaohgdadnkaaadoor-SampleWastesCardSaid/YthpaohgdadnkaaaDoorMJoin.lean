/-
  SampleJoins: the width and the bytes of rows one behind the other; Same; the walk of the law.
-/
import Derived.Test.YthpaohgdadnkaaaDoorProg
import Derived.Test.YthpaohgdadnkaaaDoorMWide
namespace Go.Proofs.YthpaohgdadnkaaaDoor
open Go.RowKit

/-- the same where the operation is guarded and its guard is met. -/
theorem app_bw {ops : Array Oper} {rest : List Oper} {o : Oper} {a : Act} {Q : Exit → Act → World → Prop} (w : World) (hgd : Region.wanted o (yielded ops a.tmps) = true) (s x : Operand)
    (ho : o.op = .call { callee := .builtin .append, args := #[s, x], argTypes := #[28, 28] }) (W0 : World) (A1 : Option Addr) (n c1 : Nat) (xs : List Int) (hs : a.eval s = .slice A1 n c1) (hown : OwnB w W0.heap.size A1 n c1 xs)
    (B1 : Nat) (A : Option Addr) (m c : Nat) (news : List Int) (hx : a.eval x = .slice A m c) (hl : news.length = m) (hr : Ints .u8 w B1 A news) (hsz : n + m ≤ 1000000) (hb : Below W0.heap.size W0 w)
    (h : ∀ A' c' w', OwnB w' W0.heap.size A' (n + m) c' (xs ++ news) → Below W0.heap.size W0 w' → wpList Tryd.prog ops Q rest (a.put o.dst (.slice A' (n + m) c')) w') : wpList Tryd.prog ops Q (o :: rest) a w := by
  obtain ⟨i0, hi0, hz0, hz1, hz2⟩ := info_parts byte_info
  refine wpList_step fun K hK => ?_
  rw [if_pos hgd]
  refine wp_app w s x 28 ho W0.heap.size 5 i0 _ 1 1 Tryd.underlying28 hi0 hz0 hz1 hz2 rfl (by omega) _ n _ hs hown B1 A m c (news.map (Value.int .u8)) hx (by simpa using hl) hr (oneCell_ints _ _) (by simp only [maxLen]; omega) (by omega) hb.size fun A' c' w' h2 h3 _ => hK _ _ (h A' c' w' ?_ (below_app hb hown h3 hb.size))
  unfold OwnB
  rw [List.map_append]
  exact h2
theorem app_bw0 {ops : Array Oper} {rest : List Oper} {o : Oper} {a : Act} {Q : Exit → Act → World → Prop} (w : World) (hgd : Region.wanted o (yielded ops a.tmps) = true) (s x : Operand)
    (ho : o.op = .call { callee := .builtin .append, args := #[s, x], argTypes := #[28, 28] }) (W0 : World) (A1 : Option Addr) (c1 : Nat) (hs : a.eval s = .slice A1 0 c1) (hown : OwnB w W0.heap.size A1 0 c1 [])
    (B1 : Nat) (A : Option Addr) (m c : Nat) (news : List Int) (hx : a.eval x = .slice A m c) (hl : news.length = m) (hr : Ints .u8 w B1 A news) (hsz : m ≤ 1000000) (hb : Below W0.heap.size W0 w)
    (h : ∀ A' c' w', OwnB w' W0.heap.size A' m c' news → Below W0.heap.size W0 w' → wpList Tryd.prog ops Q rest (a.put o.dst (.slice A' m c')) w') : wpList Tryd.prog ops Q (o :: rest) a w := by
  refine app_bw w hgd s x ho W0 A1 0 c1 [] hs hown B1 A m c news hx hl hr (by omega) hb fun A' c' w' h1 h2 => ?_
  rw [Nat.zero_add] at h1 ⊢
  exact h A' c' w' h1 h2

theorem need_max (x : Int) {v : Nat} (h : v ≤ 32) : need x v = max v (need x 0) := by
  obtain ⟨s1, s2⟩ := grow_spec x 33 v h (by omega)
  obtain ⟨t1, t2⟩ := grow_spec x 33 0 (by omega) (by omega)
  obtain ⟨u1, u2⟩ := need_le (x := x) h
  obtain ⟨n1, n2⟩ := need_le (x := x) (w := 0) (by omega)
  change (need x v = v ∨ (v < need x v ∧ x ≠ 0 ∧ fitsB x ((need x v : Int) - 1) = false)) at s1
  change (x = 0 ∨ need x v = 32 ∨ fitsB x (need x v : Int) = true) at s2
  change (need x 0 = 0 ∨ (0 < need x 0 ∧ x ≠ 0 ∧ fitsB x ((need x 0 : Int) - 1) = false)) at t1
  change (x = 0 ∨ need x 0 = 32 ∨ fitsB x (need x 0 : Int) = true) at t2
  obtain ⟨u, hu⟩ : ∃ u, u = need x v := ⟨_, rfl⟩
  obtain ⟨n, hn⟩ : ∃ n, n = need x 0 := ⟨_, rfl⟩
  rw [← hu] at s1 s2 u1 u2 ⊢
  rw [← hn] at t1 t2 n1 n2 ⊢
  have mono : ∀ {a b : Nat}, fitsB x (a : Int) = true → a < b → b ≤ 32 → fitsB x ((b : Int) - 1) = true := fun {a b} h1 h2 h3 => by
    have := fits_more h1 (show a ≤ b - 1 by omega) (by omega)
    rwa [show ((b - 1 : Nat) : Int) = (b : Int) - 1 by omega] at this
  by_cases hlt : n < u
  · rcases s1 with s1 | ⟨s1, s3, s4⟩
    · omega
    · rcases t2 with t2 | t2 | t2
      · exact absurd t2 s3
      · omega
      · rw [mono t2 hlt u1] at s4; cases s4
  · by_cases hgt : u < n
    · rcases t1 with t1 | ⟨t1, t3, t4⟩
      · omega
      · rcases s2 with s2 | s2 | s2
        · exact absurd s2 t3
        · omega
        · rw [mono s2 hgt n1] at t4; cases t4
    · omega
theorem fold_max (l : List Int) : ∀ v, v ≤ 32 → foldN l v = max v (foldN l 0) := by
  induction l with
  | nil => intro v h; simp [foldN]
  | cons x l ih =>
    intro v h
    have e1 : foldN (x :: l) v = foldN l (need x v) := rfl
    have e2 : foldN (x :: l) 0 = foldN l (need x 0) := rfl
    have n1 := (need_le (x := x) h).1
    have n2 := (need_le (x := x) (w := 0) (by omega)).1
    rw [e1, e2, ih _ n1, ih _ n2, need_max x h]
    omega
theorem width_append (a b : List Int) : widthN (a ++ b) = max (widthN a) (widthN b) := by
  have e : widthN (a ++ b) = foldN b (widthN a) := by simp [widthN, foldN]
  rw [e, fold_max b _ (widthN_le a)]; rfl
theorem fit_append (a b : List Int) (n : Int) : allFit (a ++ b) n = (allFit a n && allFit b n) := by simp [allFit]
/-- the errors and the bytes of two rows, and of both. -/
theorem pack_both (a b : List Int) (n : Int) : ∃ X Y Z e f g, packR a n = (X, e) ∧ packR b n = (Y, f) ∧ packR (a ++ b) n = (Z, g) ∧
    ((e = 1 ∧ f = 1 ∧ g = 1 ∧ Z = []) ∨ (e = 6 ∧ f = 6 ∧ g = 6 ∧ Z = []) ∨ (e = 6 ∧ f = 0 ∧ g = 6 ∧ Z = []) ∨ (e = 0 ∧ f = 6 ∧ g = 6 ∧ Z = []) ∨ (e = 0 ∧ f = 0 ∧ g = 0 ∧ Z = X ++ Y)) := by
  refine ⟨(packR a n).1, (packR b n).1, (packR (a ++ b) n).1, (packR a n).2, (packR b n).2, (packR (a ++ b) n).2, rfl, rfl, rfl, ?_⟩
  unfold packR
  rw [fit_append]
  cases depth n with
  | false => simp
  | true => cases allFit a n <;> cases allFit b n <;> simp [packN_append]
theorem packR_len (a : List Int) (n : Int) : (packR a n).1.length ≤ a.length * 3 := by
  unfold packR
  split
  · rename_i h
    split
    · have := depth_true.1 h
      rw [packN_len]
      exact Nat.mul_le_mul_left _ (by unfold sizeN; omega)
    · simp
  · simp
theorem same_b (l : List Int) (n : Nat) (hn : n = l.length) (A B : Option Addr) (b1 b2 c d : Nat) (w : World) (ha : Ints .u8 w b1 A l) (hb : Ints .u8 w b2 B l) :
    Calls Tryd.prog 21 #[.slice A n c, .slice B n d] w fun e w' => e = .returned (.bool true) ∧ w' = w := by
  have h1 := conv_any (c := c) hn ha
  have h2 := conv_any (c := d) hn hb
  clear hn
  go_enter Tryd.func21, Tryd.ntmps21
  go_wp2
  go_ret
  exact ⟨rfl, rfl⟩

set_option maxHeartbeats 2000000 in
set_option maxRecDepth 100000 in
theorem joins_any (a b : List Int) (_ma : a.length ≤ 9223372036854775807) (A : Option Addr) (ca : Nat) (_mb : b.length ≤ 9223372036854775807) (B : Option Addr) (cb : Nat) (n : Int) (w : World) (hT : Tab w) (ha : Ints .i64 w w.heap.size A a) (hb : Ints .i64 w w.heap.size B b) :
    Calls Tryd.prog 6 #[.slice A a.length ca, .slice B b.length cb, .int .i64 n] w fun e w' => e = .returned (.bool true) ∧ Below w.heap.size w w' := by
  have HT := Lib.hid hT
  clear hT
  by_cases q1 : 200 < a.length
  · have hI : (200 : Int) < (a.length : Int) := by omega
    go_enter Tryd.func6, Tryd.ntmps6
    go_wp2_with fail
    (with_reducible refine (known_any _ HT.out).mono ?_); rintro e w1 ⟨rfl, b1⟩
    go_wp2_with fail
    go_ret
    exact ⟨rfl, b1⟩
  have q1I : (a.length : Int) ≤ 200 := by omega
  by_cases q2 : 200 < b.length
  · have hI : (200 : Int) < (b.length : Int) := by omega
    go_enter Tryd.func6, Tryd.ntmps6
    go_wp2_with fail
    (with_reducible refine (known_any _ HT.out).mono ?_); rintro e w1 ⟨rfl, b1⟩
    go_wp2_with fail
    go_ret
    exact ⟨rfl, b1⟩
  have q2I : (b.length : Int) ≤ 200 := by omega
  obtain ⟨X, Y, Z, e, f, g, pa, pb, pz, hcase⟩ := pack_both a b n
  have hX : X.length ≤ 600 := by have := packR_len a n; rw [pa] at this; simp only at this; omega
  have hY : Y.length ≤ 600 := by have := packR_len b n; rw [pb] at this; simp only at this; omega
  have hwid := width_append a b
  have wa32 := widthN_le a
  have wb32 := widthN_le b
  have Pa := Lib.hid pa
  have Pb := Lib.hid pb
  have Pz := Lib.hid pz
  have Hc := Lib.hid hcase
  have Hab := Lib.hid (show (a ++ b).length = a.length + b.length from List.length_append)
  clear pa pb pz hcase q1 q2
  go_enter Tryd.func6, Tryd.ntmps6
  go_wp2_with fail
  (with_reducible refine (known_any _ HT.out).mono ?_); rintro e0 w1 ⟨rfl, b1⟩
  have B1 := Lib.hid b1
  have za := Lib.hid (ha.below b1)
  have zb := Lib.hid (hb.below b1)
  clear b1
  go_wp2_with (first
    | (at_builtin; refine app_z0 _ rfl (.tmp 24) (.tmp 25) rfl w1 _ _ rfl (own_emptyZ w1) _ A _ ca a rfl rfl (za.out.below (bal (brefl w1) _ |>.mono B1.out.size)) (by omega) (bal (brefl w1) _) ?_; intro A2 c2 w2 ho2 hb2)
    | (at_builtin; refine app_z _ rfl (.tmp 26) (.tmp 27) rfl w1 _ _ _ _ rfl ho2 _ B _ cb b rfl rfl (zb.out.below (hb2.mono B1.out.size)) (by omega) hb2 ?_; intro A3 c3 w3 ho3 hb3))
  have hz := Lib.hid (ho3.ints)
  have B2 := Lib.hid (bth B1.out hb3)
  have za := Lib.hid (za.out.below (hb3.mono B1.out.size))
  have zb := Lib.hid (zb.out.below (hb3.mono B1.out.size))
  clear ho2 hb2 ho3 hb3
  obtain ⟨m, hm⟩ : ∃ m, m = a.length + b.length := ⟨_, rfl⟩
  have Hm : Hid (m = (a ++ b).length) := by show _ = _; rw [hm, Hab.out]
  have hm4 : m ≤ 400 := by omega
  rw [← hm]
  clear hm
  have t1 := packL_any a a.length rfl (by omega) n A ca w3 (za.out.more B2.out.size)
  rw [Pa.out] at t1
  go_wp2_with fail
  (with_reducible refine t1.mono ?_); rintro e0 w4 ⟨RX, rX, rfl, oX, b4⟩
  have B4 := Lib.hid (bth B2.out b4)
  have zX := Lib.hid oX.ints
  have za := Lib.hid (za.out.below (b4.mono B2.out.size))
  have zb := Lib.hid (zb.out.below (b4.mono B2.out.size))
  have hz := Lib.hid ((hz.out.below b4).more b4.size)
  clear t1 oX b4
  have t1 := packL_any b b.length rfl (by omega) n B cb w4 (zb.out.more B4.out.size)
  rw [Pb.out] at t1
  go_wp2_with fail
  (with_reducible refine t1.mono ?_); rintro e0 w5 ⟨RY, rY, rfl, oY, b5⟩
  have B5 := Lib.hid (bth B4.out b5)
  have zY := Lib.hid oY.ints
  have zX := Lib.hid ((zX.out.below b5).more b5.size)
  have za := Lib.hid (za.out.below (b5.mono B4.out.size))
  have zb := Lib.hid (zb.out.below (b5.mono B4.out.size))
  have hz := Lib.hid ((hz.out.below b5).more b5.size)
  clear t1 oY b5
  have t1 := packL_any (a ++ b) m Hm.out (by omega) n A3 c3 w5 hz.out
  rw [Pz.out] at t1
  go_wp2_with fail
  (with_reducible refine t1.mono ?_); rintro e0 w6 ⟨RZ, rZ, rfl, oZ, b6⟩
  have B6 := Lib.hid (bth B5.out b6)
  have zZ := Lib.hid oZ.ints
  have zX := Lib.hid ((zX.out.below b6).more b6.size)
  have zY := Lib.hid ((zY.out.below b6).more b6.size)
  have za := Lib.hid (za.out.below (b6.mono B5.out.size))
  have zb := Lib.hid (zb.out.below (b6.mono B5.out.size))
  have hz := Lib.hid ((hz.out.below b6).more b6.size)
  clear t1 oZ b6
  obtain ⟨va, hva⟩ : ∃ v, v = widthN a := ⟨_, rfl⟩
  obtain ⟨vb, hvb⟩ : ∃ v, v = widthN b := ⟨_, rfl⟩
  have t0 := widthL_any (a ++ b) m Hm.out (by omega) A3 _ c3 w6 hz.out
  rw [hwid, ← hva, ← hvb] at t0
  rw [← hva] at wa32
  rw [← hvb] at wb32
  have Hva := Lib.hid hva
  have Hvb := Lib.hid hvb
  clear hwid hva hvb
  go_wp2_with fail
  (with_reducible refine t0.mono ?_); rintro e0 w7 ⟨rfl, n7, h7⟩
  have B7 : Hid (Below w6.heap.size w6 w7) := by show Below _ _ _; rw [h7]; exact below_drewN (brefl w6) _
  clear t0 h7
  have t0 := widthL_any a a.length rfl (by omega) A _ ca w7 (za.out.below (B7.out.mono B6.out.size))
  rw [← Hva.out] at t0
  go_wp2_with fail
  (with_reducible refine t0.mono ?_); rintro e0 w8 ⟨rfl, n8, h8⟩
  have B8 : Hid (Below w6.heap.size w6 w8) := by show Below _ _ _; rw [h8]; exact below_drewN B7.out _
  clear t0 h8
  have t0 := widthL_any b b.length rfl (by omega) B _ cb w8 (zb.out.below (B8.out.mono B6.out.size))
  rw [← Hvb.out] at t0
  go_wp2_with fail
  (with_reducible refine t0.mono ?_); rintro e0 w9 ⟨rfl, n9, h9⟩
  have B9 : Hid (Below w6.heap.size w6 w9) := by show Below _ _ _; rw [h9]; exact below_drewN B8.out _
  clear t0 h9
  have zX := Lib.hid ((zX.out.below B9.out).more B9.out.size)
  have zY := Lib.hid ((zY.out.below B9.out).more B9.out.size)
  have zZ := Lib.hid ((zZ.out.below B9.out).more B9.out.size)
  have Be := Lib.hid (bth B6.out B9.out)
  obtain ⟨M, hM⟩ : ∃ M, M = max va vb := ⟨_, rfl⟩
  rw [← hM]
  have hcmp : (va ≤ vb ∧ M = vb) ∨ (vb < va ∧ M = va) := by omega
  clear hM
  rcases hcmp with ⟨hc1, rfl⟩ | ⟨hc1, rfl⟩
  all_goals
    rcases Hc.out with ⟨rfl, rfl, rfl, rfl⟩ | ⟨rfl, rfl, rfl, rfl⟩ | ⟨rfl, rfl, rfl, rfl⟩ | ⟨rfl, rfl, rfl, rfl⟩ | ⟨rfl, rfl, rfl, rfl⟩
  all_goals
    first
      | (go_wp2_with fail
         all_goals
           go_ret
           exact ⟨rfl, Be.out⟩)
      | (go_wp2_with (first
           | (at_builtin; refine app_bw0 _ (by simp [Region.wanted, yielded]) (.tmp 75) (.tmp 76) rfl w9 _ _ rfl (own_emptyB w9) _ RX _ rX X rfl rfl (zX.out.below (bal (brefl w9) _)) (by omega) (bal (brefl w9) _) ?_; intro A5 c5 w10 ho5 hb5)
           | (at_builtin; refine app_bw _ (by simp [Region.wanted, yielded]) (.tmp 77) (.tmp 78) rfl w9 _ _ _ _ rfl ho5 _ RY _ rY Y rfl rfl (zY.out.below hb5) (by omega) hb5 ?_; intro A6 c6 w11 ho6 hb6))
         all_goals
           (with_reducible refine (same_b (X ++ Y) (X.length + Y.length) (List.length_append).symm _ _ _ _ _ _ w11 (zZ.out.below hb6) ho6.ints).mono ?_); rintro e0 w12 ⟨rfl, rfl⟩
           have Bf := Lib.hid (bth Be.out hb6)
           clear ho5 hb5 ho6 hb6
           go_wp2_with fail
           go_ret
           exact ⟨rfl, Bf.out⟩)
end Go.Proofs.YthpaohgdadnkaaaDoor
