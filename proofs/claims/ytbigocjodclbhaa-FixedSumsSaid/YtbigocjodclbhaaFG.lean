/-
  The reference's FixedBack: the walk.
-/
import Derived.Test.YtbigocjodclbhaaProg
import Derived.Test.YtbigocjodclbhaaFF
namespace Go.Proofs.Ytbigocjodclbhaa
open Go.RowKit

theorem backR_bad (warm rest : List Int) (o : Int) (hm : warm.length ≤ 9223372036854775807) (h : okBack warm o = false) (A B : Option Addr) (n c d : Nat) (w : World) :
    Calls Try.prog 19 #[.slice A warm.length c, .slice B n d, .int .i64 o] w (PairQ w.heap.size (backP warm rest o) w) := by
  rw [backP_bad h]
  have hn : ¬ (0 ≤ o ∧ o ≤ 4 ∧ (warm.length : Int) = o) := by rw [← okBack_true, h]; simp
  by_cases h1 : o < 0
  · clear hn
    go_enter Try.func19, Try.ntmps19
    go_wp2_with fail
    go_ret2
    exact pair_err (brefl w)
  · by_cases h2 : 4 < o
    · clear hn
      go_enter Try.func19, Try.ntmps19
      go_wp2_with fail
      go_ret2
      exact pair_err (brefl w)
    · have h3 : ((warm.length : Int) != o) = true := by simp; omega
      clear hn
      go_enter Try.func19, Try.ntmps19
      go_wp2_with fail
      go_ret2
      exact pair_err (brefl w)

/-- blocks s1 to s2 of wr are as in w2, and the row v lies outside them. -/
structure Between (s1 s2 : Nat) (w2 wr : World) (v : Value) : Prop where
  same : ∀ g, s1 ≤ g → g < s2 → wr.heap[g]? = w2.heap[g]?
  out : ∀ g, v.ownBlock = some g → g < s1 ∨ s2 ≤ g
  le : s2 ≤ wr.heap.size
theorem Between.ints {s1 s2 : Nat} {w2 wr : World} {v : Value} {A : Option Addr} {xs : List Int} (h : Between s1 s2 w2 wr v) (hi : Ints .i64 w2 s2 A xs) (hA : ∀ b off, A = some ⟨b, off, none⟩ → s1 ≤ b) : Ints .i64 wr s2 A xs := fun hn => by
  obtain ⟨b, off, e, hb, hc⟩ := hi hn
  exact ⟨b, off, e, hb, fun i u hu => (World.cell?_of_block (h.same b (hA b off e) hb)).trans (hc i u hu)⟩
theorem Between.below {s1 s2 : Nat} {w2 wr w' : World} {v : Value} (h : Between s1 s2 w2 wr v) (hb : Below wr.heap.size wr w') : Between s1 s2 w2 w' v :=
  ⟨fun g h1 h2 => (hb.block g (by have := h.le; omega)).trans (h.same g h1 h2), h.out, by have := h.le; have := hb.size; omega⟩
theorem Between.grown {s1 s2 : Nat} {w2 wr w' : World} {v v' : Value} (h : Between s1 s2 w2 wr v) (hg : wr.grownBy w' v.ownBlock) (hat : v'.ownBlock = v.ownBlock ∨ v'.ownBlock = some wr.heap.size) : Between s1 s2 w2 w' v' := by
  refine ⟨fun g h1 h2 => (hg.block g (by have := h.le; omega) (fun e => by have := h.out g e.symm; omega)).trans (h.same g h1 h2), fun g hg' => ?_, by have := h.le; have := hg.size; omega⟩
  rcases hat with e | e
  · exact h.out g (by rw [← e]; exact hg')
  · rw [e] at hg'
    injection hg' with hg'
    have := h.le
    omega
theorem rTo_succ (cs out : List Int) (x : Int) (k : Nat) : rTo cs out x (k + 1) = wrap64 (rTo cs out x k + wrap64 (ix cs k * ix out (out.length - 1 - k))) := rfl

set_option maxHeartbeats 2000000 in
theorem backR_ok (warm rest : List Int) (o : Nat) (ho : o ≤ 4) (hol : warm.length = o) (hm : rest.length ≤ 17592186044000) (A B : Option Addr) (c d : Nat) (w : World) (ha : Ints .i64 w w.heap.size A warm) (hb : Ints .i64 w w.heap.size B rest) :
    Calls Try.prog 19 #[.slice A o c, .slice B rest.length d, .int .i64 (o : Int)] w (PairQ w.heap.size (backP warm rest o) w) := by
  have hok := Lib.hid (okBack_true (warm := warm) (o := (o : Int)) |>.2 ⟨by omega, by omega, by omega⟩)
  have e1 : (0 : Int) ≤ (o : Int) := by omega
  have e2 : (o : Int) ≤ 4 := by omega
  have e3 : ((o : Int) != (o : Int)) = false := by simp
  have Hol := Lib.hid hol
  clear hol
  obtain ⟨i0, hi0, hz0, hz1, hz2⟩ := info_parts int_info
  cases hw : allWideB warm with
  | false =>
    have Hw := Lib.hid hw
    clear hw
    go_enter Try.func19, Try.ntmps19
    go_wp2_with fail
    (with_reducible refine (allWide2_any warm _ Hol.out.symm (by omega) _ _ _ _ ha).mono ?_); rintro e w' ⟨rfl, rfl⟩
    rw [Hw.out]
    go_wp2_with fail
    go_ret2
    rw [backP_w1 hok.out Hw.out]
    exact pair_err (brefl w)
  | true =>
    have Hw := Lib.hid hw
    clear hw
    cases hw2 : allWideB rest with
    | false =>
      have Hw2 := Lib.hid hw2
      clear hw2
      go_enter Try.func19, Try.ntmps19
      go_wp2_with fail
      (with_reducible refine (allWide2_any warm _ Hol.out.symm (by omega) _ _ _ _ ha).mono ?_); rintro e w' ⟨rfl, rfl⟩
      rw [Hw.out]
      go_wp2_with fail
      (with_reducible refine (allWide2_any rest _ rfl (by omega) _ _ _ _ hb).mono ?_); rintro e w' ⟨rfl, rfl⟩
      rw [Hw2.out]
      go_wp2_with fail
      go_ret2
      rw [backP_w2 hok.out Hw.out Hw2.out]
      exact pair_err (brefl w)
    | true =>
      have Hw2 := Lib.hid hw2
      clear hw2
      go_enter Try.func19, Try.ntmps19
      go_wp2_with fail
      (with_reducible refine (allWide2_any warm _ Hol.out.symm (by omega) _ _ _ _ ha).mono ?_); rintro e w' ⟨rfl, rfl⟩
      rw [Hw.out]
      go_wp2_with fail
      (with_reducible refine (allWide2_any rest _ rfl (by omega) _ _ _ _ hb).mono ?_); rintro e w' ⟨rfl, rfl⟩
      rw [Hw2.out]
      go_wp2_with (at_builtin; refine wpList_app _ rfl (.tmp 33) (.tmp 34) 22 rfl w.heap.size 3 i0 _ 1 8 Try.underlying22 hi0 hz0 hz1 hz2 rfl (by omega) (.slice (some ⟨w.heap.size, 0, none⟩) 0 0) 0 [] rfl (own_empty w _ _) w.heap.size A o c (warm.map (Value.int .i64)) rfl (by rw [List.length_map, Hol.out]; omega) (ha.below (bal (brefl w) _)) (oneCell_ints _ _) (by simp only [maxLen]; omega) (by omega) (by simp) ?_; intro A1 k1 w1 ho1 hg1 hat1)
      have hb1 : Hid (Below w.heap.size w w1) := below_app (bal (brefl w) _) (own_empty w 3 1) hg1 (by simp)
      rw [Nat.zero_add, List.nil_append] at ho1
      have ho1' := Lib.hid ho1
      clear hg1 hat1 ho1
      (with_reducible refine (pascal_any o ho _).mono ?_); rintro e w2 ⟨Ac, cc, rfl, hic, hAc, b2⟩
      have hpl : Hid ((pascalF o).length = o) := by
        rcases o with _ | _ | _ | _ | _ | o <;> first | rfl | omega
      rw [hpl.out]
      have ho2 := Lib.hid (own_below ho1'.out b2 (Nat.le_refl _))
      have hbt : Hid (Between w1.heap.size w2.heap.size w2 w2 (.slice A1 o k1)) := ⟨fun _ _ _ => rfl, fun g hg => .inl (ho1'.out.lt g hg).2, Nat.le_refl _⟩
      have hb2 := Lib.hid (bth hb1.out b2)
      have hic' := Lib.hid hic
      have hAc' := Lib.hid hAc
      clear hic hAc b2
      go_wp2_with fail
      go_loopw [8, 10, 11, 12] (fun ov iv _ _ wr => (∃ (k : Nat) (out : List Int) (A : Option Addr) (c : Nat), k ≤ rest.length ∧ iv = .int .i64 k ∧ ov = .slice A (o + k) c ∧ wr.ownsRow w.heap.size 3 1 (.slice A (o + k) c) (o + k) (out.map (.int .i64)) ∧ allWideB out = true ∧ backTo o out (rest.drop k) = backTo o warm rest ∧ Between w1.heap.size w2.heap.size w2 wr (.slice A (o + k) c)) ∧ Below w.heap.size w wr)
        (fun _ iv _ _ _ => rest.length - (intOf iv).toNat)
      case atStart => exact ⟨⟨0, warm, A1, k1, Nat.zero_le _, rfl, rfl, ho2.out, Hw.out, rfl, hbt.out⟩, hb2.out⟩
      case round =>
        obtain ⟨⟨k, out, A2, c2, hk, rfl, rfl, ho3, hwo, hbk, hbw⟩, hbl⟩ := hrel
        obtain ⟨wo, rfl⟩ : ∃ wo : World, wo = wr := ⟨_, rfl⟩
        have hlo := Lib.hid (own_len ho3)
        have hwo' := Lib.hid hwo
        have hbk' := Lib.hid hbk
        have hbl' := Lib.hid hbl
        have ho3' := Lib.hid ho3
        have hbw' := Lib.hid hbw
        clear hwo hbk hbl ho3 hbw ho2 hbt
        by_cases hlt : k < rest.length
        · obtain ⟨bB, oB, rfl, hcB⟩ := (hb.below hbl'.out).at_ hlt
          have hx := wideB_true.1 (allWideB_true.1 Hw2.out k hlt)
          obtain ⟨hx1, hx2⟩ := hx
          have hdr := Lib.hid (drop_ix hlt)
          have hrt := Lib.hid (rTo_guess (out := out) ho (by rw [hlo.out]; omega) hwo'.out hx1 hx2)
          clear hx1 hx2
          go_wp2_with fail
          go_loopw [11, 12] (fun xv jv wi => (∃ j : Nat, j ≤ o ∧ jv = .int .i64 j ∧ xv = .int .i64 (rTo (pascalF o) out (ix rest k) j)) ∧ ∃ n, wi = wo.drewN n) (fun _ jv _ => o - (intOf jv).toNat)
          case atStart => exact ⟨⟨0, Nat.zero_le _, rfl, rfl⟩, 0, rfl⟩
          case round =>
            obtain ⟨⟨j, hj, rfl, rfl⟩, n, rfl⟩ := hrel
            by_cases hlt2 : j < o
            · obtain ⟨g, rfl, hBg, hgs⟩ := own_addr ho3'.out (by omega)
              obtain ⟨bC, oC, rfl, hcC⟩ := (hbw'.out.ints hic'.out hAc'.out).at_ (i := j) (by rw [hpl.out]; exact hlt2)
              have d1 := own_cell ho3'.out (i := o + k - 1 - j) (by omega)
              have hsu := Lib.hid (rTo_succ (pascalF o) out (ix rest k) j)
              have t1 := IntWalk.i64_in ((o : Int) + (k : Int) - 1) (by omega)
              have t2 := IntWalk.i64_in ((o : Int) + (k : Int) - 1 - (j : Int)) (by omega)
              have t3 : (0 : Int) ≤ (o : Int) + (k : Int) - 1 - (j : Int) := by omega
              have t4 : ((o : Int) + (k : Int) - 1 - (j : Int)).toNat = o + k - 1 - j := by omega
              have t5 : (o : Int) + (k : Int) - 1 - (j : Int) < (o : Int) + (k : Int) := by omega
              have t6 : (j : Int) ≤ (o : Int) + (k : Int) - 1 := by omega
              go_wp2_with fail
              go_quiet (fail)
              go_wp2_with fail
              go_roundw
              case rel => exact ⟨⟨j + 1, by omega, by go_num, by rw [hsu.out, hlo.out]⟩, n + nq, rfl⟩
              case measure => simp [intOf]; omega
            · have e : j = o := by omega
              subst e
              go_wp2_with fail
              rw [hrt.out]
              (with_reducible refine (wide2_any _ _).mono ?_); rintro e w' ⟨rfl, rfl⟩
              cases hy : wideB (ix rest k + guessF out j) with
              | false =>
                have Hy := Lib.hid hy
                clear hy
                go_wp2_with fail
                go_ret2
                rw [backP_none hok.out Hw.out Hw2.out (by rw [Int.toNat_natCast, ← hbk'.out, hdr.out, backTo, if_neg (by rw [Hy.out]; simp)])]
                exact pair_err (below_drewN hbl'.out n)
              | true =>
                have Hy := Lib.hid hy
                clear hy
                go_wp2_with (at_builtin; refine wpList_app _ rfl (.tmp 71) (.tmp 73) 22 rfl w.heap.size 3 i0 _ 1 8 Try.underlying22 hi0 hz0 hz1 hz2 rfl (by omega) (.slice A2 (j + k) c2) (j + k) _ rfl ((own_drewN ho3'.out n).alloc _) _ _ 1 1 [.int .i64 (ix rest k + guessF out j)] rfl rfl (rd_new1 _ _ _) (by simp [Value.oneCell']) (by simp only [maxLen]; omega) (by omega) (by have := hbl'.out.size; simp at this ⊢; omega) ?_; intro A4 k4 w4 ho4 hg4 hat4)
                have hb4 := Lib.hid (below_app (bal (below_drewN hbl'.out n) _) ((own_drewN ho3'.out n).alloc _) hg4 (by have := hbl'.out.size; simp at this ⊢; omega))
                have hbw4 := Lib.hid (Between.grown (Between.below hbw'.out (bal (below_drewN (brefl wo) n) _)) hg4 hat4)
                have ho4' := Lib.hid ho4
                clear hg4 hat4 ho4
                go_wp2_with fail
                go_roundw
                case rel =>
                  refine ⟨⟨k + 1, out ++ [ix rest k + guessF out j], A4, k4, by omega, by go_num, rfl, ?_, allWide_snoc hwo'.out Hy.out, ?_, hbw4.out⟩, hb4.out⟩
                  · rw [List.map_append]; exact ho4'.out
                  · rw [← hbk'.out, hdr.out, backTo, if_pos Hy.out]
                case measure => simp [intOf]; omega
        · have e : k = rest.length := by omega
          subst e
          have hl : Hid (backTo o warm rest = some out) := by
            show _ = _
            rw [← hbk'.out, List.drop_length, backTo]
          go_wp2_with fail
          go_ret2
          rw [backP_some hok.out Hw.out Hw2.out (by rw [Int.toNat_natCast]; exact hl.out)]
          have hl2 := hlo.out
          exact ⟨A2, c2, by rw [hl2]; rfl, by rw [hl2]; exact ho3'.out, hbl'.out⟩

theorem backR_any (warm rest : List Int) (o : Int) (hm : rest.length ≤ 17592186044000) (hm2 : warm.length ≤ 9223372036854775807) (A B : Option Addr) (c d : Nat) (w : World) (ha : Ints .i64 w w.heap.size A warm) (hb : Ints .i64 w w.heap.size B rest) :
    Calls Try.prog 19 #[.slice A warm.length c, .slice B rest.length d, .int .i64 o] w (PairQ w.heap.size (backP warm rest o) w) := by
  cases h : okBack warm o with
  | false => exact backR_bad warm rest o hm2 h A B _ c d w
  | true =>
    obtain ⟨h1, h2, h3⟩ := okBack_true.1 h
    subst h3
    exact backR_ok warm rest warm.length (by omega) rfl hm A B c d w ha hb
end Go.Proofs.Ytbigocjodclbhaa
