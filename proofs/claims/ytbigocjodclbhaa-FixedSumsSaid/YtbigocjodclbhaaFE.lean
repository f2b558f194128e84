/-
  fixed.Back.
-/
import Derived.Test.YtbigocjodclbhaaProg
import Derived.Test.YtbigocjodclbhaaFD
namespace Go.Proofs.Ytbigocjodclbhaa
open Go.RowKit

/-! ### Back -/
theorem ints_one (w : World) (k : IntKind) (x : Int) (t : TypeId) : Ints k (w.alloc (.cells #[.int k x] t)) (w.heap.size + 1) (some ⟨w.heap.size, 0, none⟩) [x] := ints_lit _ _ _ _ _ rfl

theorem fwide_q (xs : List Int) (n : Nat) (hn : n = xs.length) (hm : n ≤ 140737488355328) (A : Option Addr) (b c : Nat) (w : World) (ha : Ints .i64 w b A xs) :
    Calls Try.prog 20 #[.slice A n c] w fun e w' => e = .returned (.bool (allWideB xs)) ∧ Below w.heap.size w w' :=
  (fwide_any xs n hn hm A b c w ha).mono fun e w' ⟨h, hw⟩ => ⟨h, by rw [← hw]; exact brefl w⟩

theorem backL_bad (warm rest : List Int) (o : Int) (hm : warm.length ≤ 9223372036854775807) (h : okBack warm o = false) (A B : Option Addr) (n c d : Nat) (w : World) :
    Calls Try.prog 18 #[.slice A warm.length c, .slice B n d, .int .i64 o] w (PairQ w.heap.size (backP warm rest o) w) := by
  rw [backP_bad h]
  have hn : ¬ (0 ≤ o ∧ o ≤ 4 ∧ (warm.length : Int) = o) := by rw [← okBack_true, h]; simp
  by_cases h1 : o < 0
  · clear hn
    go_enter Try.func18, Try.ntmps18
    go_wp2_with fail
    go_ret2
    exact pair_err (brefl w)
  · by_cases h2 : 4 < o
    · clear hn
      go_enter Try.func18, Try.ntmps18
      go_wp2_with fail
      go_ret2
      exact pair_err (brefl w)
    · have h3 : ((warm.length : Int) != o) = true := by simp; omega
      clear hn
      go_enter Try.func18, Try.ntmps18
      go_wp2_with fail
      go_ret2
      exact pair_err (brefl w)

set_option maxHeartbeats 1000000 in
theorem backL_ok (warm rest : List Int) (o : Nat) (ho : o ≤ 4) (hol : warm.length = o) (hm : rest.length ≤ 17592186044000) (A B : Option Addr) (c d : Nat) (w : World) (ha : Ints .i64 w w.heap.size A warm) (hb : Ints .i64 w w.heap.size B rest) :
    Calls Try.prog 18 #[.slice A o c, .slice B rest.length d, .int .i64 (o : Int)] w (PairQ w.heap.size (backP warm rest o) w) := by
  have hok := Lib.hid (okBack_true (warm := warm) (o := (o : Int)) |>.2 ⟨by omega, by omega, by omega⟩)
  have e1 : (0 : Int) ≤ (o : Int) := by omega
  have e2 : (o : Int) ≤ 4 := by omega
  have e3 : ((o : Int) != (o : Int)) = false := by simp
  have Hol := Lib.hid hol
  clear hol
  obtain ⟨i0, hi0, hz0, hz1, hz2⟩ := info_parts int_info
  cases hw : allWideB warm with
  | false =>
    have Hw := Lib.hid hw
    clear hw
    go_enter Try.func18, Try.ntmps18
    go_wp2_with fail
    (with_reducible refine (fwide_any warm _ Hol.out.symm (by omega) _ _ _ _ ha).mono ?_); rintro e w' ⟨rfl, rfl⟩
    rw [Hw.out]
    go_wp2_with fail
    go_ret2
    rw [backP_w1 hok.out Hw.out]
    exact pair_err (brefl w)
  | true =>
    have Hw := Lib.hid hw
    clear hw
    cases hw2 : allWideB rest with
    | false =>
      have Hw2 := Lib.hid hw2
      clear hw2
      go_enter Try.func18, Try.ntmps18
      go_wp2_with fail
      (with_reducible refine (fwide_any warm _ Hol.out.symm (by omega) _ _ _ _ ha).mono ?_); rintro e w' ⟨rfl, rfl⟩
      rw [Hw.out]
      go_wp2_with fail
      (with_reducible refine (fwide_any rest _ rfl (by omega) _ _ _ _ hb).mono ?_); rintro e w' ⟨rfl, rfl⟩
      rw [Hw2.out]
      go_wp2_with fail
      go_ret2
      rw [backP_w2 hok.out Hw.out Hw2.out]
      exact pair_err (brefl w)
    | true =>
      have Hw2 := Lib.hid hw2
      clear hw2
      go_enter Try.func18, Try.ntmps18
      go_wp2_with fail
      (with_reducible refine (fwide_any warm _ Hol.out.symm (by omega) _ _ _ _ ha).mono ?_); rintro e w' ⟨rfl, rfl⟩
      rw [Hw.out]
      go_wp2_with fail
      (with_reducible refine (fwide_any rest _ rfl (by omega) _ _ _ _ hb).mono ?_); rintro e w' ⟨rfl, rfl⟩
      rw [Hw2.out]
      go_wp2_with (at_builtin; refine wpList_app _ rfl (.const (.slice none 0 0)) (.tmp 32) 22 rfl w.heap.size 3 i0 _ 1 8 Try.underlying22 hi0 hz0 hz1 hz2 rfl (by omega) (.slice none 0 0) 0 [] rfl (World.ownsRow_nil _ _ _ _) w.heap.size A o c (warm.map (Value.int .i64)) rfl (by rw [List.length_map, Hol.out]; omega) ha (oneCell_ints _ _) (by simp only [maxLen]; omega) (by omega) (Nat.le_refl _) ?_; intro A1 k1 w1 ho1 hg1 hat1)
      have hb1 : Hid (Below w.heap.size w w1) := below_app (brefl w) (World.ownsRow_nil w w.heap.size 3 1) hg1 (Nat.le_refl _)
      rw [Nat.zero_add, List.nil_append] at ho1
      have ho1' := Lib.hid ho1
      clear hg1 hat1 ho1
      go_loopw [8, 10, 11, 36] (fun ov _ _ iv wr => (∃ (k : Nat) (out : List Int) (A : Option Addr) (c : Nat), k ≤ rest.length ∧ iv = .int .i64 k ∧ ov = .slice A (o + k) c ∧ wr.ownsRow w.heap.size 3 1 (.slice A (o + k) c) (o + k) (out.map (.int .i64)) ∧ allWideB out = true ∧ backTo o out (rest.drop k) = backTo o warm rest) ∧ Below w.heap.size w wr)
        (fun _ _ _ iv _ => rest.length - (intOf iv).toNat)
      case atStart => exact ⟨⟨0, warm, A1, k1, Nat.zero_le _, rfl, rfl, ho1'.out, Hw.out, rfl⟩, hb1.out⟩
      case round =>
        obtain ⟨⟨k, out, A2, c2, hk, rfl, rfl, ho2, hwo, hbk⟩, hbl⟩ := hrel
        have hlo := Lib.hid (own_len ho2)
        have hwo' := Lib.hid hwo
        have hbk' := Lib.hid hbk
        have hbl' := Lib.hid hbl
        have ho2' := Lib.hid ho2
        clear hwo hbk hbl ho2
        by_cases hlt : k < rest.length
        · obtain ⟨bB, oB, rfl, hcB⟩ := (hb.below hbl'.out).at_ hlt
          have hx := wideB_true.1 (allWideB_true.1 Hw2.out k hlt)
          obtain ⟨gb1, gb2⟩ := guessF_b (xs := out) ho (by rw [hlo.out]; omega) hwo'.out
          obtain ⟨hx1, hx2⟩ := hx
          have hdr := Lib.hid (drop_ix hlt)
          go_wp2_with fail
          (with_reducible refine (guess_any out _ hlo.out.symm (by omega) hwo'.out o ho (by omega) _ _ _ (own_ints ho2'.out)).mono ?_); rintro e w2 ⟨rfl, b2⟩
          have hb2 := Lib.hid (bth hbl'.out b2)
          have ho3 := Lib.hid (own_below ho2'.out b2 (Nat.le_refl _))
          clear b2
          go_wp2_with fail
          (with_reducible refine (fwide_q [ix rest k + guessF out o] 1 rfl (by omega) _ _ _ _ (ints_one _ _ _ _)).mono ?_); rintro e w3 ⟨rfl, b3⟩
          have hb3 := Lib.hid (bth (bal hb2.out _) b3)
          have ho3 := Lib.hid (own_below (ho3.out.alloc _) b3 (Nat.le_refl _))
          clear b3
          rw [show allWideB [ix rest k + guessF out o] = wideB (ix rest k + guessF out o) from by simp [allWideB]]
          cases hy : wideB (ix rest k + guessF out o) with
          | false =>
            have Hy := Lib.hid hy
            clear hy
            go_wp2_with fail
            go_ret2
            rw [backP_none hok.out Hw.out Hw2.out (by rw [Int.toNat_natCast, ← hbk'.out, hdr.out, backTo, if_neg (by rw [Hy.out]; simp)])]
            exact pair_err hb3.out
          | true =>
            have Hy := Lib.hid hy
            clear hy
            go_wp2_with (at_builtin; refine wpList_app _ rfl (.tmp 49) (.tmp 51) 22 rfl w.heap.size 3 i0 _ 1 8 Try.underlying22 hi0 hz0 hz1 hz2 rfl (by omega) (.slice A2 (o + k) c2) (o + k) _ rfl (ho3.out.alloc _) _ _ 1 1 [.int .i64 (ix rest k + guessF out o)] rfl rfl (rd_new1 _ _ _) (by simp [Value.oneCell']) (by simp only [maxLen]; omega) (by omega) (by have := hb3.out.size; simp at this ⊢; omega) ?_; intro A4 k4 w4 ho4 hg4 hat4)
            have hb4 := Lib.hid (below_app (bal hb3.out _) (ho3.out.alloc _) hg4 (by have := hb3.out.size; simp at this ⊢; omega))
            have ho4' := Lib.hid ho4
            clear hg4 hat4 ho4
            go_wp2_with fail
            go_roundw
            case rel =>
              refine ⟨⟨k + 1, out ++ [ix rest k + guessF out o], A4, k4, by omega, by go_num, rfl, ?_, allWide_snoc hwo'.out Hy.out, ?_⟩, hb4.out⟩
              · rw [List.map_append]; exact ho4'.out
              · rw [← hbk'.out, hdr.out, backTo, if_pos Hy.out]
            case measure => simp [intOf]; omega
        · have e : k = rest.length := by omega
          subst e
          have hl : Hid (backTo o warm rest = some out) := by
            show _ = _
            rw [← hbk'.out, List.drop_length, backTo]
          go_wp2_with fail
          go_ret2
          rw [backP_some hok.out Hw.out Hw2.out (by rw [Int.toNat_natCast]; exact hl.out)]
          have hl2 := hlo.out
          exact ⟨A2, c2, by rw [hl2]; rfl, by rw [hl2]; exact ho2'.out, hbl'.out⟩

theorem backL_any (warm rest : List Int) (o : Int) (hm : rest.length ≤ 17592186044000) (hm2 : warm.length ≤ 9223372036854775807) (A B : Option Addr) (c d : Nat) (w : World) (ha : Ints .i64 w w.heap.size A warm) (hb : Ints .i64 w w.heap.size B rest) :
    Calls Try.prog 18 #[.slice A warm.length c, .slice B rest.length d, .int .i64 o] w (PairQ w.heap.size (backP warm rest o) w) := by
  cases h : okBack warm o with
  | false => exact backL_bad warm rest o hm2 h A B _ c d w
  | true =>
    obtain ⟨h1, h2, h3⟩ := okBack_true.1 h
    subst h3
    exact backL_ok warm rest warm.length (by omega) rfl hm A B c d w ha hb
end Go.Proofs.Ytbigocjodclbhaa
