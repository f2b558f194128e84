/-
  SampleBack: the walk of the law.
-/
import Derived.Test.YthpaohgdadnkaaaDoorProg
import Derived.Test.YthpaohgdadnkaaaDoorMBackP
import Derived.Test.YthpaohgdadnkaaaDoorMJoin
namespace Go.Proofs.YthpaohgdadnkaaaDoor
open Go.RowKit

theorem byt_packX (x : Int) (s : Nat) : Byt (packX x s) := by
  induction s with
  | zero => intro y hy; simp [packX] at hy
  | succ s ih =>
    intro y hy
    rw [packX] at hy
    rcases List.mem_append.1 hy with h | h
    · exact ih y h
    · simp only [List.mem_singleton] at h
      subst h
      unfold byteX
      omega
theorem byt_packN (s : Nat) (l : List Int) : Byt (packN s l) := by
  induction l with
  | nil => intro y hy; simp [packN] at hy
  | cons x l ih =>
    intro y hy
    rw [packN] at hy
    rcases List.mem_append.1 hy with h | h
    · exact byt_packX x s y h
    · exact ih y h
theorem byt_fit {l : List Int} (h : ∀ x ∈ l, (Lit.int .u8 x).wf = true) : Byt l := fun x hx => by
  have m3 : IntKind.u8.min = 0 := by decide
  have m4 : IntKind.u8.max = 255 := by decide
  have := h x hx
  simp [Lit.wf, m3, m4] at this
  omega
theorem all_end (l : List Int) (n : Int) : allTo (fun x => fitsB x n) l l.length = allFit l n := by unfold allTo allFit; rw [List.take_length]

theorem unpack_out (P : List Int) {n : Int} (hd : depth n = true) : ∃ U g, unpackR P n = (U, g) ∧ (g = 0 ∨ (g = 3 ∧ U = []) ∨ (g = 6 ∧ U = [])) := by
  refine ⟨(unpackR P n).1, (unpackR P n).2, rfl, ?_⟩
  unfold unpackR
  rw [if_pos hd]
  split
  · split
    · exact Or.inl rfl
    · exact Or.inr (Or.inr ⟨rfl, rfl⟩)
  · exact Or.inr (Or.inl ⟨rfl, rfl⟩)
theorem pack_case {l : List Int} {n : Int} {s q : Nat} (hd : depth n = true) (hs : s = sizeN n) (hq : q = l.length * s) :
    ∃ X e M f, packR l n = (X, e) ∧ unpackR X n = (M, f) ∧ Byt X ∧ X.length ≤ q ∧ ((allFit l n = true ∧ e = 0 ∧ f = 0 ∧ M = l ∧ X.length = q) ∨ (allFit l n = false ∧ e = 6)) := by
  cases h : allFit l n with
  | true =>
    have hl : (packN s l).length = q := by rw [packN_len, hq]
    exact ⟨packN s l, 0, l, 0, by rw [packR, if_pos hd, if_pos h, hs], by rw [hs]; exact unpack_pack hd h, byt_packN s l, Nat.le_of_eq hl, Or.inl ⟨rfl, rfl, rfl, rfl, hl⟩⟩
  | false => exact ⟨[], 6, (unpackR [] n).1, (unpackR [] n).2, by rw [packR, if_pos hd, if_neg (by simp [h])], rfl, by simp [Byt], by simp, Or.inr ⟨rfl, rfl⟩⟩

set_option maxHeartbeats 4000000 in
set_option maxRecDepth 100000 in
theorem back_any (l P : List Int) (_ml : l.length ≤ 9223372036854775807) (A : Option Addr) (ca : Nat) (_mp : P.length ≤ 9223372036854775807) (B : Option Addr) (cb : Nat) (n : Int) (w : World) (hT : Tab w) (ha : Ints .i64 w w.heap.size A l) (hb : Ints .u8 w w.heap.size B P) (hP : ∀ x ∈ P, (Lit.int .u8 x).wf = true) :
    Calls Tryd.prog 4 #[.slice A l.length ca, .slice B P.length cb, .int .i64 n] w fun e w' => e = .returned (.bool true) ∧ Below w.heap.size w w' := by
  have HT := Lib.hid hT
  have HP := Lib.hid (byt_fit hP)
  clear hT hP
  by_cases hout : 300 < l.length ∨ 900 < P.length ∨ n < 4 ∨ 24 < n
  · have hd1 : (300 < (l.length : Int)) ∨ ((l.length : Int) ≤ 300 ∧ 900 < (P.length : Int)) ∨ ((l.length : Int) ≤ 300 ∧ (P.length : Int) ≤ 900 ∧ n < 4) ∨ ((l.length : Int) ≤ 300 ∧ (P.length : Int) ≤ 900 ∧ 4 ≤ n ∧ 24 < n) := by omega
    clear hout
    rcases hd1 with h | ⟨h, h2⟩ | ⟨h, h2, h3⟩ | ⟨h, h2, h3, h4⟩
    all_goals
      go_enter Tryd.func4, Tryd.ntmps4
      go_wp2_with fail
      (with_reducible refine (known_any _ HT.out).mono ?_); rintro e w1 ⟨rfl, b1⟩
      go_wp2_with fail
      go_ret
      exact ⟨rfl, b1⟩
  have hl : (l.length : Int) ≤ 300 := by omega
  have hp : (P.length : Int) ≤ 900 := by omega
  have n4 : 4 ≤ n := by omega
  have n24 : n ≤ 24 := by omega
  have hd := Lib.hid (depth_true.2 ⟨n4, n24⟩)
  obtain ⟨s, hs⟩ : ∃ s, s = sizeN n := ⟨_, rfl⟩
  have hsI : (n + 7) / 8 = (s : Int) := by rw [hs]; unfold sizeN; omega
  have hs3 : s ≤ 3 := by omega
  obtain ⟨q, hq⟩ : ∃ q, q = l.length * s := ⟨_, rfl⟩
  have hqI : (l.length : Int) * (s : Int) = (q : Int) := by rw [hq]; simp
  have hq9 : q ≤ 900 := by
    rw [hq]
    have : l.length * s ≤ 300 * 3 := Nat.mul_le_mul (by omega) hs3
    omega
  have HS := Lib.hid hs
  have HQ := Lib.hid hq
  clear hs hq hout
  go_enter Tryd.func4, Tryd.ntmps4
  go_wp2_with fail
  (with_reducible refine (known_any _ HT.out).mono ?_); rintro e w1 ⟨rfl, b1⟩
  have B1 := Lib.hid b1
  have za := Lib.hid (ha.below b1)
  have zb := Lib.hid (hb.below b1)
  clear b1
  go_wp2_with fail
  go_loopw [7, 8] (fun fv iv wr => (∃ k : Nat, k ≤ l.length ∧ iv = .int .i64 k ∧ fv = .bool (allTo (fun x => fitsB x n) l k)) ∧ wr = w1) (fun _ iv _ => l.length - (intOf iv).toNat)
  case atStart => exact ⟨⟨0, Nat.zero_le _, rfl, rfl⟩, rfl⟩
  case round =>
    obtain ⟨⟨k, hk, rfl, rfl⟩, rfl⟩ := hrel
    by_cases hlt : k < l.length
    · obtain ⟨b1, o1, rfl, hc1⟩ := za.out.at_ hlt
      have h1 := Lib.hid (allTo_step (f := fun x => fitsB x n) hlt)
      obtain ⟨x, hx⟩ : ∃ x, x = ix l k := ⟨_, rfl⟩
      rw [← hx] at h1 hc1
      obtain ⟨p, hp⟩ : ∃ p, p = allTo (fun x => fitsB x n) l k := ⟨_, rfl⟩
      rw [← hp] at h1 ⊢
      have H1 : Hid (allTo (fun x => fitsB x n) l (k + 1) = (p && fitsB x n)) := h1.out
      clear hx hp h1
      cases p with
      | true =>
        go_wp2_with ((with_reducible refine (fitsL_any _ _ _).mono ?_); rintro e w' ⟨rfl, rfl⟩)
        constructor
        · exact ⟨⟨k + 1, by omega, by go_num, by rw [H1.out]; rfl⟩, trivial⟩
        · simp [intOf]; omega
      | false =>
        go_wp2_with fail
        constructor
        · exact ⟨⟨k + 1, by omega, by go_num, by rw [H1.out]; rfl⟩, trivial⟩
        · simp [intOf]; omega
    · have e : k = l.length := by omega
      subst e
      rw [all_end]
      obtain ⟨X, e, M, f, pr, pu, hbX, hXq, hcase⟩ := pack_case hd.out HS.out HQ.out
      have Hc := Lib.hid hcase
      have HbX := Lib.hid hbX
      have es := Lib.hid (eqI_true (xs := l) (ys := l) rfl)
      obtain ⟨F, hF⟩ : ∃ F, F = allFit l n := ⟨_, rfl⟩
      rw [← hF] at Hc ⊢
      clear hF hcase hbX
      have t1 := packL_any l l.length rfl (by omega) n A ca _ (za.out.more B1.out.size)
      rw [pr] at t1
      clear pr
      go_wp2_with fail
      (with_reducible refine t1.mono ?_); rintro e0 w2 ⟨RX, rX, rfl, oX, b2⟩
      have B2 := Lib.hid (bth B1.out b2)
      have za := Lib.hid (za.out.below (b2.mono B1.out.size))
      have zb := Lib.hid (zb.out.below (b2.mono B1.out.size))
      have zX := Lib.hid oX.ints
      clear t1 oX b2
      have t1 := unpackL_any X HbX.out X.length rfl (by omega) n RX rX w2 zX.out
      rw [pu] at t1
      clear pu
      go_wp2_with fail
      (with_reducible refine t1.mono ?_); rintro e0 w3 ⟨RM, rM, rfl, oM, b3⟩
      have B3 := Lib.hid (bth B2.out b3)
      have za := Lib.hid (za.out.below (b3.mono B2.out.size))
      have zb := Lib.hid (zb.out.below (b3.mono B2.out.size))
      have zM := Lib.hid oM.ints
      clear t1 oM b3
      have fin : Hid (∀ w4 : World, Below w.heap.size w w4 → True) := fun _ _ => trivial
      rcases Hc.out with ⟨rfl, rfl, rfl, rfl, hXl⟩ | ⟨rfl, rfl⟩
      · rw [hXl]
        have t1 := same_q M M M.length M.length rfl rfl (by omega) (by omega) A RM _ _ ca rM w3 za.out zM.out
        rw [es.out] at t1
        clear hXl hXq
        go_wp2_with fail
        (with_reducible refine t1.mono ?_); rintro e0 w4 ⟨rfl, b4⟩
        have B4 := Lib.hid (bth B3.out b4)
        have zb := Lib.hid (zb.out.below (b4.mono B3.out.size))
        clear t1 b4
        go_wp2_with fail
        obtain ⟨U, g, pu, hg⟩ := unpack_out P hd.out
        have HPk : Hid (g = 0 → packR U n = (P, 0) ∧ U.length ≤ P.length) := fun h => pack_unpack hd.out HP.out (by rw [pu, h])
        have t1 := unpackL_any P HP.out P.length rfl (by omega) n B cb w4 (zb.out.more B4.out.size)
        rw [pu] at t1
        clear pu
        (with_reducible refine t1.mono ?_); rintro e0 w5 ⟨RU, rU, rfl, oU, b5⟩
        have B5 := Lib.hid (bth B4.out b5)
        have zb := Lib.hid (zb.out.below (b5.mono B4.out.size))
        have zU := Lib.hid oU.ints
        clear t1 oU b5
        rcases hg with rfl | ⟨rfl, rfl⟩ | ⟨rfl, rfl⟩
        · obtain ⟨pk, hUl⟩ := HPk.out rfl
          have t1 := packL_any U U.length rfl (by omega) n RU rU w5 zU.out
          rw [pk] at t1
          clear pk
          go_wp2_with fail
          (with_reducible refine t1.mono ?_); rintro e0 w6 ⟨RC, rC, rfl, oC, b6⟩
          have B6 := Lib.hid (bth B5.out b6)
          have zb := Lib.hid (zb.out.below (b6.mono B5.out.size))
          have zC := Lib.hid oC.ints
          clear t1 oC b6
          go_wp2_with fail
          (with_reducible refine (same_b P P.length rfl RC B _ _ rC cb w6 zC.out zb.out).mono ?_); rintro e0 w7 ⟨rfl, rfl⟩
          go_wp2_with fail
          go_ret
          exact ⟨rfl, B6.out⟩
        · go_wp2_with fail
          go_ret
          exact ⟨rfl, B5.out⟩
        · go_wp2_with fail
          go_ret
          exact ⟨rfl, B5.out⟩
      · obtain ⟨w4, rfl⟩ : ∃ w4, w4 = w3 := ⟨_, rfl⟩
        have B4 := Lib.hid B3.out
        go_wp2_with fail
        obtain ⟨U, g, pu, hg⟩ := unpack_out P hd.out
        have HPk : Hid (g = 0 → packR U n = (P, 0) ∧ U.length ≤ P.length) := fun h => pack_unpack hd.out HP.out (by rw [pu, h])
        have t1 := unpackL_any P HP.out P.length rfl (by omega) n B cb w4 (zb.out.more B4.out.size)
        rw [pu] at t1
        clear pu
        (with_reducible refine t1.mono ?_); rintro e0 w5 ⟨RU, rU, rfl, oU, b5⟩
        have B5 := Lib.hid (bth B4.out b5)
        have zb := Lib.hid (zb.out.below (b5.mono B4.out.size))
        have zU := Lib.hid oU.ints
        clear t1 oU b5
        rcases hg with rfl | ⟨rfl, rfl⟩ | ⟨rfl, rfl⟩
        · obtain ⟨pk, hUl⟩ := HPk.out rfl
          have t1 := packL_any U U.length rfl (by omega) n RU rU w5 zU.out
          rw [pk] at t1
          clear pk
          go_wp2_with fail
          (with_reducible refine t1.mono ?_); rintro e0 w6 ⟨RC, rC, rfl, oC, b6⟩
          have B6 := Lib.hid (bth B5.out b6)
          have zb := Lib.hid (zb.out.below (b6.mono B5.out.size))
          have zC := Lib.hid oC.ints
          clear t1 oC b6
          go_wp2_with fail
          (with_reducible refine (same_b P P.length rfl RC B _ _ rC cb w6 zC.out zb.out).mono ?_); rintro e0 w7 ⟨rfl, rfl⟩
          go_wp2_with fail
          go_ret
          exact ⟨rfl, B6.out⟩
        · go_wp2_with fail
          go_ret
          exact ⟨rfl, B5.out⟩
        · go_wp2_with fail
          go_ret
          exact ⟨rfl, B5.out⟩
end Go.Proofs.YthpaohgdadnkaaaDoor
