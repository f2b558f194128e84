/-
  slices.Grow of a nil row; slices.Concat of rows.
-/
import Derived.Test.YtfihbcpainlpcaaProg
import Derived.Test.YtfihbcpainlpcaaQV
import Derived.Lib.AppendZerosOnto
import Derived.Lib.Walk
import Derived.Lib.SliceRun
namespace Go.Proofs.Ytfihbcpainlpcaa
open Go.RowKit
set_option linter.unusedVariables false
set_option linter.unusedSimpArgs false

/-- room for n numbers. -/
def GrownQ (w : World) (e : Ending) (w' : World) : Prop := ∃ A c, e = .returned (.slice A 0 c) ∧ OwnZ w' w.heap.size A 0 c [] ∧ Below w.heap.size w w'
theorem grow_any (n : Nat) (hn : n ≤ 100000) (w : World) : Calls Try.prog 61 #[.slice none 0 0, .int .i64 (n : Int)] w (GrownQ w) := by
  by_cases h0 : n = 0
  · subst h0
    go_enter Try.func61, Try.ntmps61
    go_wp2_with fail
    go_ret
    exact ⟨none, 0, rfl, OwnZ.nil _ _, brefl w⟩
  · have h1 : ¬ ((n : Int) < 0) := by omega
    have h2 : (0 : Int) < (n : Int) := by omega
    have h3 : wrap64 (n : Int) = (n : Int) := by unfold wrap64; omega
    obtain ⟨i0, hi0, hz0, hz1, hz2⟩ := info_parts intInfo
    have hold : (Builtin.firstCells i0.size 0 (.slice none 0 0)).run Try.prog w.drew = .ok ([] : List Value).toArray w.drew := run_firstCells_none w.drew i0.size 0 0 0
    have hrz : ∀ ty, (Builtin.append_ #[22, 3] ty #[.slice none 0 0, .int .i64 (n : Int)]).run Try.prog w =
        .ok (.slice (some ⟨w.heap.size, 0, none⟩) n (grownCap w n 0 3)) (w.drew.alloc (.cells (([] : List Value).toArray ++ Builtin.zeroCells (Value.int .i64 0).cells n ++ Builtin.zeroCells (Value.int .i64 0).cells (grownCap w n 0 3 - n)) 3)) := fun ty => by
      have h := Lib.run_append_grow_zeros w 22 3 ty 3 i0 _ .i64 .i64 Try.underlying22 Try.underlying3 hi0 hz0 none 0 0 [] hold n (by omega) (by omega) (by omega) (by omega) (by rw [hz2]; omega)
        (by rw [hz2, Nat.zero_add]; exact growslice_fits (by omega) (by omega))
      rw [Nat.zero_add] at h
      exact h
    have hG := grownCap_ge w n 0 3
    have hGm := grownCap_le_maxLen w n 0 3 (by unfold maxLen; omega)
    obtain ⟨G, hGe⟩ : ∃ G, G = grownCap w n 0 3 := ⟨_, rfl⟩
    rw [← hGe] at hrz hG hGm
    have hG63 : G ≤ 9223372036854775807 := by unfold maxLen at hGm; omega
    have hs : Hid ((([] : List Value).toArray ++ Builtin.zeroCells (Value.int .i64 0).cells n ++ Builtin.zeroCells (Value.int .i64 0).cells (G - n)).size = G * 1) := by
      show _ = _
      have e : ∀ m, (Builtin.zeroCells (Value.int .i64 0).cells m).size = m := fun m => by simp [Builtin.zeroCells, Value.cells]
      simp only [Array.size_append, e]; simp; omega
    obtain ⟨cs, hcs⟩ : ∃ cs, cs = (([] : List Value).toArray ++ Builtin.zeroCells (Value.int .i64 0).cells n ++ Builtin.zeroCells (Value.int .i64 0).cells (G - n)) := ⟨_, rfl⟩
    rw [← hcs] at hrz hs
    have HGm := Lib.hid hGm
    clear hold hGe hcs hGm
    go_enter Try.func61, Try.ntmps61
    go_wp2_with (at_builtin; refine Lib.wpList_append_run _ rfl _ _ _ _ rfl _ _ rfl rfl _ _ (hrz _) ?_)
    all_goals go_ret
    all_goals exact ⟨_, G, rfl, World.ownsRow_made w.drew _ _ (Nat.le_refl _) HGm.out hs.out, (bal (brefl w) _).drew⟩

/-- rows, one behind the other. -/
def catN (R : Nat → List Int) : Nat → List Int
  | 0 => []
  | k + 1 => catN R k ++ R k
theorem catN_le {R : Nat → List Int} {r m : Nat} (h : ∀ i, i < r → (R i).length ≤ m) : ∀ k, k ≤ r → (catN R k).length ≤ k * m
  | 0, _ => by simp [catN]
  | k + 1, hk => by
    have := catN_le h k (by omega)
    have := h k (by omega)
    rw [catN, List.length_append, Nat.add_mul]; omega

set_option maxHeartbeats 2000000 in
theorem concat_any (R : Nat → List Int) (r : Nat) (hr1 : r ≤ 10) (hR : ∀ i, i < r → (R i).length ≤ 10000) (RA : Nat → Option Addr) (RC : Nat → Nat) (A : Option Addr) (c : Nat) (w : World) (h : Rw w w.heap.size A r RA RC R) :
    Calls Try.prog 47 #[.slice A r c] w (SliceZ (catN R r) w) := by
  have HR := Lib.hid hR
  clear hR
  go_enter Try.func47, Try.ntmps47
  go_wp2_with fail
  go_loop [3, 5, 11] (fun sv _ iv => ∃ k : Nat, k ≤ r ∧ iv = .int .i64 k ∧ sv = .int .i64 ((catN R k).length : Int)) (fun _ _ iv => r - (intOf iv).toNat)
  case atStart => exact ⟨0, Nat.zero_le _, rfl, rfl⟩
  case round =>
    obtain ⟨k, hk, rfl, rfl⟩ := hrel
    have hkl := catN_le HR.out k hk
    have hkm : k * 10000 ≤ 100000 := by omega
    by_cases hlt : k < r
    · obtain ⟨b1, o1, rfl, hc⟩ := h.at_ hlt
      have hl := HR.out k hlt
      obtain ⟨m, hm⟩ : ∃ m, m = (catN R k).length := ⟨_, rfl⟩
      obtain ⟨m2, hm2⟩ : ∃ m2, m2 = (catN R (k + 1)).length := ⟨_, rfl⟩
      have hs : (m : Int) + ((R k).length : Int) = (m2 : Int) := by rw [hm2, catN, List.length_append, hm]; omega
      have hb2 : m2 ≤ 200000 := by omega
      have hn2 : ¬ ((m2 : Int) < 0) := by omega
      have Hm2 := Lib.hid hm2
      rw [← hm] at hkl ⊢
      clear hm hm2
      go_wp2_with fail
      go_round
      case rel => exact ⟨k + 1, by omega, by go_num, by rw [← Hm2.out]⟩
      case measure => simp [intOf]; omega
    · have e : k = r := by omega
      subst e
      obtain ⟨m, hm⟩ : ∃ m, m = (catN R k).length := ⟨_, rfl⟩
      have Hm := Lib.hid hm
      rw [← hm] at hkl ⊢
      clear hm
      go_wp2_with fail
      (with_reducible refine (grow_any m (by omega) _).mono ?_); rintro e w3 ⟨A3, c3, rfl, ho3, b3⟩
      have Ho3 := Lib.hid ho3
      have Hb3 := Lib.hid b3
      clear ho3 b3
      go_wp2_with fail
      go_loopw [6, 8, 27] (fun ov _ iv wr => (∃ (j : Nat) (A' : Option Addr) (c' : Nat), j ≤ k ∧ iv = .int .i64 j ∧ ov = .slice A' (catN R j).length c' ∧ OwnZ wr w.heap.size A' (catN R j).length c' (catN R j)) ∧ Below w.heap.size w wr) (fun _ _ iv _ => k - (intOf iv).toNat)
      case atStart => exact ⟨⟨0, A3, c3, Nat.zero_le _, rfl, rfl, Ho3.out⟩, Hb3.out⟩
      case round =>
        obtain ⟨⟨j, A2, c2, hj, rfl, rfl, ho⟩, hb⟩ := hrel
        obtain ⟨wo, rfl⟩ : ∃ wo : World, wo = wr := ⟨_, rfl⟩
        have Ho := Lib.hid ho
        have Hb := Lib.hid hb
        clear ho hb
        have hjl := catN_le HR.out j hj
        have hjm : j * 10000 ≤ 100000 := Nat.le_trans (Nat.mul_le_mul_right _ hj) hkm
        by_cases hlt2 : j < k
        · obtain ⟨b1, o1, rfl, hc⟩ := (h.below Hb.out).at_ hlt2
          have hl := HR.out j hlt2
          have hin := (h.below Hb.out).ints j hlt2
          obtain ⟨q, hq⟩ : ∃ q, q = (catN R j).length := ⟨_, rfl⟩
          obtain ⟨X, hX⟩ : ∃ X, X = catN R j := ⟨_, rfl⟩
          have Hq := Lib.hid hq
          have HX := Lib.hid hX
          rw [← hq] at hjl ⊢
          rw [← hq, ← hX] at Ho
          clear hq hX
          go_wp2_with (at_builtin; refine app_z _ rfl (.tmp 31) (.tmp 32) rfl w _ _ _ _ rfl Ho.out _ _ (R j).length _ (R j) rfl rfl hin (by omega) Hb.out ?_; intro A4 c4 w4 ho4 hb4)
          have Ho4 := Lib.hid ho4
          have Hb4 := Lib.hid hb4
          have hlen : Hid ((catN R (j + 1)).length = q + (R j).length) := by show _ = _; rw [catN, List.length_append, Hq.out]
          clear ho4 hb4
          go_roundw
          case rel =>
            refine ⟨⟨j + 1, A4, c4, by omega, by go_num, by rw [hlen.out], ?_⟩, Hb4.out⟩
            rw [hlen.out, catN, ← HX.out]; exact Ho4.out
          case measure => simp [intOf]; omega
        · have e2 : j = k := by omega
          subst e2
          go_wp2_with fail
          go_ret
          exact ⟨A2, c2, rfl, Ho.out, Hb.out⟩
end Go.Proofs.Ytfihbcpainlpcaa
