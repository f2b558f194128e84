/-
  Rows of stages; May on both sides; what 'known' says.
-/
import Derived.Test.YtjhmmbejpdibhaaProg
import Derived.Test.YtjhmmbejpdibhaaLE
import Derived.Test.YtjhmmbejpdibhaaR2
namespace Go.Proofs.Ytjhmmbejpdibhaa
open Go.RowKit

def sto (ss : List (Int × Int)) (k : Nat) : Int := (ss.getD k (0, 0)).1
def str (ss : List (Int × Int)) (k : Nat) : Int := (ss.getD k (0, 0)).2
/-- A slice of stages that reads as ss. -/
def Stgs (w : World) (B : Nat) (A : Option Addr) (ss : List (Int × Int)) : Prop :=
  0 < ss.length → ∃ b off, A = some ⟨b, off, none⟩ ∧ b < B ∧ ∀ i, i < ss.length → w.cell? ⟨b, off + i * 2, none⟩ = some (.int .i64 (sto ss i)) ∧ w.cell? ⟨b, off + i * 2 + 1, none⟩ = some (.int .i64 (str ss i))
theorem Stgs.below {w w' : World} {B : Nat} {A : Option Addr} {ss : List (Int × Int)} (h : Stgs w B A ss) (hb : Below B w w') : Stgs w' B A ss := fun h0 => by
  obtain ⟨b, off, e, hb0, hc⟩ := h h0
  exact ⟨b, off, e, hb0, fun i hi => ⟨(hb.cell hb0).trans (hc i hi).1, (hb.cell hb0).trans (hc i hi).2⟩⟩
theorem Stgs.at_ {w : World} {B : Nat} {A : Option Addr} {ss : List (Int × Int)} (h : Stgs w B A ss) {i : Nat} (hi : i < ss.length) :
    ∃ b off, A = some ⟨b, off, none⟩ ∧ w.cell? ⟨b, off + i * 2, none⟩ = some (.int .i64 (sto ss i)) ∧ w.cell? ⟨b, off + i * 2 + 1, none⟩ = some (.int .i64 (str ss i)) := by
  obtain ⟨b, off, e, _, hc⟩ := h (by omega)
  exact ⟨b, off, e, hc i hi⟩

def mayB (ss : List (Int × Int)) : Bool := decide (ss.length ≤ 3) && ss.all fun s => validB s.1 s.2
theorem mayB_true {ss : List (Int × Int)} : mayB ss = true ↔ ss.length ≤ 3 ∧ ∀ k, k < ss.length → validB (sto ss k) (str ss k) = true := by
  simp only [mayB, Bool.and_eq_true, decide_eq_true_eq, List.all_eq_true]
  refine and_congr Iff.rfl ⟨fun h k hk => ?_, fun h x hx => ?_⟩
  · have := h ss[k] (List.getElem_mem hk)
    simpa [sto, str, hk] using this
  · obtain ⟨k, hk, e⟩ := List.getElem_of_mem hx
    have := h k hk
    simpa [sto, str, hk, e] using this
theorem mayB_long {ss : List (Int × Int)} (h : 3 < ss.length) : mayB ss = false := by simp [mayB]; intro h'; omega
theorem mayB_bad {ss : List (Int × Int)} {k : Nat} (hk : k < ss.length) (h : validB (sto ss k) (str ss k) = false) : mayB ss = false := by
  cases e : mayB ss with
  | false => rfl
  | true => rw [(mayB_true.1 e).2 k hk] at h; cases h

theorem mayL_any (ss : List (Int × Int)) (n : Nat) (hn : n = ss.length) (hm : n ≤ 9223372036854775807) (A : Option Addr) (c : Nat) (w : World) (hs : Stgs w w.heap.size A ss) :
    Calls Try.prog 25 #[.slice A n c] w fun e w' => e = .returned (.bool (mayB ss)) ∧ Below w.heap.size w w' := by
  subst hn
  by_cases hlong : 3 < ss.length
  · have hv := Lib.hid (mayB_long hlong)
    have hl : (3 : Int) < (ss.length : Int) := by omega
    go_enter Try.func25, Try.ntmps25
    go_wp2_with fail
    go_ret
    exact ⟨ret_bool hv.out.symm, brefl w⟩
  · have hl : (ss.length : Int) ≤ 3 := by omega
    go_enter Try.func25, Try.ntmps25
    go_wp2_with fail
    go_loopw [4, 10] (fun _ i wr => (∃ k : Nat, k ≤ ss.length ∧ i = .int .i64 k ∧ ∀ j, j < k → validB (sto ss j) (str ss j) = true) ∧ Below w.heap.size w wr) (fun _ i _ => ss.length - (intOf i).toNat)
    case atStart => exact ⟨⟨0, Nat.zero_le _, rfl, fun j h => absurd h (by omega)⟩, brefl w⟩
    case round =>
      obtain ⟨⟨k, hk, rfl, hj⟩, hbl⟩ := hrel
      have Hj := Lib.hid hj
      clear hj
      by_cases hlt : k < ss.length
      · obtain ⟨b1, o1, rfl, hc1, hc2⟩ := (hs.below hbl).at_ hlt
        have n1 := World.new_ne wr _ hc1
        have n2 := World.new_ne wr _ hc2
        go_wp2_with (go_at_call 30; (with_reducible refine (validL_any _ _ _).mono ?_); rintro e w1 ⟨rfl, hb1⟩)
        · have hn : validB (sto ss k) (str ss k) = false := by simpa using ‹(!validB (sto ss k) (str ss k)) = true›
          go_ret
          exact ⟨ret_bool (mayB_bad hlt hn).symm, bth (bal hbl _) hb1⟩
        · have hn : validB (sto ss k) (str ss k) = true := by simpa using ‹(!validB (sto ss k) (str ss k)) = false›
          go_roundw
          case rel =>
            refine ⟨⟨k + 1, by omega, by go_num, fun j h => ?_⟩, bth (bal hbl _) hb1⟩
            by_cases e : j = k
            · subst e; exact hn
            · exact Hj.out j (by omega)
          case measure => simp [intOf]; omega
      · go_wp2_with fail
        go_ret
        exact ⟨ret_bool (mayB_true.2 ⟨by omega, fun j hj => Hj.out j (by omega)⟩).symm, hbl⟩

theorem mayB_short {ss : List (Int × Int)} (h : ∀ k, k < ss.length → validB (sto ss k) (str ss k) = true) : mayB ss = decide (ss.length ≤ 3) := by
  by_cases h3 : ss.length ≤ 3
  · rw [decide_eq_true h3]; exact mayB_true.2 ⟨h3, h⟩
  · rw [decide_eq_false h3]; exact mayB_long (by omega)

theorem mayR_any (ss : List (Int × Int)) (n : Nat) (hn : n = ss.length) (hm : n ≤ 9223372036854775807) (A : Option Addr) (c : Nat) (w : World) (hs : Stgs w w.heap.size A ss) :
    Calls Try.prog 26 #[.slice A n c] w fun e w' => e = .returned (.bool (mayB ss)) ∧ Below w.heap.size w w' := by
  subst hn
  go_enter Try.func26, Try.ntmps26
  go_wp2_with fail
  go_loopw [3] (fun i wr => (∃ k : Nat, k ≤ ss.length ∧ i = .int .i64 k ∧ ∀ j, j < k → validB (sto ss j) (str ss j) = true) ∧ Below w.heap.size w wr) (fun i _ => ss.length - (intOf i).toNat)
  case atStart => exact ⟨⟨0, Nat.zero_le _, rfl, fun j h => absurd h (by omega)⟩, brefl w⟩
  case round =>
    obtain ⟨⟨k, hk, rfl, hj⟩, hbl⟩ := hrel
    have Hj := Lib.hid hj
    clear hj
    by_cases hlt : k < ss.length
    · obtain ⟨b1, o1, rfl, hc1, hc2⟩ := (hs.below hbl).at_ hlt
      go_wp2_with (go_at_call 20; (with_reducible refine (stageMay_any _ _ _).mono ?_); rintro e w1 ⟨rfl, hb1⟩)
      · have hn : validB (sto ss k) (str ss k) = false := by simpa using ‹(!validB (sto ss k) (str ss k)) = true›
        go_ret
        exact ⟨ret_bool (mayB_bad hlt hn).symm, bth hbl hb1⟩
      · have hn : validB (sto ss k) (str ss k) = true := by simpa using ‹(!validB (sto ss k) (str ss k)) = false›
        go_roundw
        case rel =>
          refine ⟨⟨k + 1, by omega, by go_num, fun j h => ?_⟩, bth hbl hb1⟩
          by_cases e : j = k
          · subst e; exact hn
          · exact Hj.out j (by omega)
        case measure => simp [intOf]; omega
    · have hv := Lib.hid (mayB_short (ss := ss) fun j hj => Hj.out j (by omega))
      go_wp2_with fail
      go_ret
      exact ⟨ret_bool (by rw [hv.out]; simp; omega), hbl⟩

theorem FiltL.lt {w : World} {b bw cw bs cs : Nat} {rate : Int} {ws hs : List Int} (h : FiltL w b bw cw bs cs rate ws hs) : ∀ k, (k = b ∨ k = bw ∨ k = bs) → k < w.heap.size := by
  rintro k (rfl | rfl | rfl)
  · exact block_lt_of_cell (cell_of_row w k 0 _ _ _ h.hb)
  · exact (h.hw.lt _ (by simp [Value.ownBlock])).2
  · exact (h.hh.lt _ (by simp [Value.ownBlock])).2
theorem FiltL.below {w w' : World} {b bw cw bs cs : Nat} {rate : Int} {ws hs : List Int} (h : FiltL w b bw cw bs cs rate ws hs) (hb : Below w.heap.size w w') : FiltL w' b bw cw bs cs rate ws hs :=
  h.keep (hb.block _ (h.lt _ (.inl rfl))) (hb.block _ (h.lt _ (.inr (.inl rfl)))) (hb.block _ (h.lt _ (.inr (.inr rfl))))
theorem own_kp {w w' : World} {S : Nat → Prop} {B : Nat} {e : TypeId} {size n : Nat} {v : Value} {vs : List Value} (h : w.ownsRow B e size v n vs) (hk : Kp S w w') (hS : ∀ k, S k → k < B) : w'.ownsRow B e size v n vs :=
  own_of_block h fun g hg => hk.block g (h.lt g hg).2 fun hs => by have := hS g hs; have := (h.lt g hg).1; omega

theorem stg_nil (w : World) (B : Nat) (A : Option Addr) : Stgs w B A [] := fun h => absurd h (by simp)
theorem stg_zero (w : World) : Stgs (w.alloc (.cells #[.int .i64 0, .int .i64 0] 23)) (w.alloc (.cells #[.int .i64 0, .int .i64 0] 23)).heap.size (some ⟨w.heap.size, 0, none⟩) [(0, 0)] := fun _ => by
  refine ⟨w.heap.size, 0, rfl, by simp, fun i hi => ?_⟩
  have : i = 0 := by simpa using hi
  subst this
  exact ⟨by rw [cell_of_row _ w.heap.size _ _ _ (0, 0) (heap_alloc_new w _)]; rfl, by rw [cell_of_row _ w.heap.size _ _ _ (0, 0) (heap_alloc_new w _)]; rfl⟩
theorem may_nil : mayB [] = true := by decide
theorem may_0 : mayB [(0, 0)] = false := by decide

set_option maxHeartbeats 1000000 in
theorem known_any (w : World) : Calls Try.prog 11 #[] w fun e w' => e = .returned (.bool true) ∧ Below w.heap.size w w' := by
  have hn1 : ∀ w, Calls Try.prog 12 #[.agg #[.int .i64 1, .int .i64 3]] w (NewlQ 1 3 w) := fun w => newL_yes 1 3 (by omega) (by omega) (by omega) (by omega) w
  have q0 : eqI [0] [0] = true := eqI_refl _
  have q8 : eqI [8] [8] = true := eqI_refl _
  have qg : guessP [0] [-9] = 0 := by decide +kernel
  have qm := may_nil
  have qn := may_0
  go_enter Try.func11, Try.ntmps11
  go_wp2_with fail
  (with_reducible refine (hn1 _).mono ?_); rintro e w1 ⟨b, bw, bs, rfl, hf, g1, g2, g3, hb1⟩
  have hS : ∀ k, (k = b ∨ k = bw ∨ k = bs) → w.heap.size ≤ k := by rintro k (rfl | rfl | rfl) <;> assumption
  have HS := Lib.hid hS
  clear hS
  go_wp2_with fail
  (with_reducible refine (tellL_q hf _).mono ?_); rintro e w2 ⟨rfl, hf2, hk2⟩
  rw [show tellWL 3 (List.replicate 1 0) (List.replicate 1 0) 5 = [0] from by decide +kernel, show tellH (List.replicate 1 0) 5 = [5] from by decide +kernel] at hf2
  have hb2 := hb1.trans (hk2.below HS.out hb1.size)
  go_wp2_with fail
  (with_reducible refine (weights_any hf2).mono ?_); rintro e w3 ⟨A3, k3, rfl, ho3, hb3'⟩
  have hf3 := hf2.below hb3'
  have hb3 := bth hb2 hb3'
  go_wp2_with fail
  (with_reducible refine (tellL_q hf3 _).mono ?_); rintro e w4 ⟨rfl, hf4, hk4⟩
  rw [show tellWL 3 [0] [5] 9 = [8] from by decide +kernel, show tellH [5] 9 = [9] from by decide +kernel] at hf4
  have hb4 := hb3.trans (hk4.below HS.out hb3.size)
  go_wp2_with fail
  (with_reducible refine (weights_any hf4).mono ?_); rintro e w5 ⟨A5, k5, rfl, ho5, hb5'⟩
  have hf5 := hf4.below hb5'
  have hb5 := bth hb4 hb5'
  go_wp2_with fail
  (with_reducible refine (tellL_q hf5 _).mono ?_); rintro e w6 ⟨rfl, hf6, hk6⟩
  rw [show tellWL 3 [8] [9] (-9) = [0] from by decide +kernel, show tellH [9] (-9) = [-9] from by decide +kernel] at hf6
  have hb6 := hb5.trans (hk6.below HS.out hb5.size)
  go_wp2_with fail
  (with_reducible refine (weights_any hf6).mono ?_); rintro e w7 ⟨A7, k7, rfl, ho7, hb7'⟩
  have hf7 := hf6.below hb7'
  have hb7 := bth hb6 hb7'
  have T1 := hf.lt
  have sz1 := hb1.size
  have sz2 := hk2.size
  have sz3 := hb3'.size
  have sz4 := hk4.size
  have sz5 := hb5'.size
  have sz6 := hk6.size
  have x7 := own_ints ho7
  have x5 := own_ints (own_below (own_kp ho5 hk6 fun k hk => by have := T1 k hk; omega) hb7' (Nat.le_refl _))
  have x3 := own_ints (own_below (own_kp (own_below (own_kp ho3 hk4 fun k hk => by have := T1 k hk; omega) hb5' (Nat.le_refl _)) hk6 fun k hk => by have := T1 k hk; omega) hb7' (Nat.le_refl _))
  have X7 := Lib.hid x7
  have X5 := Lib.hid x5
  have X3 := Lib.hid x3
  clear x7 x5 x3 T1 sz1 sz2 sz3 sz4 sz5 sz6
  go_wp2_with fail
  have B1 := bal (brefl w7) (.cells #[.int .i64 0] 3)
  (with_reducible refine (same_q [0] [0] 1 1 rfl rfl (by omega) (by omega) _ _ _ _ _ _ _ (X3.out.below B1) (ints_lit _ _ _ _ _ rfl)).mono ?_); rintro e W1 ⟨rfl, b1⟩
  rw [q0]
  have C1 := bth B1 b1
  go_wp2_with fail
  have B2 := bal C1 (.cells #[.int .i64 8] 3)
  (with_reducible refine (same_q [8] [8] 1 1 rfl rfl (by omega) (by omega) _ _ _ _ _ _ _ (X5.out.below B2) (ints_lit _ _ _ _ _ rfl)).mono ?_); rintro e W2 ⟨rfl, b2⟩
  rw [q8]
  have C2 := bth B2 b2
  go_wp2_with fail
  have B3 := bal C2 (.cells #[.int .i64 0] 3)
  (with_reducible refine (same_q [0] [0] 1 1 rfl rfl (by omega) (by omega) _ _ _ _ _ _ _ (X7.out.below B3) (ints_lit _ _ _ _ _ rfl)).mono ?_); rintro e W3 ⟨rfl, b3⟩
  rw [q0]
  have C3 := bth B3 b3
  go_wp2_with fail
  (with_reducible refine (guessL_any (hf7.below C3)).mono ?_); rintro e W4 ⟨rfl, rfl⟩
  rw [qg]
  go_wp2_with fail
  (with_reducible refine (mayL_any [] 0 rfl (by omega) _ _ _ (stg_nil _ _ _)).mono ?_); rintro e W5 ⟨rfl, b5⟩
  rw [qm]
  have C5 := bth C3 b5
  go_wp2_with fail
  (with_reducible refine (mayL_any [(0, 0)] 1 rfl (by omega) _ _ _ (stg_zero _)).mono ?_); rintro e W6 ⟨rfl, b6⟩
  rw [qn]
  go_wp2_with fail
  go_ret
  exact ⟨rfl, bth hb7 (bth (bal C5 _) b6)⟩
end Go.Proofs.Ytjhmmbejpdibhaa
