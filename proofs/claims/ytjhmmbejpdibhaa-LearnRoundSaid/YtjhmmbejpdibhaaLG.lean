/-
  LearnPlays: the two filters hold the same numbers whatever they are told; the walk of the law.
-/
import Derived.Test.YtjhmmbejpdibhaaProg
import Derived.Test.YtjhmmbejpdibhaaLF
import Derived.Test.YtjhmmbejpdibhaaO
namespace Go.Proofs.Ytjhmmbejpdibhaa
open Go.RowKit

theorem upd_key (p x g w s : Int) : (if 0 < s then w + (if g < x then p else if x < g then -p else 0) else if s < 0 then w - (if g < x then p else if x < g then -p else 0) else w) = w + sgnI (x - g) * sgnI s * p := by
  unfold sgnI
  (repeat' split) <;> first | omega | (simp; done) | (simp; omega)
theorem upd_same {r x g w s : Int} : updL (stepL r x g) w s = updR (sgnI (x - g)) r w s := by
  unfold updL updR stepL
  rw [upd_key]

theorem tellW_same (r : Int) (ws hs : List Int) (x : Int) : updRTo (sgnI (nearI x - guessP ws hs)) r ws hs ws.length = tellWL r ws hs x := by
  unfold tellWL
  refine ix_ext _ _ (by rw [updRTo_len, updTo_len]) fun k hk => ?_
  rw [updRTo_len] at hk
  rw [updTo_ix _ _ _ _ _ hk, if_pos hk, upd_same]
  unfold updRTo
  rw [ix_map_range _ _ _ hk]

theorem FiltR.blocks {w : World} {B b : Nat} {rate : Int} {ws hs : List Int} (h : FiltR w B b rate ws hs) {w' : World} (hk : ∀ g, B ≤ g → g < w.heap.size → w'.heap[g]? = w.heap[g]?) : FiltR w' B b rate ws hs := by
  obtain ⟨gw, cw, gs, cs, hb, hw, hh, l1, l2⟩ := h.ex
  refine { h with ex := ⟨gw, cw, gs, cs, ?_, ?_, ?_, l1, l2⟩ }
  · rw [hk b h.hb (block_lt_of_cell (cell_of_row w b 0 _ _ _ hb))]; exact hb
  · exact hw.block (hk _ l1 (hw.lt _ (by simp [Value.ownBlock])).2)
  · exact hh.block (hk _ l2 (hh.lt _ (by simp [Value.ownBlock])).2)
theorem FiltR.below {w w' : World} {B b : Nat} {rate : Int} {ws hs : List Int} (h : FiltR w B b rate ws hs) (hb : Below w.heap.size w w') : FiltR w' B b rate ws hs := h.blocks fun g _ hg => hb.block g hg
theorem FiltR.kp {w w' : World} {S : Nat → Prop} {B b : Nat} {rate : Int} {ws hs : List Int} (h : FiltR w B b rate ws hs) (hk : Kp S w w') (hS : ∀ k, S k → k < B) : FiltR w' B b rate ws hs :=
  h.blocks fun g hB hg => hk.block g hg fun hs => by have := hS g hs; omega
theorem FiltL.kp {w w' : World} {S : Nat → Prop} {b bw cw bs cs : Nat} {rate : Int} {ws hs : List Int} (h : FiltL w b bw cw bs cs rate ws hs) (hk : Kp S w w') (hS : ∀ k, (k = b ∨ k = bw ∨ k = bs) → ¬ S k) : FiltL w' b bw cw bs cs rate ws hs :=
  h.keep (hk.block _ (h.lt _ (.inl rfl)) (hS _ (.inl rfl))) (hk.block _ (h.lt _ (.inr (.inl rfl))) (hS _ (.inr (.inl rfl)))) (hk.block _ (h.lt _ (.inr (.inr rfl))) (hS _ (.inr (.inr rfl))))
theorem FiltL.drewN {w : World} {b bw cw bs cs : Nat} {rate : Int} {ws hs : List Int} (h : FiltL w b bw cw bs cs rate ws hs) (n : Nat) : FiltL (w.drewN n) b bw cw bs cs rate ws hs := h.keep rfl rfl rfl
theorem FiltL.drew {w : World} {b bw cw bs cs : Nat} {rate : Int} {ws hs : List Int} (h : FiltL w b bw cw bs cs rate ws hs) : FiltL w.drew b bw cw bs cs rate ws hs := h.keep rfl rfl rfl
theorem FiltR.drewN {w : World} {B b : Nat} {rate : Int} {ws hs : List Int} (h : FiltR w B b rate ws hs) (n : Nat) : FiltR (w.drewN n) B b rate ws hs := h.blocks fun _ _ _ => rfl
theorem FiltR.drew {w : World} {B b : Nat} {rate : Int} {ws hs : List Int} (h : FiltR w B b rate ws hs) : FiltR w.drew B b rate ws hs := h.blocks fun _ _ _ => rfl

def ToldRQ (B b : Nat) (rate : Int) (ws hs : List Int) (w : World) (e : Ending) (w' : World) : Prop :=
  e = .returned (.tuple #[]) ∧ FiltR w' B b rate ws hs ∧ Kp (fun k => k = b) w w'
theorem tellR_q {w : World} {B b : Nat} {rate : Int} {ws hs : List Int} (h : FiltR w B b rate ws hs) (x : Int) :
    Calls Try.prog 15 #[.pointer (some ⟨b, 0, none⟩), .int .i64 x] w (ToldRQ B b rate (tellWL rate ws hs x) (tellH hs x) w) :=
  (tellR_any h x).mono fun e w' ⟨h1, h2, h3⟩ => ⟨h1, by rw [← tellW_same]; unfold tellH; rw [h.len]; exact h2, h3⟩

theorem undrewN {w w' : World} {n : Nat} (h : Below (w.drewN n).heap.size (w.drewN n) w') : Below w.heap.size w w' := ⟨h.os, h.tape, h.output, h.size, h.block⟩
def zeroF (n : Nat) : List Int × List Int := (List.replicate n 0, List.replicate n 0)

set_option maxHeartbeats 1000000 in
theorem plays_valid (n : Nat) (r : Int) (h1 : 1 ≤ n) (h2 : n ≤ 32) (h3 : 0 ≤ r) (h4 : r ≤ 8) (l : List Int) (hl : l.length ≤ 150) (A : Option Addr) (c : Nat) (w : World) (ha : Ints .i64 w w.heap.size A l) :
    Calls Try.prog 3 #[.agg #[.int .i64 (n : Int), .int .i64 r], .slice A l.length c] w fun e w' => e = .returned (.bool true) ∧ Below w.heap.size w w' := by
  go_enter Try.func3, Try.ntmps3
  go_wp2_with fail
  (with_reducible refine (known_any _).mono ?_); rintro e w1 ⟨rfl, b1⟩
  have B1 := bth (bal (brefl w) _) b1
  have c0 : w1.cell? ⟨w.heap.size, 0, none⟩ = some (.int .i64 (n : Int)) := later b1 (by simp [World.cell?_alloc_new])
  have c1 : w1.cell? ⟨w.heap.size, 1, none⟩ = some (.int .i64 r) := later b1 (by simp [World.cell?_alloc_new])
  clear b1
  go_wp2_with fail
  (with_reducible refine (newL_yes n r h1 h2 h3 h4 _).mono ?_); rintro e w2 ⟨b, bw, bs, rfl, hf, g1, g2, g3, b2⟩
  have B2 := bth B1 b2
  have d0 := later b2 c0
  have d1 := later b2 c1
  have sz1 := B1.size
  clear c0 c1
  go_wp2_with fail
  (with_reducible refine (newR_yes n r h1 h2 h3 h4 _).mono ?_); rintro e w3 ⟨b', q1, q2, rfl, hg, _, _, _, b3⟩
  have B3 := bth B2 b3
  have hf3 := hf.below b3
  have hlt := hf.lt
  have sz2 := B2.size
  obtain ⟨B, hB⟩ : ∃ B, B = w2.heap.size := ⟨_, rfl⟩
  rw [← hB] at hg hlt
  have hS : Hid (∀ k, (k = b ∨ k = bw ∨ k = bs) → w.heap.size ≤ k ∧ k < B) := fun k hk => ⟨by rcases hk with rfl | rfl | rfl <;> omega, hlt k hk⟩
  have hb' : Hid (B ≤ b') := hg.hb
  have hBsz : Hid (w.heap.size ≤ B) := by show _ ≤ _; rw [hB]; omega
  clear hlt hB d0 d1 b3 b2 hf B1 B2
  have hz : Hid (zeroF n = (List.replicate n 0, List.replicate n 0)) := rfl
  go_wp2_with fail
  go_loopw [9] (fun i wr => (∃ k : Nat, k ≤ l.length ∧ i = .int .i64 k ∧ FiltL wr b bw n bs n r (toldP r (zeroF n) (l.take k)).1 (toldP r (zeroF n) (l.take k)).2 ∧ FiltR wr B b' r (toldP r (zeroF n) (l.take k)).1 (toldP r (zeroF n) (l.take k)).2) ∧ Below w.heap.size w wr) (fun i _ => l.length - (intOf i).toNat)
  case atStart => exact ⟨⟨0, Nat.zero_le _, rfl, hf3, hg⟩, B3⟩
  case round =>
    obtain ⟨⟨k, hk, rfl, hF, hG⟩, hbl⟩ := hrel
    by_cases hlt : k < l.length
    · have hts := Lib.hid (take_succ_ix hlt)
      have hsnoc := Lib.hid (toldP_snoc r (zeroF n) (l.take k) (ix l k))
      generalize toldP r (zeroF n) (l.take k) = st at hF hG hsnoc
      obtain ⟨bA, oA, rfl, hbA, hcA⟩ := ha.lt (by omega)
      have hcA := hcA k hlt
      have hc1 := (hbl.cell (p := ⟨bA, oA + k, none⟩) hbA).trans hcA
      go_wp2_with fail
      (with_reducible refine (tellL_q hF _).mono ?_); rintro e w4 ⟨rfl, hF4, k4⟩
      have hb4 := hbl.trans (k4.below (fun k hk => (hS.out k hk).1) hbl.size)
      have hG4 := hG.kp k4 (fun k hk => (hS.out k hk).2)
      have hc4 := (hb4.cell (p := ⟨bA, oA + k, none⟩) hbA).trans hcA
      clear hc1 hF hG k4
      go_wp2_with fail
      (with_reducible refine (tellR_q hG4 _).mono ?_); rintro e w5 ⟨rfl, hG5, k5⟩
      have hb5 := hb4.trans (k5.below (fun k hk => by subst hk; have := hb'.out; have := hBsz.out; omega) hb4.size)
      have hF5 := hF4.kp k5 (fun k hk hk' => by subst hk'; have := hb'.out; have := (hS.out _ hk).2; omega)
      clear hc4 hF4 hG4 k5
      obtain ⟨ws, hws⟩ : ∃ ws, ws = tellWL r st.1 st.2 (ix l k) := ⟨_, rfl⟩
      obtain ⟨hs, hhs⟩ : ∃ hs, hs = tellH st.2 (ix l k) := ⟨_, rfl⟩
      rw [← hws, ← hhs] at hF5 hG5
      have Hws := Lib.hid hws
      have Hhs := Lib.hid hhs
      clear hws hhs
      have hG5' := Lib.hid hG5
      have hF5' := Lib.hid hF5
      obtain ⟨gw, cw, gs, cs, m1, m2, m3, m4, m5⟩ := hG5.ex
      have e1 := cell_of_row w5 b' 1 _ _ _ m1
      simp at e1
      have hI := m2.ints
      have hwl := hF5.hi
      have hq : eqI ws ws = true := eqI_refl _
      have hq2 : (guessP ws hs != guessP ws hs) = false := by simp
      clear m1 m2 m3 m4 m5
      go_wp2_with fail
      go_region_held3 (fun w' => w'.cell? ⟨b', 1, none⟩ = some (.slice (some ⟨gw, 0, none⟩) ws.length cw)) (first | (go_keep; done) | exact later b6 e1 | exact later b7 e1)
        (first | (go_at_call 16; (with_reducible refine (guessL_any hF5.drew).mono ?_); rintro e w' ⟨rfl, rfl⟩) | (go_at_call 17; (with_reducible refine (guessR_any hG5.drew).mono ?_); rintro e w' ⟨rfl, n1, rfl⟩) | (go_at_call 19; (with_reducible refine (weights_any (hF5.drewN _)).mono ?_); rintro e w6 ⟨A6, k6, rfl, ho6, b6'⟩; have b6 := undrewN b6') | (go_at_call 18; (with_reducible refine (same_q ws ws _ _ rfl rfl (by omega) (by omega) _ _ _ _ _ _ _ (own_ints ho6) (hI.below b6)).mono ?_); rintro e w7 ⟨rfl, b7'⟩; have b7 := bth b6 b7'; rw [hq]))
      all_goals go_wp2_with fail
      all_goals go_roundw
      case rel =>
        refine ⟨⟨k + 1, by omega, by go_num, ?_, ?_⟩, bth hb5 b7⟩ <;> rw [hts.out, hsnoc.out, ← Hws.out, ← Hhs.out]
        · exact hF5.below b7
        · exact hG5.below b7
      case measure => simp [intOf]; omega
    · go_wp2_with fail
      go_ret
      exact ⟨rfl, hbl⟩

theorem plays_other (o r : Int) (l : List Int) (hl : 150 < l.length ∨ validB o r = false) (hm : l.length ≤ 9223372036854775807) (A : Option Addr) (c : Nat) (w : World) :
    Calls Try.prog 3 #[.agg #[.int .i64 o, .int .i64 r], .slice A l.length c] w fun e w' => e = .returned (.bool true) ∧ Below w.heap.size w w' := by
  by_cases hlong : 150 < l.length
  · have hlI : (150 : Int) < (l.length : Int) := by omega
    clear hl
    go_enter Try.func3, Try.ntmps3
    go_wp2_with fail
    (with_reducible refine (known_any _).mono ?_); rintro e w1 ⟨rfl, b1⟩
    go_wp2_with fail
    go_ret
    exact ⟨rfl, bth (bal (brefl w) _) b1⟩
  · have hlI : (l.length : Int) ≤ 150 := by omega
    have hv := Lib.hid (hl.resolve_left hlong)
    clear hl hlong
    go_enter Try.func3, Try.ntmps3
    go_wp2_with fail
    (with_reducible refine (known_any _).mono ?_); rintro e w1 ⟨rfl, b1⟩
    have B1 := bth (bal (brefl w) _) b1
    have c0 : w1.cell? ⟨w.heap.size, 0, none⟩ = some (.int .i64 o) := later b1 (by simp [World.cell?_alloc_new])
    have c1 : w1.cell? ⟨w.heap.size, 1, none⟩ = some (.int .i64 r) := later b1 (by simp [World.cell?_alloc_new])
    clear b1
    go_wp2_with fail
    (with_reducible refine (newL_no o r hv.out _).mono ?_); rintro e w2 ⟨rfl, b2⟩
    have B2 := bth B1 b2
    have d0 := later b2 c0
    have d1 := later b2 c1
    clear c0 c1
    go_wp2_with fail
    (with_reducible refine (newR_no o r hv.out _).mono ?_); rintro e w3 ⟨rfl, b3⟩
    have B3 := bth B2 b3
    go_wp2_with fail
    go_ret
    exact ⟨rfl, B3⟩

theorem plays_any (o r : Int) (l : List Int) (hm : l.length ≤ 9223372036854775807) (A : Option Addr) (c : Nat) (w : World) (ha : Ints .i64 w w.heap.size A l) (_hf : Fit .i64 l) :
    Calls Try.prog 3 #[.agg #[.int .i64 o, .int .i64 r], .slice A l.length c] w fun e w' => e = .returned (.bool true) ∧ Below w.heap.size w w' := by
  cases hv : validB o r with
  | false => exact plays_other o r l (.inr hv) hm A c w
  | true =>
    by_cases hl : 150 < l.length
    · exact plays_other o r l (.inl hl) hm A c w
    · obtain ⟨h1, h2, h3, h4⟩ := validB_true.1 hv
      obtain ⟨n, rfl⟩ : ∃ n : Nat, o = (n : Int) := ⟨o.toNat, by omega⟩
      exact plays_valid n r (by omega) (by omega) h3 h4 l (by omega) A c w ha
end Go.Proofs.Ytjhmmbejpdibhaa
