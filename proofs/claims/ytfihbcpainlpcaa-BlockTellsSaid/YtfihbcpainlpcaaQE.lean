/-
  The reference's reader of bytes: NewOctets, Left, Take.
-/
import Derived.Test.YtfihbcpainlpcaaProg
import Derived.Test.YtfihbcpainlpcaaQCa
import Derived.Test.YtfihbcpainlpcaaMD
namespace Go.Proofs.Ytfihbcpainlpcaa
open Go.RowKit
set_option linter.unusedVariables false
set_option linter.unusedSimpArgs false

/-- a reader at place p, without an error, in block g. -/
def OctS (w : World) (g : Nat) (A : Option Addr) (n c p : Nat) : Prop :=
  w.cell? ⟨g, 0, none⟩ = some (.slice A n c) ∧ w.cell? ⟨g, 1, none⟩ = some (.int .i64 (p : Int)) ∧ w.cell? ⟨g, 2, none⟩ = some (.int .i64 0) ∧ w.frozen? ⟨g, 1, none⟩ = false
theorem OctS.of_block {w w' : World} {g : Nat} {A : Option Addr} {n c p : Nat} (h : OctS w g A n c p) (hb : w'.heap[g]? = w.heap[g]?) : OctS w' g A n c p :=
  ⟨(World.cell?_of_block (a := ⟨g, 0, none⟩) hb).trans h.1, (World.cell?_of_block (a := ⟨g, 1, none⟩) hb).trans h.2.1, (World.cell?_of_block (a := ⟨g, 2, none⟩) hb).trans h.2.2.1, (World.frozen?_of_block (a := ⟨g, 1, none⟩) hb).trans h.2.2.2⟩
theorem octS_new (w : World) (A : Option Addr) (n c : Nat) : OctS (w.alloc (.cells #[.slice A n c, .int .i64 0, .int .i64 0] 81)) w.heap.size A n c 0 := by
  have h := heap_alloc_new w (.cells #[.slice A n c, .int .i64 0, .int .i64 0] 81)
  exact ⟨(cell_of_row _ _ _ _ _ _ h).trans rfl, (cell_of_row _ _ _ _ _ _ h).trans rfl, (cell_of_row _ _ _ _ _ _ h).trans rfl, frozen_of_row _ _ 1 _ _ h⟩

theorem newOctets_any (A : Option Addr) (n c : Nat) (w : World) : Calls Try.prog 58 #[.slice A n c] w fun e w' => e = .returned (.pointer (some ⟨w.heap.size, 0, none⟩)) ∧ w' = w.alloc (.cells #[.slice A n c, .int .i64 0, .int .i64 0] 81) := by
  go_enter Try.func58, Try.ntmps58
  go_wp2_with fail
  go_ret
  exact ⟨rfl, rfl⟩

theorem left_any (g : Nat) (A : Option Addr) (n c p : Nat) (hn : n ≤ 100000) (hp : p ≤ 100000) (w : World) (h : OctS w g A n c p) :
    Calls Try.prog 59 #[.pointer (some ⟨g, 0, none⟩)] w fun e w' => e = .returned (.int .i64 ((n : Int) - (p : Int))) ∧ ∃ q, w' = w.drewN q := by
  obtain ⟨h0, h1, h2, h3⟩ := h
  have hw := IntWalk.i64_in ((n : Int) - (p : Int)) (by omega)
  go_enter Try.func59, Try.ntmps59
  go_wp2_with fail
  go_quiet (fail)
  go_wp2_with fail
  go_ret
  exact ⟨rfl, nq, rfl⟩

theorem OwnB.of_other {w w' : World} {B : Nat} {A : Option Addr} {n c : Nat} {l : List Int} (h : OwnB w B A n c l) (hk : ∀ q, (Value.slice A n c).ownBlock = some q → w'.heap[q]? = w.heap[q]?) : OwnB w' B A n c l := own_of_block h hk
def TakeQ (l : List Int) (A : Option Addr) (n c p s g : Nat) (w : World) (e : Ending) (w' : World) : Prop :=
  ∃ A' c', e = .returned (.slice A' s c') ∧ OwnB w' w.heap.size A' s c' ((l.drop p).take s) ∧ OctS w' g A n c (p + s) ∧ Kp (fun q => q = g) w w'

set_option maxHeartbeats 2000000 in
theorem take_any (l : List Int) (n : Nat) (hn : n = l.length) (hm : n ≤ 50000) (A : Option Addr) (c : Nat) (hc : n ≤ c) (hc63 : c ≤ 9223372036854775807) (p s : Nat) (hs : 1 ≤ s) (hps : p + s ≤ n) (g : Nat) (w : World) (ho : OctS w g A n c p) (ha : Ints .u8 w w.heap.size A l) :
    Calls Try.prog 68 #[.pointer (some ⟨g, 0, none⟩), .int .i64 (s : Int)] w (TakeQ l A n c p s g w) := by
  obtain ⟨b, off, rfl, hbw, _⟩ := ha.lt (by omega)
  have Ho := Lib.hid ho
  obtain ⟨h0, h1, h2, h3⟩ := ho
  have hgw := block_lt_of_cell h0
  have hin := ints_part (a := p) (d := s) ha (by omega)
  have hxl : Hid (((l.drop p).take s).length = s) := by show _ = _; simp; omega
  have e1 : (if (s : Int) < 0 then (0 : Int) else (s : Int)) = (s : Int) := by rw [if_neg (by omega)]
  have e2 : (n : Int) - (p : Int) ≥ (s : Int) := by omega
  have e3 : ¬ ((n : Int) - (p : Int) < (s : Int)) := by omega
  have e4 : ¬ c = p := by omega
  obtain ⟨q, hq⟩ : ∃ q, q = p + s := ⟨_, rfl⟩
  have eq : (p : Int) + (s : Int) = (q : Int) := by omega
  have hqw := IntWalk.i64_in (q : Int) (by omega)
  have e5 : q - p = s := by omega
  have e6 : (p : Int) ≤ (q : Int) := by omega
  have e7 : (q : Int) ≤ (c : Int) := by omega
  have Hq := Lib.hid hq
  clear hq hps hn
  go_enter Try.func68, Try.ntmps68
  go_wp2_with fail
  (with_reducible refine (left_any g _ n c p (by omega) (by omega) _ Ho.out).mono ?_); rintro e w2 ⟨rfl, k, hw2⟩
  have O2 : OctS w2 g (some ⟨b, off, none⟩) n c p := by rw [hw2]; exact Ho.out
  have hin2 : Ints .u8 w2 w2.heap.size (some ⟨b, off + p, none⟩) ((l.drop p).take s) := by rw [hw2]; exact hin.drewN k
  have K2 : Hid (Kp (fun q => q = g) w w2) := by show Kp _ _ _; rw [hw2]; exact (Kp.refl _ _).drewN k
  have hs2 : Hid (w2.heap.size = w.heap.size) := by show _ = _; rw [hw2]; rfl
  have hg2 : g < w2.heap.size := by rw [hs2.out]; exact hgw
  have H2 := Lib.hid O2
  obtain ⟨c0, c1, c2, c3⟩ := O2
  obtain ⟨xs, hxs⟩ : ∃ xs, xs = (l.drop p).take s := ⟨_, rfl⟩
  have Hxs := Lib.hid hxs
  rw [← hxs] at hin2 hxl
  obtain ⟨i0, hi0, hz0, hz1, hz2⟩ := info_parts byte_info
  clear hw2 hxs hin h0 h1 h2 h3 Ho ha
  go_wp2_with fail
  go_region_held3 (fun w' => w'.cell? ⟨g, 0, none⟩ = some (.slice (some ⟨b, off, none⟩) n c) ∧ w'.cell? ⟨g, 1, none⟩ = some (.int .i64 (p : Int))) (first | (go_keep; done) | exact ⟨later b5 c0, later b5 c1⟩ | exact ⟨later (bal (brefl w2) _).drew c0, later (bal (brefl w2) _).drew c1⟩)
    (first | (refine step_app _ rfl (.tmp 20) (.tmp 35) 41 rfl w2.heap.size 5 i0 _ 1 1 Try.underlying41 hi0 hz0 hz1 hz2 rfl (by omega) (.slice (some ⟨w2.heap.size, 0, none⟩) 0 0) 0 [] rfl (own_empty w2 _ _) _ _ s _ (xs.map (Value.int .u8)) rfl (by rw [List.length_map, hxl.out, Nat.mul_one]) (by first | exact hin2.below (bal (brefl w2) _).drew | exact hin2.below (bal (brefl w2) _)) (oneCell_ints _ _) (by simp only [maxLen]; omega) (by omega) (by simp) ?_; intro A5 c5 w5 ho5 hg5 hat5; have b5 : Below w2.heap.size w2 w5 := below_app ((bal (brefl w2) _).drew) (World.ownsRow.drew (own_empty w2 _ 1)) hg5 (by simp); rw [Nat.zero_add] at ho5; rw [Nat.zero_add]))
  have ho5' : OwnB w5 w2.heap.size A5 s c5 xs := ho5
  have O5 := H2.out.of_block (b5.block g hg2)
  obtain ⟨d0, d1, d2, d3⟩ := O5
  have Ho5 := Lib.hid ho5'
  have Hb5 := Lib.hid b5
  clear ho5 ho5' hg5 hat5 c0 c1 c2 c3
  go_wp2_with fail
  go_ret
  refine ⟨A5, c5, rfl, ?_, ?_, ?_⟩
  · rw [← Hxs.out, ← hs2.out]
    exact OwnB.of_other Ho5.out fun k hk => Below.heap_setCell _ _ _ _ (fun e => by have := (World.ownsRow.lt Ho5.out k hk).1; simp at e; omega)
  · rw [← Hq.out]
    exact ⟨by simp [go_sem, d0], by simp [go_sem, d1], by simp [go_sem, d2], by rw [World.frozen?_setCell]; exact d3⟩
  · exact (K2.out.trans (Kp.of_below Hb5.out)).set_ rfl _
end Go.Proofs.Ytfihbcpainlpcaa
