/-
  slices.Clone at []int; a filter's weights; its twin; a filter that is told a row.
-/
import Derived.Test.YtjhmmbejpdibhaaProg
import Derived.Test.YtjhmmbejpdibhaaLD
namespace Go.Proofs.Ytjhmmbejpdibhaa
open Go.RowKit

def SliceQ (B : Nat) (xs : List Int) (w : World) (e : Ending) (w' : World) : Prop :=
  ∃ A c, e = .returned (.slice A xs.length c) ∧ w'.ownsRow B 3 1 (.slice A xs.length c) xs.length (xs.map (.int .i64)) ∧ Below w.heap.size w w'

theorem clone_any (xs : List Int) (n : Nat) (hn : n = xs.length) (hm : n ≤ 17592186044415) (A : Option Addr) (c : Nat) (w : World) (ha : Ints .i64 w w.heap.size A xs) :
    Calls Try.prog 34 #[.slice A n c] w (SliceQ w.heap.size xs w) := by
  subst hn
  obtain ⟨i0, hi0, hz0, hz1, hz2⟩ := info_parts int_info
  have hnil := fun w => Lib.run_eql_slice_nil (P := Try.prog) w 24 3 A xs.length c 0 0 Try.underlying24
  cases A with
  | none =>
    have hx : xs = [] := by
      cases xs with
      | nil => rfl
      | cons a l => obtain ⟨b, o, h, _⟩ := ha.at_ (i := 0) (by simp); cases h
    subst hx
    have hnil := fun w => Lib.run_eql_slice_nil (P := Try.prog) w 24 3 none 0 c 0 0 Try.underlying24
    go_enter Try.func34, Try.ntmps34
    go_wp2_with fail
    go_ret
    exact ⟨none, 0, rfl, World.ownsRow_nil _ _ _ _, brefl w⟩
  | some ad =>
    go_enter Try.func34, Try.ntmps34
    go_wp2_with (at_builtin; refine wpList_app _ rfl (.tmp 5) (.tmp 6) 24 rfl w.heap.size 3 i0 _ 1 8 Try.underlying24 hi0 hz0 hz1 hz2 rfl (by omega) (.slice (some ⟨w.heap.size, 0, none⟩) 0 0) 0 [] rfl (own_empty w _ _) w.heap.size (some ad) xs.length c (xs.map (Value.int .i64)) rfl (by simp) (ha.below (bal (brefl w) _)) (oneCell_ints _ _) (by simp only [maxLen]; omega) (by omega) (by simp) ?_; intro A1 k1 w1 ho1 hg1 hat1)
    go_ret
    rw [Nat.zero_add] at *
    exact ⟨A1, k1, rfl, ho1, below_app (bal (brefl w) _) (own_empty w 3 1) hg1 (by simp)⟩

theorem OwnI.ints {w : World} {g c : Nat} {xs : List Int} (h : OwnI w g c xs) : Ints .i64 w w.heap.size (some ⟨g, 0, none⟩) xs := own_ints h

theorem weights_any {w : World} {b bw cw bs cs : Nat} {rate : Int} {ws hs : List Int} (h : FiltL w b bw cw bs cs rate ws hs) :
    Calls Try.prog 19 #[.pointer (some ⟨b, 0, none⟩)] w (SliceQ w.heap.size ws w) := by
  have c0 := cell_of_row w b 0 _ _ _ h.hb
  have c1 := cell_of_row w b 1 _ _ _ h.hb
  simp at c0 c1
  have hhi := h.hi
  go_enter Try.func19, Try.ntmps19
  go_wp2_with (go_at_call 34; refine (clone_any ws _ rfl (by omega) _ _ _ h.hw.ints).mono ?_; rintro e w1 ⟨A1, k1, rfl, ho1, hb1⟩)
  go_ret
  exact ⟨A1, k1, rfl, ho1, hb1⟩

theorem undrew {w w' : World} (h : Below w.drew.heap.size w.drew w') : Below w.heap.size w w' := ⟨h.os, h.tape, h.output, h.size, h.block⟩

def TwinQ (rate : Int) (ws hs : List Int) (w : World) (e : Ending) (w' : World) : Prop :=
  ∃ b bw cw bs cs, e = .returned (.pointer (some ⟨b, 0, none⟩)) ∧ FiltL w' b bw cw bs cs rate ws hs ∧ w.heap.size ≤ b ∧ w.heap.size ≤ bw ∧ w.heap.size ≤ bs ∧ Below w.heap.size w w'

theorem twin_mk {w w2 : World} {rate : Int} {ws hs : List Int} {A1 A2 : Option Addr} {k1 k2 : Nat}
    (hlen : hs.length = ws.length) (lo : 1 ≤ ws.length) (hi : ws.length ≤ 32) (r0 : 0 ≤ rate) (r8 : rate ≤ 8) (wb : ∀ k, k < ws.length → -1048576 ≤ ix ws k ∧ ix ws k ≤ 1048576)
    (h1 : w2.ownsRow w.heap.size 3 1 (.slice A1 ws.length k1) ws.length (ws.map (.int .i64))) (h2 : w2.ownsRow w.heap.size 3 1 (.slice A2 hs.length k2) hs.length (hs.map (.int .i64)))
    (hd : ∀ g1 g2, A1 = some ⟨g1, 0, none⟩ → A2 = some ⟨g2, 0, none⟩ → g1 ≠ g2) (hb : Below w.heap.size w w2) :
    TwinQ rate ws hs w (.returned (.pointer (some ⟨w2.heap.size, 0, none⟩))) (w2.alloc (.cells #[.int .i64 rate, .slice A1 ws.length k1, .slice A2 hs.length k2] 54)) := by
  obtain ⟨g1, rfl, b1, l1⟩ := own_addr h1 (by omega)
  obtain ⟨g2, rfl, b2, l2⟩ := own_addr h2 (by omega)
  have hne := hd g1 g2 rfl rfl
  refine ⟨w2.heap.size, g1, k1, g2, k2, rfl, ⟨?_, ?_, ?_, by omega, by omega, hne, hlen, lo, hi, r0, r8, wb⟩, hb.size, b1, b2, bal hb _⟩
  · rw [heap_at, hlen]
  · exact own_base (h1.alloc _) (Nat.zero_le _)
  · exact own_base (h2.alloc _) (Nat.zero_le _)

set_option maxHeartbeats 1000000 in
theorem twin_any {w : World} {b bw cw bs cs : Nat} {rate : Int} {ws hs : List Int} (h : FiltL w b bw cw bs cs rate ws hs) :
    Calls Try.prog 22 #[.pointer (some ⟨b, 0, none⟩)] w (TwinQ rate ws hs w) := by
  have c0 := cell_of_row w b 0 _ _ _ h.hb
  have c1 := cell_of_row w b 1 _ _ _ h.hb
  have c2 := cell_of_row w b 2 _ _ _ h.hb
  rw [← h.len] at c2
  simp at c0 c1 c2
  have hhi := h.hi
  have H := Lib.hid h
  have hw := h.hw.ints
  have hh := h.hh.ints
  have hl2 : hs.length ≤ 32 := by rw [h.len]; exact hhi
  clear h
  have n0 := World.new_ne w _ c0
  have n1 := World.new_ne w _ c1
  have n2 := World.new_ne w _ c2
  go_enter Try.func22, Try.ntmps22
  go_wp2_with fail
  go_region_held3 (fun w' => w'.cell? ⟨b, 0, none⟩ = some (.int .i64 rate) ∧ w'.cell? ⟨b, 1, none⟩ = some (.slice (some ⟨bw, 0, none⟩) ws.length cw) ∧ w'.cell? ⟨b, 2, none⟩ = some (.slice (some ⟨bs, 0, none⟩) hs.length cs)) (first | (go_keep; done) | exact ⟨later hb2 c0, later hb2 c1, later hb2 c2⟩ | exact ⟨later hb1 c0, later hb1 c1, later hb1 c2⟩ | exact ⟨later (bal hb2 _) c0, later (bal hb2 _) c1, later (bal hb2 _) c2⟩)
    (first | (go_at_call_of 34 (Value.slice (some ⟨bw, 0, none⟩) ws.length cw); (with_reducible refine (clone_any ws _ rfl (by omega) _ _ _ hw.drew).mono ?_); rintro e w1 ⟨A1, k1, rfl, ho1, hb1'⟩; have hb1 := undrew hb1'; clear hb1') | (go_at_call_of 34 (Value.slice (some ⟨bw, 0, none⟩) ws.length cw); (with_reducible refine (clone_any ws _ rfl (by omega) _ _ _ ((hw.below hb1).more hb1.size)).mono ?_); rintro e w2 ⟨A2, k2, rfl, ho2, hb2'⟩; have hb2 := hb1.trans (hb2'.mono hb1.size)) | (go_at_call_of 34 (Value.slice (some ⟨bs, 0, none⟩) hs.length cs); (with_reducible refine (clone_any hs _ rfl (by omega) _ _ _ hh.drew).mono ?_); rintro e w1 ⟨A1, k1, rfl, ho1, hb1'⟩; have hb1 := undrew hb1'; clear hb1') | (go_at_call_of 34 (Value.slice (some ⟨bs, 0, none⟩) hs.length cs); (with_reducible refine (clone_any hs _ rfl (by omega) _ _ _ ((hh.below hb1).more hb1.size)).mono ?_); rintro e w2 ⟨A2, k2, rfl, ho2, hb2'⟩; have hb2 := hb1.trans (hb2'.mono hb1.size)))
  all_goals go_wp2_with fail
  all_goals go_ret
  refine twin_mk H.out.len H.out.lo H.out.hi H.out.r0 H.out.r8 H.out.wb (own_below ho1 hb2' (Nat.le_refl _)) (own_base ho2 hb1.size) (fun g1 g2 e1 e2 => ?_) hb2
  subst e1
  subst e2
  have q1 := (ho1.lt g1 (by simp [Value.ownBlock])).2
  have q2 := (ho2.lt g2 (by simp [Value.ownBlock])).1
  omega

def ToldQ (b bw cw bs cs : Nat) (rate : Int) (ws hs : List Int) (w : World) (e : Ending) (w' : World) : Prop :=
  e = .returned (.tuple #[]) ∧ FiltL w' b bw cw bs cs rate ws hs ∧ Kp (fun k => k = b ∨ k = bw ∨ k = bs) w w'

def tellWL (rate : Int) (ws hs : List Int) (x : Int) : List Int := updTo (stepL rate (nearI x) (guessP ws hs)) ws hs ws.length
def tellH (hs : List Int) (x : Int) : List Int := nearI x :: hs.take (hs.length - 1)
/-- what a filter holds behind the numbers l: weights, samples. -/
def toldP (rate : Int) (s : List Int × List Int) (l : List Int) : List Int × List Int := l.foldl (fun s x => (tellWL rate s.1 s.2 x, tellH s.2 x)) s
theorem toldP_snoc (rate : Int) (s : List Int × List Int) (l : List Int) (x : Int) :
    toldP rate s (l ++ [x]) = (tellWL rate (toldP rate s l).1 (toldP rate s l).2 x, tellH (toldP rate s l).2 x) := by simp [toldP]

theorem tellL_q {w : World} {b bw cw bs cs : Nat} {rate : Int} {ws hs : List Int} (h : FiltL w b bw cw bs cs rate ws hs) (x : Int) :
    Calls Try.prog 14 #[.pointer (some ⟨b, 0, none⟩), .int .i64 x] w (ToldQ b bw cw bs cs rate (tellWL rate ws hs x) (tellH hs x) w) :=
  (tellL_any h x).mono fun e w' ⟨h1, h2, h3⟩ => ⟨h1, by unfold tellH; rw [h.len]; exact h2, h3⟩

theorem told_any {w : World} {b bw cw bs cs : Nat} {rate : Int} {ws hs : List Int} (h : FiltL w b bw cw bs cs rate ws hs) (l : List Int) (n : Nat) (hn : n = l.length) (hm : n ≤ 65536) (A : Option Addr) (c B : Nat) (hl : Ints .i64 w B A l) (B1 : B ≤ b) (B2 : B ≤ bw) (B3 : B ≤ bs) (hB : B ≤ w.heap.size) :
    Calls Try.prog 21 #[.pointer (some ⟨b, 0, none⟩), .slice A n c] w (ToldQ b bw cw bs cs rate (toldP rate (ws, hs) l).1 (toldP rate (ws, hs) l).2 w) := by
  subst hn
  go_enter Try.func21, Try.ntmps21
  go_wp2_with fail
  go_loopw [4] (fun i wr => ∃ k : Nat, k ≤ l.length ∧ i = .int .i64 k ∧ FiltL wr b bw cw bs cs rate (toldP rate (ws, hs) (l.take k)).1 (toldP rate (ws, hs) (l.take k)).2 ∧ Kp (fun k => k = b ∨ k = bw ∨ k = bs) w wr) (fun i _ => l.length - (intOf i).toNat)
  case atStart => exact ⟨0, Nat.zero_le _, rfl, h, Kp.refl _ _⟩
  case round =>
    obtain ⟨k, hk, rfl, hf, hkp⟩ := hrel
    have hl' := hl.below (hkp.below (by rintro k (rfl | rfl | rfl) <;> assumption) hB)
    by_cases hlt : k < l.length
    · obtain ⟨b1, o1, rfl, hc1⟩ := hl'.at_ hlt
      have hts := Lib.hid (take_succ_ix hlt)
      go_wp2_with (go_at_call 14; (with_reducible refine (tellL_q hf _).mono ?_); rintro e w1 ⟨rfl, hf1, hk1⟩)
      go_roundw
      case rel =>
        refine ⟨k + 1, by omega, by go_num, ?_, hkp.trans hk1⟩
        rw [hts.out, toldP_snoc]
        exact hf1
      case measure => simp [intOf]; omega
    · have e : k = l.length := by omega
      subst e
      have hts := Lib.hid (List.take_length (l := l))
      go_wp2_with fail
      go_end0
      rw [hts.out] at hf
      exact ⟨rfl, hf, hkp⟩
end Go.Proofs.Ytjhmmbejpdibhaa
