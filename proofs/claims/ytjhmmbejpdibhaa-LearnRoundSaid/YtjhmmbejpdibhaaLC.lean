/-
  The reference's Tell; both makers of filters; copies.
-/
import Derived.Test.YtjhmmbejpdibhaaProg
import Derived.Test.YtjhmmbejpdibhaaLB
import Derived.Deep.LoopGhost
import Derived.Deep.RegionLaw
namespace Go.Proofs.Ytjhmmbejpdibhaa
open Go.RowKit

def updR (s rate w h : Int) : Int := min (max (w + (s * sgnI h) * 2 ^ rate.toNat) (-1048576)) 1048576
def updRTo (s rate : Int) (ws hs : List Int) (k : Nat) : List Int := (List.range k).map fun i => updR s rate (ix ws i) (ix hs i)
theorem updRTo_succ (s rate : Int) (ws hs : List Int) (k : Nat) : updRTo s rate ws hs (k + 1) = updRTo s rate ws hs k ++ [updR s rate (ix ws k) (ix hs k)] := by
  simp [updRTo, List.range_succ]
theorem updRTo_len (s rate : Int) (ws hs : List Int) (k : Nat) : (updRTo s rate ws hs k).length = k := by simp [updRTo]

theorem sgnI_b (x : Int) : -1 ≤ sgnI x ∧ sgnI x ≤ 1 := by unfold sgnI; (repeat' split) <;> omega
theorem sgn_mul (x y : Int) : -1 ≤ sgnI x * sgnI y ∧ sgnI x * sgnI y ≤ 1 := by
  unfold sgnI; (repeat' split) <;> simp
theorem updR_spell {x rate w h : Int} (h0 : 0 ≤ rate) (h8 : rate ≤ 8) (h1 : -1048576 ≤ w) (h2 : w ≤ 1048576) :
    (if 1048576 < if IntKind.i64.wrap (w + IntKind.i64.wrap (IntKind.i64.wrap (sgnI x * sgnI h) * 2 ^ min (IntKind.u64.wrap rate).toNat 64)) < -1048576 then -1048576 else IntKind.i64.wrap (w + IntKind.i64.wrap (IntKind.i64.wrap (sgnI x * sgnI h) * 2 ^ min (IntKind.u64.wrap rate).toNat 64)) then 1048576
     else if IntKind.i64.wrap (w + IntKind.i64.wrap (IntKind.i64.wrap (sgnI x * sgnI h) * 2 ^ min (IntKind.u64.wrap rate).toNat 64)) < -1048576 then -1048576 else IntKind.i64.wrap (w + IntKind.i64.wrap (IntKind.i64.wrap (sgnI x * sgnI h) * 2 ^ min (IntKind.u64.wrap rate).toNat 64))) = updR (sgnI x) rate w h := by
  rw [clamp_if]
  unfold updR
  obtain ⟨m1, m2⟩ := sgn_mul x h
  obtain ⟨p1, p2⟩ := pow8 (r := rate.toNat) (by omega)
  have e0 : IntKind.u64.wrap rate = rate := by simp [IntKind.wrap, IntKind.bits, IntKind.signed]; omega
  have e1 : min rate.toNat 64 = rate.toNat := by omega
  rw [e0, e1, IntWalk.i64_in (sgnI x * sgnI h) (by omega)]
  have b1 : -256 ≤ sgnI x * sgnI h * 2 ^ rate.toNat ∧ sgnI x * sgnI h * 2 ^ rate.toNat ≤ 256 := by
    generalize sgnI x * sgnI h = m at *
    generalize (2 : Int) ^ rate.toNat = p at *
    have : m = -1 ∨ m = 0 ∨ m = 1 := by omega
    rcases this with rfl | rfl | rfl <;> omega
  rw [IntWalk.i64_in (sgnI x * sgnI h * 2 ^ rate.toNat) (by omega), IntWalk.i64_in _ (by omega)]

set_option maxHeartbeats 1000000 in
theorem tellR_any {w : World} {B b : Nat} {rate : Int} {ws hs : List Int} (h : FiltR w B b rate ws hs) (x : Int) :
    Calls Try.prog 15 #[.pointer (some ⟨b, 0, none⟩), .int .i64 x] w fun e w' => e = .returned (.tuple #[]) ∧
      FiltR w' B b rate (updRTo (sgnI (nearI x - guessP ws hs)) rate ws hs ws.length) (nearI x :: hs.take (ws.length - 1)) ∧ Kp (fun k => k = b) w w' := by
  obtain ⟨gw, cw, gs, cs, hb, hw, hh, hgw, hgs⟩ := h.ex
  have c0 := cell_of_row w b 0 _ _ _ hb
  have c1 := cell_of_row w b 1 _ _ _ hb
  have c2 := cell_of_row w b 2 _ _ _ hb
  simp at c0 c1 c2
  have hhi := h.hi
  have hr0 := h.r0
  have hr8 := h.r8
  obtain ⟨hx1, hx2⟩ := nearI_wide x
  obtain ⟨hg1, hg2⟩ : -1073741824 ≤ guessP ws hs ∧ guessP ws hs ≤ 1073741823 := nearI_wide _
  obtain ⟨hp1, hp2⟩ := pow8 (r := rate.toNat) (by omega)
  go_enter Try.func15, Try.ntmps15
  go_upto_region 2 with (first | (go_at_call 32; refine (nearR_any _ _).mono ?_; rintro e w' ⟨rfl, rfl⟩) | (go_at_call 17; refine (guessR_any h).mono ?_; rintro e w' ⟨rfl, n0, rfl⟩) | (go_at_call 33; refine (sign_any _ _).mono ?_; rintro e w' ⟨rfl, rfl⟩))
  go_cut [5, 6] (fun s5 s6 wx => s5 = .slice none 0 0 ∧ (∃ (A : Option Addr) (c : Nat), s6 = .slice A 0 c ∧ Hid (∀ (W : World) (B : Nat), W.ownsRow B 3 1 (.slice A 0 c) 0 [])) ∧ wx = w.drewN n0)
  case first =>
    go_wp2_with fail
    go_meet
    exact ⟨rfl, ⟨none, 0, rfl, fun W B => World.ownsRow_nil _ _ _ _⟩, rfl⟩
  case rest =>
   obtain ⟨rfl, ⟨A6, c6, rfl, hnil⟩, rfl⟩ := hcut
   go_wp2_with fail
   go_loopg [5, 7] ws.length (fun g wv i wr => (∃ (k : Nat) (A : Option Addr) (c : Nat), k + g = ws.length ∧ i = .int .i64 k ∧ wv = .slice A k c ∧ wr.ownsRow w.heap.size 3 1 (.slice A k c) k ((updRTo (sgnI (nearI x - guessP ws hs)) rate ws hs k).map (.int .i64))) ∧ Below w.heap.size w wr)
   case atStart => exact ⟨⟨0, none, 0, by omega, rfl, rfl, World.ownsRow_nil _ _ _ _⟩, below_drewN (Below.refl _ _) _⟩
   case round =>
      obtain ⟨⟨k, A, c, hk, rfl, rfl, ho⟩, hbl⟩ := hrel
      have hbA : Hid (Below w.heap.size w wr) := hbl
      have e0 := later hbl c0
      have e1 := later hbl c1
      have e2 := later hbl c2
      by_cases hlt : k < ws.length
      · have D1 := Lib.hid (hw.cell k hlt)
        have D2 := Lib.hid (hh.cell k (by rw [h.len]; exact hlt))
        obtain ⟨wb1, wb2⟩ := h.wb k hlt
        have d1 := later hbl D1.out
        have d2 := later hbl D2.out
        go_upto_block 1 with fail
        go_cut [5] (fun s5 wx => (∃ (A : Option Addr) (c : Nat), s5 = .slice A (k + 1) c ∧ wx.ownsRow w.heap.size 3 1 (.slice A (k + 1) c) (k + 1) ((updRTo (sgnI (nearI x - guessP ws hs)) rate ws hs (k + 1)).map (.int .i64))) ∧ Below w.heap.size w wx)
        case first =>
          obtain ⟨i0, hi0, hz0, hz1, hz2⟩ := info_parts int_info
          go_wp2_with fail
          go_region_held3 (fun w' => w'.cell? ⟨b, 0, none⟩ = some (.int .i64 rate) ∧ w'.cell? ⟨b, 1, none⟩ = some (.slice (some ⟨gw, 0, none⟩) ws.length cw) ∧ w'.cell? ⟨b, 2, none⟩ = some (.slice (some ⟨gs, 0, none⟩) ws.length cs) ∧ w'.cell? ⟨gw, k, none⟩ = some (.int .i64 (ix ws k)) ∧ w'.cell? ⟨gs, k, none⟩ = some (.int .i64 (ix hs k))) (first | go_keep | exact ⟨later hb4 c0, later hb4 c1, later hb4 c2, later hb4 D1.out, later hb4 D2.out⟩) (first | (go_at_call 33; refine (sign_any _ _).mono ?_; rintro e w' ⟨rfl, rfl⟩) | (refine step_app _ rfl (.tmp 24) (.tmp 51) 24 rfl w.heap.size 3 i0 _ 1 8 Try.underlying24 hi0 hz0 hz1 hz2 rfl (by omega) (.slice A k c) k _ rfl (ho.alloc _) _ _ 1 1 _ rfl rfl (rd_new1d _ _ _) (by simp [Value.oneCell']) (by simp only [maxLen]; omega) (by omega) (by have := hbA.out.size; simp; omega) ?_; intro A1 k1 w4 ho4 hg4 hat4; have hb4 := below_app (((hbA.out).alloc hbA.out.size _).drew) (World.ownsRow.drew (ho.alloc _)) hg4 (by have := hbA.out.size; simp; omega)))
          all_goals go_wp2_with fail
          all_goals go_meet
          all_goals refine ⟨⟨A1, k1, rfl, ?_⟩, hb4⟩
          all_goals rw [updR_spell hr0 hr8 wb1 wb2] at ho4
          all_goals rw [updRTo_succ, List.map_append]
          all_goals exact ho4
        case rest =>
          obtain ⟨⟨A1, k1, rfl, ho1⟩, hb1⟩ := hcut
          go_wp2_with fail
          go_roundg (ws.length - (k + 1))
          case measure => omega
          case rel => exact ⟨⟨k + 1, A1, k1, by omega, by go_num, rfl, ho1⟩, hb1⟩
      · have e : k = ws.length := by omega
        subst e
        have hlo := h.lo
        have hlen := Lib.hid h.len
        have hrd : Hid (Rd w w.heap.size (some ⟨gs, 0, none⟩) ((hs.take (ws.length - 1)).map (Value.int .i64))) := fun h0 => by
          obtain ⟨b0, o0, e0, hb0, hc0⟩ := own_rd hh (by rw [List.length_map, hlen.out]; omega)
          refine ⟨b0, o0, e0, hb0, fun i u hu => hc0 i u ?_⟩
          rw [List.map_take, List.getElem?_take] at hu
          split at hu
          · exact hu
          · cases hu
        have hln : Hid (((hs.take (ws.length - 1)).map (Value.int .i64)).length = (ws.length - 1) * 1) := by
          have := hlen.out
          show _ = _
          rw [List.length_map, List.length_take]; omega
        obtain ⟨_, _, _, hcs, _, _, _, _⟩ := own_open hh
        rw [h.len] at hcs
        have g1 := IntWalk.i64_in ((ws.length : Int) - 1) (by omega)
        have g2 : (1 : Int) ≤ ↑ws.length := by omega
        have g3 : ((ws.length : Int) - 1).toNat = ws.length - 1 := by omega
        have g4 : (ws.length : Int) - 1 ≤ ↑cs := by omega
        obtain ⟨i0, hi0, hz0, hz1, hz2⟩ := info_parts int_info
        have f0 := hbl.frozen (p := ⟨b, 1, none⟩) (block_lt_of_cell c1)
        go_wp2_with fail
        go_region_held3 (fun w' => w'.cell? ⟨b, 0, none⟩ = some (.int .i64 rate) ∧ w'.cell? ⟨b, 2, none⟩ = some (.slice (some ⟨gs, 0, none⟩) ws.length cs)) (first | go_keep | exact ⟨later hb5 c0, later hb5 c2⟩ | exact ⟨later hb6 c0, later hb6 c2⟩) (first | (refine step_app _ rfl (.tmp 53) (.tmp 55) 24 rfl wr.heap.size 3 i0 _ 1 8 Try.underlying24 hi0 hz0 hz1 hz2 rfl (by omega) (.slice A6 0 c6) 0 [] rfl (hnil.out _ _) _ _ 1 1 _ rfl rfl (rd_new1d _ _ _) (by simp [Value.oneCell']) (by simp only [maxLen]; omega) (by omega) (by simp) ?_; intro A5 k5 w5 ho5 hg5 hat5; have hw5 := below_app (((Below.refl wr.heap.size wr).alloc (Nat.le_refl _) _).drew) (hnil.out _ _) hg5 (by simp); have hb5 := hbA.out.trans (hw5.mono hbA.out.size)) | (refine step_app _ rfl (.tmp 56) (.tmp 67) 24 rfl wr.heap.size 3 i0 _ 1 8 Try.underlying24 hi0 hz0 hz1 hz2 rfl (by omega) (.slice A5 (0 + 1) k5) (0 + 1) _ rfl ho5 _ _ (ws.length - 1) _ _ rfl hln.out (hrd.out.below hb5) (oneCell_ints _ _) (by simp only [maxLen]; omega) (by omega) hw5.size ?_; intro A7 k6 w6 ho6 hg6 hat6; have hw6 := below_app hw5 ho5 hg6 hw5.size; have hb6 := hbA.out.trans (hw6.mono hbA.out.size)))
        have e1 := later hb6 c1
        have e2 := later hb6 c2
        have f1 : w6.frozen? ⟨b, 1, none⟩ = false := frozen_of_row w6 b 1 _ _ ((hb6.block b (block_lt_of_cell c0)).trans hb)
        have f2 : w6.frozen? ⟨b, 2, none⟩ = false := frozen_of_row w6 b 2 _ _ ((hb6.block b (block_lt_of_cell c0)).trans hb)
        have hbb : Hid (w6.heap[b]? = w.heap[b]?) := hb6.block b (block_lt_of_cell c0)
        have hb6' := Lib.hid hb6
        have hw6' := Lib.hid hw6
        have hbsz : b < w.heap.size := block_lt_of_cell c0
        clear hb5 hb6 hw5 hw6 hbl e0 g1 g3
        go_wp2_with fail
        go_end0
        have ho7 := own_below ho hw6'.out (Nat.le_refl _)
        obtain ⟨q1, rfl, q1a, q1b⟩ := own_addr ho7 hlo
        have ho6' : w6.ownsRow wr.heap.size 3 1 (.slice A7 ws.length k6) ws.length ((nearI x :: hs.take (ws.length - 1)).map (Value.int .i64)) := by
          have e : 0 + 1 + (ws.length - 1) = ws.length := by omega
          rw [e] at ho6
          exact ho6
        obtain ⟨q2, rfl, q2a, q2b⟩ := own_addr ho6' hlo
        have hsz := hbA.out.size
        have hBle : B ≤ w.heap.size := by have := h.hb; omega
        refine ⟨rfl, ⟨⟨q1, c, q2, k6, ?_, ?_, ?_, by omega, by omega⟩, h.hb, ?_, ?_, ?_, h.r0, h.r8, ?_⟩, ?_⟩
        · rw [updRTo_len]
          have e : 0 + 1 + (ws.length - 1) = ws.length := by omega
          rw [heap_setCell_same _ b 2 _ _ _ (heap_setCell_same w6 b 1 _ _ _ (hbb.out.trans hb))]
          simp
        · unfold OwnI
          rw [updRTo_len]
          refine own_of_block (own_base ho7 (Nat.zero_le _)) fun g hg => ?_
          simp [Value.ownBlock] at hg
          subst hg
          exact (Below.heap_setCell _ _ _ _ (by simp; omega)).trans (Below.heap_setCell _ _ _ _ (by simp; omega))
        · unfold OwnI
          have e : (nearI x :: hs.take (ws.length - 1)).length = ws.length := by have := hlen.out; simp only [List.length_cons, List.length_take]; omega
          rw [e]
          refine own_of_block (own_base ho6' (Nat.zero_le _)) fun g hg => ?_
          simp [Value.ownBlock] at hg
          subst hg
          exact (Below.heap_setCell _ _ _ _ (by simp; omega)).trans (Below.heap_setCell _ _ _ _ (by simp; omega))
        · rw [updRTo_len]
          have := hlen.out; simp only [List.length_cons, List.length_take]; omega
        · rw [updRTo_len]; exact hlo
        · rw [updRTo_len]; exact hhi
        · intro k hk'
          rw [updRTo_len] at hk'
          unfold updRTo
          rw [ix_map_range _ _ _ hk']
          unfold updR
          omega
        · exact ((Kp.of_below (S := fun k => k = b) hb6'.out).set_ (p := ⟨b, 1, none⟩) rfl _).set_ (p := ⟨b, 2, none⟩) rfl _
end Go.Proofs.Ytjhmmbejpdibhaa
