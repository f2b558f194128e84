/-
  The filters: what they are in memory; New, Guess, Tell.
-/
import Derived.Test.YtjhmmbejpdibhaaProg
import Derived.Test.YtjhmmbejpdibhaaLA
import Derived.Deep.DeepCutAuto
import Derived.Deep.CutBlock
namespace Go.Proofs.Ytjhmmbejpdibhaa
open Go.RowKit

theorem int_info : (Try.prog.info? 3).map (fun i => (i.zero, i.size, i.bytes)) = some (some (.int .i64 0), 1, 8) := by kernel_rfl

def OwnI (w : World) (g c : Nat) (xs : List Int) : Prop := w.ownsRow 0 3 1 (.slice (some ⟨g, 0, none⟩) xs.length c) xs.length (xs.map (.int .i64))
theorem OwnI.cell {w : World} {g c : Nat} {xs : List Int} (h : OwnI w g c xs) (k : Nat) (hk : k < xs.length) : w.cell? ⟨g, k, none⟩ = some (.int .i64 (ix xs k)) := by
  rw [World.ownsRow.cellAt h k (by omega), get?_ints hk]
theorem OwnI.frozen {w : World} {g c : Nat} {xs : List Int} (h : OwnI w g c xs) (k : Nat) : w.frozen? ⟨g, k, none⟩ = false := World.ownsRow.frozenAt h k
theorem OwnI.set_ {w : World} {g c : Nat} {xs : List Int} (h : OwnI w g c xs) (k : Nat) (x : Int) : OwnI (w.setCell ⟨g, k, none⟩ (.int .i64 x)) g c (xs.set k x) := by
  have := (World.ownsRow.stored h k (.int .i64 x)).1
  unfold OwnI
  rw [List.length_set, List.map_set]
  exact this
theorem OwnI.block {w w' : World} {g c : Nat} {xs : List Int} (h : OwnI w g c xs) (hb : w'.heap[g]? = w.heap[g]?) : OwnI w' g c xs :=
  own_of_block h fun k hk => by simp [Value.ownBlock] at hk; subst hk; exact hb

theorem OwnI_cong {w : World} {g c : Nat} {xs ys : List Int} (e : xs = ys) (h : OwnI w g c xs) : OwnI w g c ys := e ▸ h
/-- learn's filter: the struct's block b, the weights' block bw, the samples' block bs. -/
structure FiltL (w : World) (b bw cw bs cs : Nat) (rate : Int) (ws hs : List Int) : Prop where
  hb : w.heap[b]? = some (.cells #[.int .i64 rate, .slice (some ⟨bw, 0, none⟩) ws.length cw, .slice (some ⟨bs, 0, none⟩) ws.length cs] 54 (0, 0))
  hw : OwnI w bw cw ws
  hh : OwnI w bs cs hs
  n1 : b ≠ bw
  n2 : b ≠ bs
  n3 : bw ≠ bs
  len : hs.length = ws.length
  lo : 1 ≤ ws.length
  hi : ws.length ≤ 32
  r0 : 0 ≤ rate
  r8 : rate ≤ 8
  wb : ∀ k, k < ws.length → -1048576 ≤ ix ws k ∧ ix ws k ≤ 1048576

theorem FiltL.keep {w w' : World} {b bw cw bs cs : Nat} {rate : Int} {ws hs : List Int} (h : FiltL w b bw cw bs cs rate ws hs) (h1 : w'.heap[b]? = w.heap[b]?) (h2 : w'.heap[bw]? = w.heap[bw]?) (h3 : w'.heap[bs]? = w.heap[bs]?) :
    FiltL w' b bw cw bs cs rate ws hs := { h with hb := h1.trans h.hb, hw := h.hw.block h2, hh := h.hh.block h3 }

/-- the reference's filter: all its blocks from B on. -/
structure FiltR (w : World) (B b : Nat) (rate : Int) (ws hs : List Int) : Prop where
  ex : ∃ gw cw gs cs, w.heap[b]? = some (.cells #[.int .i64 rate, .slice (some ⟨gw, 0, none⟩) ws.length cw, .slice (some ⟨gs, 0, none⟩) ws.length cs] 38 (0, 0)) ∧
    OwnI w gw cw ws ∧ OwnI w gs cs hs ∧ B ≤ gw ∧ B ≤ gs
  hb : B ≤ b
  len : hs.length = ws.length
  lo : 1 ≤ ws.length
  hi : ws.length ≤ 32
  r0 : 0 ≤ rate
  r8 : rate ≤ 8
  wb : ∀ k, k < ws.length → -1048576 ≤ ix ws k ∧ ix ws k ≤ 1048576

def dotTo (ws hs : List Int) : Nat → Int
  | 0 => 0
  | k + 1 => wrap64 (dotTo ws hs k + wrap64 (ix ws k * ix hs k))
def guessP (ws hs : List Int) : Int := nearI (dotTo ws hs ws.length / 65536)

theorem guessL_any {w : World} {b bw cw bs cs : Nat} {rate : Int} {ws hs : List Int} (h : FiltL w b bw cw bs cs rate ws hs) :
    Calls Try.prog 16 #[.pointer (some ⟨b, 0, none⟩)] w fun e w' => e = .returned (.int .i64 (guessP ws hs)) ∧ w = w' := by
  have c0 := cell_of_row w b 0 _ _ _ h.hb
  have c1 := cell_of_row w b 1 _ _ _ h.hb
  have c2 := cell_of_row w b 2 _ _ _ h.hb
  simp at c0 c1 c2
  have hhi := h.hi
  have H := Lib.hid h
  clear h
  go_enter Try.func16, Try.ntmps16
  go_wp2
  go_loop [3, 4, 5, 11] (fun s _ _ i => ∃ k : Nat, k ≤ ws.length ∧ i = .int .i64 k ∧ s = .int .i64 (dotTo ws hs k)) (fun _ _ _ i => ws.length - (intOf i).toNat)
  case atStart => exact ⟨0, Nat.zero_le _, rfl, rfl⟩
  case round =>
    obtain ⟨k, hk, rfl, rfl⟩ := hrel
    by_cases hlt : k < ws.length
    · have d1 := H.out.hw.cell k hlt
      have d2 := H.out.hh.cell k (by rw [H.out.len]; exact hlt)
      go_wp2
      go_round
      case rel => exact ⟨k + 1, by omega, by go_num, rfl⟩
      case measure => simp [intOf]; omega
    · have e : k = ws.length := by omega
      subst e
      go_wp2_with (go_at_call 31; refine (nearL_any _ _).mono ?_; rintro e w' ⟨rfl, rfl⟩)
      go_ret
      exact ⟨rfl, rfl⟩

theorem guessR_any {w : World} {B b : Nat} {rate : Int} {ws hs : List Int} (h : FiltR w B b rate ws hs) :
    Calls Try.prog 17 #[.pointer (some ⟨b, 0, none⟩)] w fun e w' => e = .returned (.int .i64 (guessP ws hs)) ∧ ∃ n, w' = w.drewN n := by
  obtain ⟨gw, cw, gs, cs, hb, hw, hh, _, _⟩ := h.ex
  have c0 := cell_of_row w b 0 _ _ _ hb
  have c1 := cell_of_row w b 1 _ _ _ hb
  have c2 := cell_of_row w b 2 _ _ _ hb
  simp at c0 c1 c2
  have hhi := h.hi
  have hlen := Lib.hid h.len
  clear h hb
  go_enter Try.func17, Try.ntmps17
  go_wp2
  go_loopw [3, 4] (fun s i wr => (∃ k : Nat, k ≤ ws.length ∧ i = .int .i64 k ∧ s = .int .i64 (dotTo ws hs k)) ∧ ∃ n, wr = w.drewN n) (fun _ i _ => ws.length - (intOf i).toNat)
  case atStart => exact ⟨⟨0, Nat.zero_le _, rfl, rfl⟩, 0, rfl⟩
  case round =>
    obtain ⟨⟨k, hk, rfl, rfl⟩, n, rfl⟩ := hrel
    by_cases hlt : k < ws.length
    · have d1 := hw.cell k hlt
      have d2 := hh.cell k (by rw [hlen.out]; exact hlt)
      go_wp2
      go_quiet (fail)
      go_wp2
      go_roundw
      case rel => exact ⟨⟨k + 1, by omega, by go_num, rfl⟩, n + nq, rfl⟩
      case measure => simp [intOf]; omega
    · have e : k = ws.length := by omega
      subst e
      go_wp2_with (go_at_call 32; refine (nearR_any _ _).mono ?_; rintro e w' ⟨rfl, rfl⟩)
      go_ret
      exact ⟨rfl, n, rfl⟩

/-! ### learn's Tell -/
def stepL (rate x g : Int) : Int := if g < x then (2 : Int) ^ rate.toNat else if x < g then -((2 : Int) ^ rate.toNat) else 0
theorem pow8 {r : Nat} (h : r ≤ 8) : 1 ≤ (2 : Int) ^ r ∧ (2 : Int) ^ r ≤ 256 := by
  rcases r with _ | _ | _ | _ | _ | _ | _ | _ | _ | r <;> first | omega | decide
theorem stepL_b {rate x g : Int} (h1 : 1 ≤ (2 : Int) ^ rate.toNat) (h2 : (2 : Int) ^ rate.toNat ≤ 256) : -256 ≤ stepL rate x g ∧ stepL rate x g ≤ 256 := by
  unfold stepL
  (repeat' split) <;> omega
def updL (st w s : Int) : Int := min (max (if 0 < s then w + st else if s < 0 then w - st else w) (-1048576)) 1048576
def updTo (st : Int) (ws hs : List Int) (k : Nat) : List Int := (List.range ws.length).map fun i => if i < k then updL st (ix ws i) (ix hs i) else ix ws i

theorem updTo_len (st : Int) (ws hs : List Int) (k : Nat) : (updTo st ws hs k).length = ws.length := by simp [updTo]
theorem updTo_ix (st : Int) (ws hs : List Int) (k i : Nat) (hi : i < ws.length) : ix (updTo st ws hs k) i = if i < k then updL st (ix ws i) (ix hs i) else ix ws i := by
  unfold updTo; rw [ix_map_range _ _ _ hi]
theorem updTo_zero (st : Int) (ws hs : List Int) : updTo st ws hs 0 = ws :=
  ix_ext _ _ (updTo_len ..) fun k hk => by rw [updTo_ix _ _ _ _ _ (by rwa [updTo_len] at hk), if_neg (by omega)]
theorem updTo_set {st : Int} {ws hs : List Int} {k : Nat} (hk : k < ws.length) {v : Int} (hv : v = updL st (ix ws k) (ix hs k)) : (updTo st ws hs k).set k v = updTo st ws hs (k + 1) := by
  subst hv
  refine ix_ext _ _ (by simp [updTo_len]) fun i hi => ?_
  have hi' : i < ws.length := by simpa [updTo_len] using hi
  rw [ix_set _ _ _ _ (by rw [updTo_len]; exact hk), updTo_ix _ _ _ _ _ hi', updTo_ix _ _ _ _ _ hi']
  by_cases e : i = k
  · subst e; simp
  · rw [if_neg e]
    by_cases h : i < k
    · rw [if_pos h, if_pos (by omega)]
    · rw [if_neg h, if_neg (by omega)]
theorem clamp_if (v lo hi : Int) : (if hi < if v < lo then lo else v then hi else if v < lo then lo else v) = min (max v lo) hi := by
  by_cases h : v < lo
  · simp only [if_pos h]; split <;> omega
  · simp only [if_neg h]; split <;> omega
theorem updL_pos {st w s : Int} (h : 0 < s) : updL st w s = min (max (w + st) (-1048576)) 1048576 := by unfold updL; rw [if_pos h]
theorem updL_neg {st w s : Int} (h : s < 0) : updL st w s = min (max (w - st) (-1048576)) 1048576 := by unfold updL; rw [if_neg (by omega), if_pos h]
theorem updL_0 {st w s : Int} (h : ¬ 0 < s) (h' : ¬ s < 0) (h1 : -1048576 ≤ w) (h2 : w ≤ 1048576) : updL st w s = w := by unfold updL; rw [if_neg h, if_neg h']; omega
theorem updL_b (st w s : Int) : -1048576 ≤ updL st w s ∧ updL st w s ≤ 1048576 := by unfold updL; omega
theorem tellL_any {w : World} {b bw cw bs cs : Nat} {rate : Int} {ws hs : List Int} (h : FiltL w b bw cw bs cs rate ws hs) (x : Int) :
    Calls Try.prog 14 #[.pointer (some ⟨b, 0, none⟩), .int .i64 x] w fun e w' => e = .returned (.tuple #[]) ∧
      FiltL w' b bw cw bs cs rate (updTo (stepL rate (nearI x) (guessP ws hs)) ws hs ws.length) (nearI x :: hs.take (ws.length - 1)) ∧ Kp (fun k => k = b ∨ k = bw ∨ k = bs) w w' := by
  have c0 := cell_of_row w b 0 _ _ _ h.hb
  have c1 := cell_of_row w b 1 _ _ _ h.hb
  have c2 := cell_of_row w b 2 _ _ _ h.hb
  simp at c0 c1 c2
  have hhi := h.hi
  have hr0 := h.r0
  have hr8 := h.r8
  have hx := nearI_wide x
  have hg : -1073741824 ≤ guessP ws hs ∧ guessP ws hs ≤ 1073741823 := nearI_wide _
  go_enter Try.func14, Try.ntmps14
  have hp1 := pow8 (r := rate.toNat) (by omega)
  have hstb := stepL_b (rate := rate) (x := nearI x) (g := guessP ws hs) hp1.1 hp1.2
  obtain ⟨hp2, hp3⟩ := hp1
  obtain ⟨hx1, hx2⟩ := hx
  obtain ⟨hg1, hg2⟩ := hg
  go_upto_block 0 with (first | (go_at_call 31; refine (nearL_any _ _).mono ?_; rintro e w' ⟨rfl, rfl⟩) | (go_at_call 16; refine (guessL_any h).mono ?_; rintro e w' ⟨rfl, rfl⟩))
  go_cut [4] (fun s4 wx => s4 = .int .i64 (stepL rate (nearI x) (guessP ws hs)) ∧ w = wx)
  case first =>
    go_wp2
    all_goals go_meet
    all_goals refine ⟨congrArg (Value.int .i64) ?_, rfl⟩
    · have h1 : guessP ws hs < nearI x := by assumption
      unfold stepL
      rw [if_pos h1]
    · have h1 : nearI x ≤ guessP ws hs := by assumption
      have h2 : nearI x < guessP ws hs := by assumption
      unfold stepL
      rw [if_neg (by omega), if_pos h2]
    · have h1 : nearI x ≤ guessP ws hs := by assumption
      have h2 : guessP ws hs ≤ nearI x := by assumption
      unfold stepL
      rw [if_neg (by omega), if_neg (by omega)]
  case rest =>
    obtain ⟨rfl, rfl⟩ := hcut
    obtain ⟨hst1, hst2⟩ := hstb
    clear hp2 hp3 hg1 hg2
    go_wp2
    go_loopw [6, 7, 8, 37] (fun _ _ _ i wr => (∃ k : Nat, k ≤ ws.length ∧ i = .int .i64 k ∧ OwnI wr bw cw (updTo (stepL rate (nearI x) (guessP ws hs)) ws hs k)) ∧ wr.heap[b]? = w.heap[b]? ∧ wr.heap[bs]? = w.heap[bs]? ∧ Kp (fun k => k = b ∨ k = bw ∨ k = bs) w wr)
      (fun _ _ _ i _ => ws.length - (intOf i).toNat)
    case atStart => exact ⟨⟨0, Nat.zero_le _, rfl, by rw [updTo_zero]; exact h.hw⟩, rfl, rfl, Kp.refl _ _⟩
    case round =>
      obtain ⟨⟨k, hk, rfl, ho⟩, e1, e2, hkp⟩ := hrel
      have c0 := cell_of_row wr b 0 _ _ _ (e1.trans h.hb)
      have c1 := cell_of_row wr b 1 _ _ _ (e1.trans h.hb)
      have c2 := cell_of_row wr b 2 _ _ _ (e1.trans h.hb)
      simp at c0 c1 c2
      have H := Lib.hid h
      have HE1 := Lib.hid e1
      have HE2 := Lib.hid e2
      clear h e1 e2
      by_cases hlt : k < ws.length
      · have d1 := ho.cell k (by rw [updTo_len]; exact hlt)
        rw [updTo_ix _ _ _ _ _ hlt, if_neg (by omega)] at d1
        have d2 := (H.out.hh.block HE2.out).cell k (by rw [H.out.len]; exact hlt)
        have d3 := ho.frozen k
        obtain ⟨b1, b2⟩ := H.out.wb k hlt
        go_wp2
        · go_roundw
          case rel =>
            refine ⟨⟨k + 1, by omega, by go_num, OwnI_cong (updTo_set hlt ?_) (ho.set_ k _)⟩, ?_, ?_, ?_⟩
            · rw [clamp_if, updL_pos (by assumption)]
            · exact (Below.heap_setCell _ _ _ _ H.out.n1).trans HE1.out
            · exact (Below.heap_setCell _ _ _ _ (Ne.symm H.out.n3)).trans HE2.out
            · exact hkp.set_ (.inr (.inl rfl)) _
          case measure => simp [intOf]; omega
        · go_roundw
          case rel =>
            refine ⟨⟨k + 1, by omega, by go_num, OwnI_cong (updTo_set hlt ?_) (ho.set_ k _)⟩, ?_, ?_, ?_⟩
            · rw [clamp_if, updL_neg (by assumption)]
            · exact (Below.heap_setCell _ _ _ _ H.out.n1).trans HE1.out
            · exact (Below.heap_setCell _ _ _ _ (Ne.symm H.out.n3)).trans HE2.out
            · exact hkp.set_ (.inr (.inl rfl)) _
          case measure => simp [intOf]; omega
        · go_roundw
          case rel =>
            refine ⟨⟨k + 1, by omega, by go_num, OwnI_cong (updTo_set hlt ?_) (ho.set_ k _)⟩, ?_, ?_, ?_⟩
            · have g1 : ix hs k ≤ 0 := by assumption
              have g2 : 0 ≤ ix hs k := by assumption
              rw [updL_0 (by omega) (by omega) b1 b2]
            · exact (Below.heap_setCell _ _ _ _ H.out.n1).trans HE1.out
            · exact (Below.heap_setCell _ _ _ _ (Ne.symm H.out.n3)).trans HE2.out
            · exact hkp.set_ (.inr (.inl rfl)) _
          case measure => simp [intOf]; omega
      · have e : k = ws.length := by omega
        subst e
        have hlo := H.out.lo
        have hloI : (1 : Int) ≤ (ws.length : Int) := by omega
        obtain ⟨cur, q1, q2, q3, q4, q5, q6, _⟩ := own_open (H.out.hh.block HE2.out)
        rw [H.out.len] at q3 q5 q6
        obtain ⟨hsm, hhsm⟩ : ∃ l : List Value, l = (hs.take (ws.length - 1)).map (Value.int .i64) := ⟨_, rfl⟩
        have hl : hsm.length = ws.length - 1 := by rw [hhsm]; have := H.out.len; simp; omega
        have P1 : Hid (hsm.length = Nat.min ws.length (ws.length - 1)) := by show _ = _; rw [hl]; exact (Nat.min_eq_right (by omega)).symm
        have P2 : Hid (0 < hsm.length → (if cs = 1 then some (⟨bs, 0, none⟩ : Addr) else some ⟨bs, 1, none⟩) = some ⟨bs, 1, none⟩ ∧ ∃ ad, some (⟨bs, 0, none⟩ : Addr) = some ad ∧ ∀ j v, hsm[j]? = some v → wr.cell? (ad.add j) = some v) := by
          intro h0
          rw [hl] at h0
          refine ⟨by rw [if_neg (by omega)], _, rfl, fun j v hj => ?_⟩
          have hjl : j < ws.length - 1 := by have := (List.getElem?_eq_some_iff.1 hj).1; omega
          have hc := (H.out.hh.block HE2.out).cell j (by rw [H.out.len]; omega)
          rw [hhsm, List.getElem?_map, List.getElem?_take, if_pos hjl, ix_get? (xs := hs) (k := j) (by rw [H.out.len]; omega)] at hj
          simp at hj
          subst hj
          simp only [Addr.add]
          split
          · rename_i e; subst e; exact hc
          · rw [Nat.zero_add]; exact hc
        have P3 : Hid (1 + hsm.length ≤ cur.length) := by show _ ≤ _; omega
        have P4 : Hid (∀ v ∈ hsm, v.oneCell' = true) := by rw [hhsm]; exact oneCell_ints _ _
        have P5 : Hid (∀ u : Value, ((splice cur 1 hsm).set 0 u).take ws.length = u :: hsm) := by
          intro u
          cases cur with
          | nil => simp at q2; omega
          | cons a l =>
            simp only [splice, List.take_succ_cons, List.take_zero, List.cons_append, List.nil_append, List.set_cons_zero]
            obtain ⟨m, hm⟩ : ∃ m, ws.length = m + 1 := ⟨ws.length - 1, by omega⟩
            rw [hm] at hl ⊢
            simp only [List.take_succ_cons]
            rw [List.take_left' (by omega)]
        have P6 : Hid ((nearI x :: hs.take (ws.length - 1)).map (Value.int .i64) = .int .i64 (nearI x) :: hsm) := by rw [hhsm]; rfl
        have P7 : Hid ((splice cur 1 hsm).length = cs) := by rw [length_splice _ _ _ P3.out]; exact q2
        have P8 : Hid ((nearI x :: hs.take (ws.length - 1)).length = ws.length) := by have := H.out.len; show _ = _; simp only [List.length_cons, List.length_take]; omega
        clear hhsm hl q2 q5 q6
        have hq1 := Lib.hid q1
        clear q1
        by_cases hcs : cs = 1
        · subst hcs
          go_wp2
          go_still_tail 9, (by kernel_rfl)
          refine wpList_cpy rfl (.tmp 73) (.tmp 77) 24 24 rfl 3 Try.underlying24 (by kernel_rfl) _ _ _ _ _ _ rfl rfl bs 1 cur 3 hq1.out hsm (by rw [P1.out, show ws.length = 1 from by omega]) (fun h => ⟨by have := (P2.out h).1; simp at this, (P2.out h).2⟩) P3.out P4.out ?_
          intro w4 hg4 hk4
          have m0 : w4.heap[b]? = wr.heap[b]? := hk4.block b (block_lt_of_cell c0) (by simpa using H.out.n2)
          have c2 := cell_of_row w4 b 2 _ _ _ (m0.trans (HE1.out.trans H.out.hb))
          have s0 : w4.cell? ⟨bs, 0, none⟩ = some ((splice cur 1 hsm).getD 0 undef) := by
            rw [cell_of_row w4 bs 0 _ _ _ hg4.out]
            have := P7.out
            simp
            rw [List.getElem?_eq_getElem (by omega)]; rfl
          have s1 := frozen_of_row w4 bs 0 _ _ hg4.out
          simp at c2
          have hm0 := Lib.hid m0
          clear c0 c1 m0
          go_wp2
          go_end0
          have G1 : bs ≠ b := Ne.symm H.out.n2
          have G2 : bs ≠ bw := Ne.symm H.out.n3
          have hbwlt : bw < wr.heap.size := (ho.lt bw (by simp [Value.ownBlock])).2
          refine ⟨rfl, ⟨?_, ?_, ?_, H.out.n1, H.out.n2, H.out.n3, ?_, ?_, ?_, H.out.r0, H.out.r8, ?_⟩, ?_⟩
          · rw [updTo_len]
            exact (Below.heap_setCell _ _ _ _ (Ne.symm G1)).trans (hm0.out.trans (HE1.out.trans H.out.hb))
          · exact ho.block ((Below.heap_setCell _ _ _ _ (Ne.symm G2)).trans (hk4.block bw hbwlt (by simpa using Ne.symm G2)))
          · unfold OwnI
            rw [P6.out, P8.out]
            refine own_shut (cur := (splice cur 1 hsm).set 0 (.int .i64 (nearI x))) ?_ (by simpa using P7.out) q3 q4 (P5.out _) (Nat.zero_le _)
            rw [heap_setCell_same w4 bs 0 _ _ _ hg4.out]
            simp
          · rw [updTo_len]; exact P8.out
          · rw [updTo_len]; exact hlo
          · rw [updTo_len]; exact hhi
          · intro k hk'
            rw [updTo_len] at hk'
            rw [updTo_ix _ _ _ _ _ hk', if_pos hk']
            exact updL_b _ _ _
          · exact ((hkp.drew).grown hk4 (fun k hk => by injection hk with hk; exact .inr (.inr hk.symm))).set_ (.inr (.inr rfl)) _
        · go_wp2
          go_still_tail 9, (by kernel_rfl)
          refine wpList_cpy rfl (.tmp 73) (.tmp 77) 24 24 rfl 3 Try.underlying24 (by kernel_rfl) _ _ (ws.length - 1) (cs - 1) ws.length cs rfl rfl bs 1 cur 3 hq1.out hsm P1.out (fun h => ⟨rfl, (P2.out h).2⟩) P3.out P4.out ?_
          intro w4 hg4 hk4
          have m0 : w4.heap[b]? = wr.heap[b]? := hk4.block b (block_lt_of_cell c0) (by simpa using H.out.n2)
          have c2 := cell_of_row w4 b 2 _ _ _ (m0.trans (HE1.out.trans H.out.hb))
          have s0 : w4.cell? ⟨bs, 0, none⟩ = some ((splice cur 1 hsm).getD 0 undef) := by
            rw [cell_of_row w4 bs 0 _ _ _ hg4.out]
            have := P7.out
            simp
            rw [List.getElem?_eq_getElem (by omega)]; rfl
          have s1 := frozen_of_row w4 bs 0 _ _ hg4.out
          simp at c2
          have hm0 := Lib.hid m0
          clear c0 c1 m0
          go_wp2
          go_end0
          have G1 : bs ≠ b := Ne.symm H.out.n2
          have G2 : bs ≠ bw := Ne.symm H.out.n3
          have hbwlt : bw < wr.heap.size := (ho.lt bw (by simp [Value.ownBlock])).2
          refine ⟨rfl, ⟨?_, ?_, ?_, H.out.n1, H.out.n2, H.out.n3, ?_, ?_, ?_, H.out.r0, H.out.r8, ?_⟩, ?_⟩
          · rw [updTo_len]
            exact (Below.heap_setCell _ _ _ _ (Ne.symm G1)).trans (hm0.out.trans (HE1.out.trans H.out.hb))
          · exact ho.block ((Below.heap_setCell _ _ _ _ (Ne.symm G2)).trans (hk4.block bw hbwlt (by simpa using Ne.symm G2)))
          · unfold OwnI
            rw [P6.out, P8.out]
            refine own_shut (cur := (splice cur 1 hsm).set 0 (.int .i64 (nearI x))) ?_ (by simpa using P7.out) q3 q4 (P5.out _) (Nat.zero_le _)
            rw [heap_setCell_same w4 bs 0 _ _ _ hg4.out]
            simp
          · rw [updTo_len]; exact P8.out
          · rw [updTo_len]; exact hlo
          · rw [updTo_len]; exact hhi
          · intro k hk'
            rw [updTo_len] at hk'
            rw [updTo_ix _ _ _ _ _ hk', if_pos hk']
            exact updL_b _ _ _
          · exact ((hkp.drew).grown hk4 (fun k hk => by injection hk with hk; exact .inr (.inr hk.symm))).set_ (.inr (.inr rfl)) _
end Go.Proofs.Ytjhmmbejpdibhaa
