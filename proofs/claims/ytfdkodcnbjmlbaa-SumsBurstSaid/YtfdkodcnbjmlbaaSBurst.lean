/-
  SumsBurst: the walks of turned and of the law.
-/
import Derived.Test.YtfdkodcnbjmlbaaProg
import Derived.Test.YtfdkodcnbjmlbaaSBu
namespace Go.Proofs.Ytfdkodcnbjmlbaa
open Go.RowKit

theorem bit_u32 {b j : Nat} (hb : b < 4294967296) : bits .and .u32 ((b : Int) / 2 ^ j) 1 = ((b / 2 ^ j % 2 : Nat) : Int) := by
  have h2 : (b : Int) / 2 ^ j = ((b / 2 ^ j : Nat) : Int) := by rw [Int.natCast_ediv]; simp
  have h3 : b / 2 ^ j ≤ b := Nat.div_le_self _ _
  rw [h2]
  generalize b / 2 ^ j = q at *
  rw [u32_and _ _ (by omega) (by omega) (by omega) (by omega)]
  show ((q &&& 1 : Nat) : Int) = _
  rw [Nat.and_one_is_mod]
theorem two_mod (high : Bool) (k : Nat) : (2 : Int) ^ bpos high k % 256 = 2 ^ bpos high k := by
  have := two_b (bpos_lt high k)
  omega
def TurnQ (n : Nat) (l : List Int) (s : Bool) (w : World) (e : Ending) (w' : World) : Prop := ∃ A c, e = .returned (.tuple #[.slice A n c, .bool s]) ∧ OwnB w' w.heap.size A n c l ∧ Below w.heap.size w w'

set_option maxHeartbeats 2000000 in
theorem turned_any (high : Bool) (l : List Int) (hb : Byt l) (n : Nat) (hn : n = l.length) (hm : n ≤ 300) (a y m : Nat) (ha8 : a < 8 * n) (hy : y < 4294967296) (hm32 : m ≤ 32) (A : Option Addr) (c : Nat) (w : World) (ha : Ints .u8 w w.heap.size A l) :
    Calls Try.prog 24 #[.slice A n c, .int .i64 a, .int .u32 y, .int .i64 m, .bool high] w (TurnQ n (turnTo high l a y m) (someTo l a y m) w) := by
  have nI : (n : Int) ≤ 300 := by omega
  have aI : (a : Int) < 8 * (n : Int) := by omega
  have mI : (m : Int) ≤ 32 := by omega
  have Hb := Lib.hid hb
  have Hn := Lib.hid hn
  have Hy := Lib.hid hy
  clear hb hn hy
  go_enter Try.func24, Try.ntmps24
  go_wp2_with (at_builtin; refine app_b0 _ rfl (.tmp 17) (.tmp 18) rfl w _ _ rfl (own_emptyB w) _ A n c l rfl Hn.out.symm (ha.below (bal (brefl w) _)) (by omega) (bal (brefl w) _) ?_; intro A2 c2 w2 ho2 hb2)
  obtain ⟨g, rfl, hg1, hg2⟩ := ownB_addr ho2 (by omega)
  have ho2' := Lib.hid ho2
  have hb2' := Lib.hid hb2
  clear ho2 hb2 hg2
  go_loopw [13, 14] (fun sv iv wr => (∃ i : Nat, i ≤ m ∧ iv = .int .i64 i ∧ sv = .bool (someTo l a y i) ∧ OwnB wr w.heap.size (some ⟨g, 0, none⟩) n c2 (turnTo high l a y i)) ∧ Below w.heap.size w wr) (fun _ iv _ => m - (intOf iv).toNat)
  case atStart => exact ⟨⟨0, Nat.zero_le _, rfl, rfl, ho2'.out⟩, hb2'.out⟩
  case round =>
    obtain ⟨⟨i, hi, rfl, rfl, ho⟩, hbl⟩ := hrel
    obtain ⟨wo, rfl⟩ : ∃ wo : World, wo = wr := ⟨_, rfl⟩
    have ho' := Lib.hid ho
    have hbl' := Lib.hid hbl
    clear ho hbl
    by_cases hlt : i < m
    · by_cases hin : a + i < 8 * n
      · have hinI : (a : Int) + (i : Int) < 8 * (n : Int) := by omega
        have hbt := bit_u32 (b := y) (j := i) Hy.out
        by_cases hbit : y / 2 ^ i % 2 = 1
        · rw [hbit, show ((1 : Nat) : Int) = 1 from rfl] at hbt
          have hhit : Hid (hit l a y i = true) := by show _ = _; simp [hit, hbit, ← Hn.out]; exact hin
          have hq : (a + i) / 8 < n := by omega
          have d1 := ownB_cell ho'.out hq
          have d2 := World.ownsRow.frozenAt ho'.out ((a + i) / 8)
          obtain ⟨x, hx⟩ : ∃ x, x = ix (turnTo high l a y i) ((a + i) / 8) := ⟨_, rfl⟩
          rw [← hx] at d1
          have Hx := Lib.hid hx
          clear hx
          cases high with
          | true =>
            go_wp2_with fail
            go_roundw
            case rel =>
              refine ⟨⟨i + 1, by omega, by go_num, by rw [some_yes hhit.out], ?_⟩, hbl'.out.setCell (p := ⟨g, (a + i) / 8, none⟩) hg1 _⟩
              rw [turn_yes hhit.out]
              unfold flipAt
              rw [← Hx.out, show (2 : Int) ^ bpos true (a + i) = 2 ^ (7 - (a + i) % 8) % 256 from (two_mod true (a + i)).symm]
              exact ownB_set ho'.out _ _
            case measure => simp [intOf]; omega
          | false =>
            go_wp2_with fail
            go_roundw
            case rel =>
              refine ⟨⟨i + 1, by omega, by go_num, by rw [some_yes hhit.out], ?_⟩, hbl'.out.setCell (p := ⟨g, (a + i) / 8, none⟩) hg1 _⟩
              rw [turn_yes hhit.out]
              unfold flipAt
              rw [← Hx.out, show (2 : Int) ^ bpos false (a + i) = 2 ^ ((a + i) % 8) % 256 from (two_mod false (a + i)).symm]
              exact ownB_set ho'.out _ _
            case measure => simp [intOf]; omega
        · have hb0 : y / 2 ^ i % 2 = 0 := by omega
          rw [hb0, show ((0 : Nat) : Int) = 0 from rfl] at hbt
          have hhit : Hid (hit l a y i = false) := by show _ = _; simp [hit, hb0]
          clear hbit hb0
          go_wp2_with fail
          go_roundw
          case rel => exact ⟨⟨i + 1, by omega, by go_num, by rw [some_no hhit.out], by rw [turn_no hhit.out]; exact ho'.out⟩, hbl'.out⟩
          case measure => simp [intOf]; omega
      · have hinI : 8 * (n : Int) ≤ (a : Int) + (i : Int) := by omega
        have hst := Lib.hid (turn_stop (high := high) (l := l) (a := a) (y := y) (i := i) (by rw [← Hn.out]; omega) m hi)
        go_wp2_with fail
        go_ret2
        rw [hst.out.1, hst.out.2]
        exact ⟨_, c2, rfl, ho'.out, hbl'.out⟩
    · have e : i = m := by omega
      subst e
      go_wp2_with fail
      go_ret2
      exact ⟨_, c2, rfl, ho'.out, hbl'.out⟩

theorem turned_at (high : Bool) (l : List Int) (hb : Byt l) (hm : l.length ≤ 300) (a y m : Nat) (mI : Int) (hmI : mI = (m : Int)) (ha8 : a < 8 * l.length) (hy : y < 4294967296) (hm32 : m ≤ 32) (A : Option Addr) (c : Nat) (w : World) (ha : Ints .u8 w w.heap.size A l) :
    Calls Try.prog 24 #[.slice A l.length c, .int .i64 a, .int .u32 y, .int .i64 mI, .bool high] w (TurnQ l.length (turnTo high l a y m) (someTo l a y m) w) := by
  subst hmI
  exact turned_any high l hb _ rfl hm a y m ha8 hy hm32 A c w ha

theorem crc_ne8 {x y : BitVec 8} {b : Bool} (h : (x ≠ y) ↔ b = true) : ((x.toNat : Int) != (y.toNat : Int)) = b := by
  cases b with
  | true => have := h.2 rfl; rw [bne_iff_ne]; intro e; exact this (BitVec.eq_of_toNat_eq (by omega))
  | false =>
    have e : x = y := Classical.byContradiction fun hn => by have := h.1 hn; cases this
    rw [e]; simp
theorem crc_ne16 {x y : BitVec 16} {b : Bool} (h : (x ≠ y) ↔ b = true) : ((x.toNat : Int) != (y.toNat : Int)) = b := by
  cases b with
  | true => have := h.2 rfl; rw [bne_iff_ne]; intro e; exact this (BitVec.eq_of_toNat_eq (by omega))
  | false =>
    have e : x = y := Classical.byContradiction fun hn => by have := h.1 hn; cases this
    rw [e]; simp
theorem crc_ne32 {x y : BitVec 32} {b : Bool} (h : (x ≠ y) ↔ b = true) : ((x.toNat : Int) != (y.toNat : Int)) = b := by
  cases b with
  | true => have := h.2 rfl; rw [bne_iff_ne]; intro e; exact this (BitVec.eq_of_toNat_eq (by omega))
  | false =>
    have e : x = y := Classical.byContradiction fun hn => by have := h.1 hn; cases this
    rw [e]; simp
theorem bool_eq (b : Bool) : (b == b) = true := by simp

set_option maxHeartbeats 2000000 in
set_option maxRecDepth 100000 in
theorem burst_any (l : List Int) (_hm : l.length ≤ 9223372036854775807) (A : Option Addr) (c : Nat) (t y : Int) (w : World) (ha : Ints .u8 w w.heap.size A l) (f : Fit .u8 l) (_ft : (Lit.int .i64 t).wf = true) (fy : (Lit.int .u32 y).wf = true) :
    Calls Try.prog 7 #[.slice A l.length c, .int .i64 t, .int .u32 y] w fun e w' => e = .returned (.bool true) ∧ Below w.heap.size w w' := by
  have m3 : IntKind.u32.min = 0 := by decide
  have m4 : IntKind.u32.max = 4294967295 := by decide
  have by_ : 0 ≤ y ∧ y ≤ 4294967295 := by simpa [Lit.wf, m3, m4] using fy
  obtain ⟨y0, y1⟩ := by_
  obtain ⟨u, rfl⟩ := Int.eq_ofNat_of_zero_le y0
  have hu : u < 4294967296 := by omega
  clear fy m3 m4 y0 y1
  by_cases q1 : 300 < l.length
  · have hI : (300 : Int) < (l.length : Int) := by omega
    go_enter Try.func7, Try.ntmps7
    go_wp2_with fail
    (with_reducible refine (known_any _).mono ?_); rintro e w1 ⟨rfl, b1⟩
    go_wp2_with fail
    go_ret
    exact ⟨rfl, b1⟩
  have q1I : (l.length : Int) ≤ 300 := by omega
  by_cases q2 : l.length = 0
  · have hI : ((l.length : Int) == 0) = true := beq_iff_eq.2 (by omega)
    have Hq := Lib.hid q2
    clear q2
    go_enter Try.func7, Try.ntmps7
    go_wp2_with fail
    (with_reducible refine (known_any _).mono ?_); rintro e w1 ⟨rfl, b1⟩
    go_wp2_with fail
    go_ret
    exact ⟨rfl, b1⟩
  have q2I : ((l.length : Int) == 0) = false := beq_eq_false_iff_ne.2 (by omega)
  have hpos : (1 : Int) ≤ (l.length : Int) := by omega
  have hf := Lib.hid (byt_of f)
  obtain ⟨m, hm⟩ : ∃ m : Nat, bits .and .i64 t 65535 = (m : Int) := ⟨(t % 65536).toNat, by rw [and16]; omega⟩
  obtain ⟨k, hk⟩ : ∃ k : Nat, (m : Int) % (8 * (l.length : Int)) = (k : Int) := ⟨m % (8 * l.length), by rw [Int.natCast_emod]; rfl⟩
  have hkl : k < 8 * l.length := by have := Int.emod_lt_of_pos (m : Int) (show (0 : Int) < 8 * l.length by omega); omega
  have e8 := Lib.hid (crc_ne8 (burst8 (y := u) hf.out hkl))
  have e16 := Lib.hid (crc_ne16 (burst16 (y := u) hf.out hkl))
  have e32 := Lib.hid (crc_ne32 (burst32 (y := u) hf.out hkl))
  have b8 := bool_eq (someTo l k u 8)
  have b16 := bool_eq (someTo l k u 16)
  have b32 := bool_eq (someTo l k u 32)
  clear q1 q2
  go_enter Try.func7, Try.ntmps7
  go_wp2_with fail
  (with_reducible refine (known_any _).mono ?_); rintro e w1 ⟨rfl, b1⟩
  have B1 := Lib.hid b1
  clear b1
  go_wp2_with fail
  clear hm
  have t1 := Lib.hid (turned_at true l hf.out (by omega) k u 8 8 rfl hkl hu (by omega) A c w1 ((ha.below B1.out).more B1.out.size))
  (with_reducible refine t1.out.mono ?_); rintro e w2 ⟨R2, r2, rfl, o2, b2⟩
  have B2 := Lib.hid (bth B1.out b2)
  have z2 := Lib.hid o2.ints
  clear o2 b2 t1
  go_wp2_with fail
  have t1 := Lib.hid (turned_at true l hf.out (by omega) k u 16 16 rfl hkl hu (by omega) A c w2 ((ha.below B2.out).more B2.out.size))
  (with_reducible refine t1.out.mono ?_); rintro e w3 ⟨R3, r3, rfl, o3, b3⟩
  have B3 := Lib.hid (bth B2.out b3)
  have z2 := Lib.hid ((z2.out.below b3).more b3.size)
  have z3 := Lib.hid o3.ints
  clear o3 b3 t1
  go_wp2_with fail
  have t1 := Lib.hid (turned_at false l hf.out (by omega) k u 32 32 rfl hkl hu (by omega) A c w3 ((ha.below B3.out).more B3.out.size))
  (with_reducible refine t1.out.mono ?_); rintro e w4 ⟨R4, r4, rfl, o4, b4⟩
  have B4 := Lib.hid (bth B3.out b4)
  have z2 := Lib.hid ((z2.out.below b4).more b4.size)
  have z3 := Lib.hid ((z3.out.below b4).more b4.size)
  have z4 := Lib.hid o4.ints
  have ya := Lib.hid (ha.below B4.out)
  clear o4 b4 t1
  go_wp2_with fail
  (with_reducible refine (eightL_any (turnTo true l k u 8) (turn_byt hf.out _) _ (turn_len _).symm (by omega) _ _ _ _ z2.out).mono ?_); rintro e w' ⟨rfl, rfl⟩
  go_wp2_with fail
  (with_reducible refine (eightL_any l hf.out _ rfl (by omega) _ _ _ _ ya.out).mono ?_); rintro e w' ⟨rfl, rfl⟩
  have t8 := e8.out
  go_wp2_with fail
  clear t8
  (with_reducible refine (sixteenL_any (turnTo true l k u 16) (turn_byt hf.out _) _ (turn_len _).symm (by omega) _ _ _ _ z3.out).mono ?_); rintro e w' ⟨rfl, rfl⟩
  go_wp2_with fail
  (with_reducible refine (sixteenL_any l hf.out _ rfl (by omega) _ _ _ _ ya.out).mono ?_); rintro e w' ⟨rfl, rfl⟩
  have t16 := e16.out
  go_wp2_with fail
  clear t16
  (with_reducible refine (thirtyL_any (turnTo false l k u 32) (turn_byt hf.out _) _ (turn_len _).symm (by omega) _ _ _ _ z4.out).mono ?_); rintro e w' ⟨rfl, rfl⟩
  go_wp2_with fail
  (with_reducible refine (thirtyL_any l hf.out _ rfl (by omega) _ _ _ _ ya.out).mono ?_); rintro e w' ⟨rfl, rfl⟩
  have t32 := e32.out
  go_wp2_with fail
  go_ret
  exact ⟨rfl, B4.out⟩
end Go.Proofs.Ytfdkodcnbjmlbaa
