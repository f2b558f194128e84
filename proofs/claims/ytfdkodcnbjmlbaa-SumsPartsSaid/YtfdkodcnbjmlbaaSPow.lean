/-
  SumsPowers, SumsBehind: the walks of the laws.
-/
import Derived.Test.YtfdkodcnbjmlbaaProg
import Derived.Test.YtfdkodcnbjmlbaaSTell
namespace Go.Proofs.Ytfdkodcnbjmlbaa
open Go.RowKit

theorem and20 (n : Int) : bits .and .i64 n 1048575 = n % 1048576 := i64_mask n 20 (by omega) 1048575 (by decide)
theorem join_pow (m n : Nat) : joinV (powerN m) 0 (n : Int) = powerN (m + n) ∧ joinB (powerN m) 0 (n : Int) = true := by
  have hb : joinB (powerN m) 0 (n : Int) = true := joinB_true.2 ⟨powerN_lt m, by omega, by omega⟩
  refine ⟨?_, hb⟩
  rw [joinV_ok hb, Int.toNat_natCast]
  exact (pwN_add m n).symm

set_option maxHeartbeats 1000000 in
theorem powers_any (m n : Int) (w : World) (_fm : (Lit.int .i64 m).wf = true) (_fn : (Lit.int .i64 n).wf = true) :
    Calls Try.prog 8 #[.int .i64 m, .int .i64 n] w fun e w' => e = .returned (.bool true) ∧ Below w.heap.size w w' := by
  obtain ⟨M, hM⟩ : ∃ M : Nat, bits .and .i64 m 1048575 = (M : Int) := ⟨(m % 1048576).toNat, by rw [and20]; omega⟩
  obtain ⟨N, hN⟩ : ∃ N : Nat, bits .and .i64 n 1048575 = (N : Int) := ⟨(n % 1048576).toNat, by rw [and20]; omega⟩
  have m1 : (M : Int) ≤ 1048575 := by rw [← hM, and20]; omega
  have n1 : (N : Int) ≤ 1048575 := by rw [← hN, and20]; omega
  obtain ⟨j1, j2⟩ := join_pow M N
  obtain ⟨j3, j4⟩ := join_pow N M
  rw [Nat.add_comm N M] at j3
  have J1 := Lib.hid j1
  have J2 := Lib.hid j2
  have J3 := Lib.hid j3
  have J4 := Lib.hid j4
  clear j1 j2 j3 j4
  go_enter Try.func8, Try.ntmps8
  go_wp2_with fail
  (with_reducible refine (known_any _).mono ?_); rintro e w1 ⟨rfl, b1⟩
  have B1 := Lib.hid b1
  clear b1
  go_wp2_with fail
  clear hM hN
  (with_reducible refine (powerL_q _ (by omega) _).mono ?_); rintro e w2 ⟨rfl, b2⟩
  rw [Int.toNat_natCast]
  have B2 := Lib.hid (bth B1.out b2)
  clear b2
  go_wp2_with fail
  have c1 := joinL_any (powerN M) 0 (N : Int) (by omega) w2
  unfold JoinB at c1
  rw [J1.out, J2.out] at c1
  refine c1.mono ?_; rintro e w3 ⟨rfl, b3⟩
  have B3 := Lib.hid (bth B2.out b3)
  clear b3 c1
  go_wp2_with fail
  (with_reducible refine (powerL_q _ (by omega) _).mono ?_); rintro e w4 ⟨rfl, b4⟩
  rw [Int.toNat_natCast]
  have B4 := Lib.hid (bth B3.out b4)
  clear b4
  go_wp2_with fail
  have c2 := joinL_any (powerN N) 0 (M : Int) (by omega) w4
  unfold JoinB at c2
  rw [J3.out, J4.out] at c2
  refine c2.mono ?_; rintro e w5 ⟨rfl, b5⟩
  have B5 := Lib.hid (bth B4.out b5)
  clear b5 c2
  go_wp2_with fail
  (with_reducible refine (powerL_q _ (by omega) _).mono ?_); rintro e w6 ⟨rfl, b6⟩
  rw [show ((M : Int) + (N : Int)).toNat = M + N by omega]
  have B6 := Lib.hid (bth B5.out b6)
  clear b6
  go_wp2_with fail
  go_ret
  exact ⟨rfl, B6.out⟩

/-! ### a sum behind what it is of -/
theorem byte_info : (Try.prog.info? 5).map (fun i => (i.zero, i.size, i.bytes)) = some (some (.int .u8 0), 1, 1) := by kernel_rfl
theorem ofInt_nat8 (s : BitVec 8) : BitVec.ofInt 8 (s.toNat : Int) = s := by
  apply BitVec.eq_of_toNat_eq; rw [ofInt8_toNat (by omega) (by have := s.isLt; omega)]; rfl
theorem behind8_l (l : List Int) : (((crc8 (l ++ [((crc8 l).toNat : Int)])).toNat : Nat) : Int) = 0 := by
  have h := behind8 (bv l)
  have e : bv (l ++ [((crc8 l).toNat : Int)]) = bv l ++ [run8 0 (bv l)] := by rw [bv_append]; simp [bv, ofInt_nat8, crc8]
  unfold crc8 at e ⊢
  rw [e, h]; rfl
theorem ofInt_div (w k : Nat) (s : BitVec w) (hk : s.toNat / 2 ^ k < 256) : BitVec.ofInt 8 ((s.toNat / 2 ^ k : Nat) : Int) = (s >>> k).setWidth 8 := by
  apply BitVec.eq_of_toNat_eq
  rw [BitVec.toNat_setWidth, BitVec.toNat_ushiftRight, Nat.shiftRight_eq_div_pow]
  generalize s.toNat / 2 ^ k = q at *
  rw [ofInt8_toNat (by omega) (by omega), Int.toNat_natCast]; omega
theorem ofInt_mod (w k : Nat) (s : BitVec w) : BitVec.ofInt 8 ((s.toNat / 2 ^ k % 256 : Nat) : Int) = (s >>> k).setWidth 8 := by
  apply BitVec.eq_of_toNat_eq
  rw [BitVec.toNat_setWidth, BitVec.toNat_ushiftRight, Nat.shiftRight_eq_div_pow]
  generalize s.toNat / 2 ^ k = q at *
  rw [ofInt8_toNat (by omega) (by omega), Int.toNat_natCast]
def two16 (s : BitVec 16) : List Int := [(s.toNat : Int) / 256, (s.toNat : Int) % 256]
def four32 (s : BitVec 32) : List Int := [(s.toNat : Int) % 256, (s.toNat : Int) / 256 % 256, (s.toNat : Int) / 65536 % 256, (s.toNat : Int) / 16777216]
theorem bv_two (s : BitVec 16) : bv (two16 s) = [(s >>> 8).setWidth 8, s.setWidth 8] := by
  have hs := s.isLt
  have h1 := ofInt_div 16 8 s (by omega)
  have h2 := ofInt_mod 16 0 s
  simp only [Nat.pow_zero, Nat.div_one, BitVec.ushiftRight_zero] at h2
  unfold two16 bv
  simp only [List.map_cons, List.map_nil]
  rw [← h1, ← h2]
  rfl
theorem bv_four (s : BitVec 32) : bv (four32 s) = [s.setWidth 8, (s >>> 8).setWidth 8, (s >>> 16).setWidth 8, (s >>> 24).setWidth 8] := by
  have hs := s.isLt
  have h1 := ofInt_mod 32 0 s
  have h2 := ofInt_mod 32 8 s
  have h3 := ofInt_mod 32 16 s
  have h4 := ofInt_div 32 24 s (by omega)
  simp only [Nat.pow_zero, Nat.div_one, BitVec.ushiftRight_zero] at h1
  unfold four32 bv
  simp only [List.map_cons, List.map_nil]
  rw [← h1, ← h2, ← h3, ← h4]
  rfl
theorem behind16_l (l : List Int) : (((crc16 (l ++ two16 (crc16 l))).toNat : Nat) : Int) = 0 := by
  have h := behind16 (bv l)
  have e : bv (l ++ two16 (crc16 l)) = bv l ++ [((run16 0 (bv l)) >>> 8).setWidth 8, (run16 0 (bv l)).setWidth 8] := by rw [bv_append, bv_two]; rfl
  unfold crc16 at e ⊢
  rw [e, h]; rfl
theorem behind32_l (l : List Int) : (((crc32 (l ++ four32 (crc32 l))).toNat : Nat) : Int) = 558161692 := by
  have h := behind32 (bv l) (run32 0xffffffff#32 (bv l)) (crc32 l) rfl rfl
  have e : bv (l ++ four32 (crc32 l)) = bv l ++ [(crc32 l).setWidth 8, ((crc32 l) >>> 8).setWidth 8, ((crc32 l) >>> 16).setWidth 8, ((crc32 l) >>> 24).setWidth 8] := by rw [bv_append, bv_four]
  rw [show crc32 (l ++ four32 (crc32 l)) = ~~~ (run32 0xffffffff#32 (bv (l ++ four32 (crc32 l)))) from rfl, e, h]; rfl
theorem byt_two (s : BitVec 16) : Byt (two16 s) := by
  have hs := s.isLt
  intro x hx; simp only [two16, List.mem_cons, List.not_mem_nil, or_false] at hx; rcases hx with rfl | rfl <;> omega
theorem byt_four (s : BitVec 32) : Byt (four32 s) := by
  have hs := s.isLt
  intro x hx; simp only [four32, List.mem_cons, List.not_mem_nil, or_false] at hx; rcases hx with rfl | rfl | rfl | rfl <;> omega
theorem byt_s8 (s : BitVec 8) : Byt [(s.toNat : Int)] := by
  have hs := s.isLt
  intro x hx; simp only [List.mem_cons, List.not_mem_nil, or_false] at hx; subst hx; omega

/-- a row of bytes of the call's own. -/
def OwnB (w : World) (B : Nat) (A : Option Addr) (n c : Nat) (l : List Int) : Prop := w.ownsRow B 5 1 (.slice A n c) n (l.map (.int .u8))
theorem own_emptyB (w : World) : OwnB (w.alloc (.cells #[] 5)) w.heap.size (some ⟨w.heap.size, 0, none⟩) 0 0 [] := own_empty w _ _
theorem OwnB.ints {w : World} {B : Nat} {A : Option Addr} {n c : Nat} {l : List Int} (h : OwnB w B A n c l) : Ints .u8 w w.heap.size A l := own_ints h
theorem OwnB.base {w : World} {B B' : Nat} {A : Option Addr} {n c : Nat} {l : List Int} (h : OwnB w B A n c l) (hB : B' ≤ B) : OwnB w B' A n c l := own_base h hB
theorem OwnB.alloc {w : World} {B : Nat} {A : Option Addr} {n c : Nat} {l : List Int} (h : OwnB w B A n c l) (o : Obj) : OwnB (w.alloc o) B A n c l := World.ownsRow.alloc h o
theorem OwnB.below {w w' : World} {B B1 : Nat} {A : Option Addr} {n c : Nat} {l : List Int} (h : OwnB w B A n c l) (hb : Below B1 w w') (hB : w.heap.size ≤ B1) : OwnB w' B A n c l := own_below h hb hB

/-- append of bytes to a row of the call's own (from W0's size on). -/
theorem app_b {ops : Array Oper} {rest : List Oper} {o : Oper} {a : Act} {Q : Exit → Act → World → Prop} (w : World) (hgd : o.guard = none) (s x : Operand)
    (ho : o.op = .call { callee := .builtin .append, args := #[s, x], argTypes := #[22, 22] }) (W0 : World) (A1 : Option Addr) (n c1 : Nat) (xs : List Int) (hs : a.eval s = .slice A1 n c1) (hown : OwnB w W0.heap.size A1 n c1 xs)
    (B1 : Nat) (A : Option Addr) (m c : Nat) (news : List Int) (hx : a.eval x = .slice A m c) (hl : news.length = m) (hr : Ints .u8 w B1 A news) (hsz : n + m ≤ 100000) (hb : Below W0.heap.size W0 w)
    (h : ∀ A' c' w', OwnB w' W0.heap.size A' (n + m) c' (xs ++ news) → Below W0.heap.size W0 w' → wpList Try.prog ops Q rest (a.put o.dst (.slice A' (n + m) c')) w') : wpList Try.prog ops Q (o :: rest) a w := by
  obtain ⟨i0, hi0, hz0, hz1, hz2⟩ := info_parts byte_info
  refine wpList_app w hgd s x 22 ho W0.heap.size 5 i0 _ 1 1 Try.underlying22 hi0 hz0 hz1 hz2 rfl (by omega) _ n _ hs hown B1 A m c (news.map (Value.int .u8)) hx (by simpa using hl) hr (oneCell_ints _ _) (by simp only [maxLen]; omega) (by omega) hb.size fun A' c' w' h2 h3 _ => h A' c' w' ?_ (below_app hb hown h3 hb.size)
  unfold OwnB
  rw [List.map_append]
  exact h2
theorem app_b0 {ops : Array Oper} {rest : List Oper} {o : Oper} {a : Act} {Q : Exit → Act → World → Prop} (w : World) (hgd : o.guard = none) (s x : Operand)
    (ho : o.op = .call { callee := .builtin .append, args := #[s, x], argTypes := #[22, 22] }) (W0 : World) (A1 : Option Addr) (c1 : Nat) (hs : a.eval s = .slice A1 0 c1) (hown : OwnB w W0.heap.size A1 0 c1 [])
    (B1 : Nat) (A : Option Addr) (m c : Nat) (news : List Int) (hx : a.eval x = .slice A m c) (hl : news.length = m) (hr : Ints .u8 w B1 A news) (hsz : m ≤ 100000) (hb : Below W0.heap.size W0 w)
    (h : ∀ A' c' w', OwnB w' W0.heap.size A' m c' news → Below W0.heap.size W0 w' → wpList Try.prog ops Q rest (a.put o.dst (.slice A' m c')) w') : wpList Try.prog ops Q (o :: rest) a w := by
  refine app_b w hgd s x ho W0 A1 0 c1 [] hs hown B1 A m c news hx hl hr (by omega) hb fun A' c' w' h1 h2 => ?_
  rw [Nat.zero_add] at h1 ⊢
  exact h A' c' w' h1 h2

set_option maxHeartbeats 2000000 in
set_option maxRecDepth 100000 in
theorem behind_any (l : List Int) (_hm : l.length ≤ 9223372036854775807) (A : Option Addr) (c : Nat) (w : World) (ha : Ints .u8 w w.heap.size A l) (f : Fit .u8 l) :
    Calls Try.prog 9 #[.slice A l.length c] w fun e w' => e = .returned (.bool true) ∧ Below w.heap.size w w' := by
  by_cases q1 : 500 < l.length
  · have hI : (500 : Int) < (l.length : Int) := by omega
    go_enter Try.func9, Try.ntmps9
    go_wp2_with fail
    (with_reducible refine (known_any _).mono ?_); rintro e w1 ⟨rfl, b1⟩
    go_wp2_with fail
    go_ret
    exact ⟨rfl, b1⟩
  have q1I : (l.length : Int) ≤ 500 := by omega
  clear q1
  have hf := Lib.hid (byt_of f)
  obtain ⟨i0, hi0, hz0, hz1, hz2⟩ := info_parts byte_info
  obtain ⟨x8, h8⟩ : ∃ x, x = crc8 l := ⟨_, rfl⟩
  obtain ⟨x16, h16⟩ : ∃ x, x = crc16 l := ⟨_, rfl⟩
  obtain ⟨x32, h32⟩ : ∃ x, x = crc32 l := ⟨_, rfl⟩
  have e8 := Lib.hid (behind8_l l)
  have e16 := Lib.hid (behind16_l l)
  have e32 := Lib.hid (behind32_l l)
  rw [← h8] at e8
  rw [← h16] at e16
  rw [← h32] at e32
  have s8 := Lib.hid (byt_s8 x8)
  have s16 := Lib.hid (byt_two x16)
  have s32 := Lib.hid (byt_four x32)
  have H8 := Lib.hid h8
  have H16 := Lib.hid h16
  have H32 := Lib.hid h32
  clear h8 h16 h32
  have b8 : (x8.toNat : Int) ≤ 255 := by have := x8.isLt; omega
  have b16 : (x16.toNat : Int) ≤ 65535 := by have := x16.isLt; omega
  have b32 : (x32.toNat : Int) ≤ 4294967295 := by have := x32.isLt; omega
  go_enter Try.func9, Try.ntmps9
  go_wp2_with fail
  (with_reducible refine (known_any _).mono ?_); rintro e w1 ⟨rfl, b1⟩
  have ha1 := Lib.hid ((ha.below b1).more b1.size)
  have B1 := Lib.hid b1
  clear b1
  go_wp2_with fail
  (with_reducible refine (eightL_any l hf.out _ rfl (by omega) _ _ _ _ ha1.out).mono ?_); rintro e w' ⟨rfl, rfl⟩
  rw [← H8.out]
  go_wp2_with fail
  (with_reducible refine (sixteenL_any l hf.out _ rfl (by omega) _ _ _ _ ha1.out).mono ?_); rintro e w' ⟨rfl, rfl⟩
  rw [← H16.out]
  go_wp2_with fail
  (with_reducible refine (thirtyL_any l hf.out _ rfl (by omega) _ _ _ _ ha1.out).mono ?_); rintro e w' ⟨rfl, rfl⟩
  rw [← H32.out]
  go_wp2_with (first
    | (at_builtin; refine app_b0 _ rfl (.tmp 20) (.tmp 21) rfl w1 _ _ rfl (own_emptyB w1) _ A l.length c l rfl rfl (ha1.out.below (bal (brefl w1) _)) (by omega) (bal (brefl w1) _) ?_; intro A2 c2 w2 ho2 hb2)
    | (at_builtin; refine app_b _ rfl (.tmp 22) (.tmp 24) rfl w1 _ _ _ _ rfl (ho2.alloc _) _ _ 1 1 [(x8.toNat : Int)] rfl rfl (rd_new1 _ _ _) (by omega) (hb2.alloc hb2.size _) ?_; intro A3 c3 w3 ho3 hb3)
    | (at_builtin; refine app_b0 _ rfl (.tmp 26) (.tmp 27) rfl w3 _ _ rfl (own_emptyB w3) _ A l.length c l rfl rfl (ha.below (bal (bth B1.out hb3) _)) (by omega) (bal (brefl w3) _) ?_; intro A4 c4 w4 ho4 hb4)
    | (at_builtin; refine app_b _ rfl (.tmp 28) (.tmp 34) rfl w3 _ _ _ _ rfl (ho4.alloc _) _ _ 2 2 (two16 x16) rfl rfl (ints_lit _ _ _ _ _ rfl) (by omega) (hb4.alloc hb4.size _) ?_; intro A5 c5 w5 ho5 hb5)
    | (at_builtin; refine app_b0 _ rfl (.tmp 36) (.tmp 37) rfl w5 _ _ rfl (own_emptyB w5) _ A l.length c l rfl rfl (ha.below (bal (bth (bth B1.out hb3) hb5) _)) (by omega) (bal (brefl w5) _) ?_; intro A6 c6 w6 ho6 hb6)
    | (at_builtin; refine app_b _ rfl (.tmp 38) (.tmp 50) rfl w5 _ _ _ _ rfl (ho6.alloc _) _ _ 4 4 (four32 x32) rfl rfl (ints_lit _ _ _ _ _ rfl) (by omega) (hb6.alloc hb6.size _) ?_; intro A7 c7 w7 ho7 hb7))
  have z7 := Lib.hid ho7.ints
  have z5 := Lib.hid ((ho5.ints.below hb7).more hb7.size)
  have z3 := Lib.hid (((ho3.ints.below hb5).more hb5.size).below hb7 |>.more hb7.size)
  have B7 := Lib.hid (bth (bth (bth B1.out hb3) hb5) hb7)
  clear ho2 ho3 ho4 ho5 ho6 ho7 hb2 hb3 hb4 hb5 hb6 hb7
  (with_reducible refine (eightL_any (l ++ [(x8.toNat : Int)]) (byt_append hf.out s8.out) _ (by simp) (by omega) _ _ _ _ z3.out).mono ?_); rintro e w' ⟨rfl, rfl⟩
  rw [e8.out]
  go_wp2_with fail
  (with_reducible refine (sixteenL_any (l ++ two16 x16) (byt_append hf.out s16.out) _ (by simp [two16]) (by omega) _ _ _ _ z5.out).mono ?_); rintro e w' ⟨rfl, rfl⟩
  rw [e16.out]
  go_wp2_with fail
  (with_reducible refine (thirtyL_any (l ++ four32 x32) (byt_append hf.out s32.out) _ (by simp [four32]) (by omega) _ _ _ _ z7.out).mono ?_); rintro e w' ⟨rfl, rfl⟩
  rw [e32.out]
  go_wp2_with fail
  go_ret
  exact ⟨rfl, B7.out⟩
end Go.Proofs.Ytfdkodcnbjmlbaa
