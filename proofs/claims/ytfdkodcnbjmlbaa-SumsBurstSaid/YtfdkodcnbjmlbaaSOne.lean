/-
  SumsOne: one byte turned shows; the walk of the law.
-/
import Derived.Test.YtfdkodcnbjmlbaaProg
import Derived.Test.YtfdkodcnbjmlbaaSPow
namespace Go.Proofs.Ytfdkodcnbjmlbaa
open Go.RowKit

theorem and16 (n : Int) : bits .and .i64 n 65535 = n % 65536 := i64_mask n 16 (by omega) 65535 (by decide)
theorem bn_set {l : List Int} {k : Nat} {x : Int} (hk : k < l.length) : bn (l.set k x) = bn (l.take k) ++ x.toNat :: bn (l.drop (k + 1)) := by
  unfold bn
  rw [List.map_set, List.set_eq_take_append_cons_drop, if_pos (by simpa using hk), List.map_take, List.map_drop]
theorem bn_split {l : List Int} {k : Nat} (hk : k < l.length) : bn l = bn (l.take k) ++ (ix l k).toNat :: bn (l.drop (k + 1)) := by
  have h := bn_set (l := l) (x := ix l k) hk
  rw [← h, show l.set k (ix l k) = l from by rw [ix_eq hk, List.set_getElem_self]]
theorem one_turned {l : List Int} {k : Nat} {x : Int} (hf : Byt l) (hk : k < l.length) (h0 : 0 ≤ x) (h1 : x < 256) (hne : x ≠ ix l k) : printN (l.set k x) ≠ printN l := by
  unfold printN
  rw [bn_set hk, bn_split hk]
  have hb := hf.ix_ hk
  have := prN_one (P := 2305843009213693951) (B := 1000003) (by omega) base_inv (bn (l.take k)) (bn (l.drop (k + 1))) x.toNat (ix l k).toNat (by omega) (by omega) (by omega)
  exact this
theorem xor8_ne {x y : Int} (x0 : 0 ≤ x) (x1 : x < 256) (y0 : 0 ≤ y) (y1 : y < 256) (hy : y ≠ 0) : 0 ≤ bits .xor .u8 x y ∧ bits .xor .u8 x y < 256 ∧ bits .xor .u8 x y ≠ x := by
  rw [u8_xor _ _ x0 x1 y0 y1]
  have h1 : x.toNat ^^^ y.toNat < 2 ^ 8 := Nat.xor_lt_two_pow (by omega) (by omega)
  refine ⟨by omega, by omega, fun e => hy ?_⟩
  have e2 : x.toNat ^^^ y.toNat = x.toNat := by omega
  have e3 : x.toNat ^^^ (x.toNat ^^^ y.toNat) = x.toNat ^^^ x.toNat := by rw [e2]
  rw [← Nat.xor_assoc, Nat.xor_self, Nat.zero_xor] at e3
  omega
theorem byt_set {l : List Int} (h : Byt l) (k : Nat) {x : Int} (h0 : 0 ≤ x) (h1 : x < 256) : Byt (l.set k x) := fun y hy => by
  rcases List.mem_or_eq_of_mem_set hy with h' | h'
  · exact h y h'
  · subst h'; exact ⟨h0, h1⟩
theorem ownB_cell {w : World} {B g n c : Nat} {l : List Int} (h : OwnB w B (some ⟨g, 0, none⟩) n c l) {i : Nat} (hi : i < n) : w.cell? ⟨g, i, none⟩ = some (.int .u8 (ix l i)) := own_cell h hi
theorem ownB_set {w : World} {B g n c : Nat} {l : List Int} (h : OwnB w B (some ⟨g, 0, none⟩) n c l) (i : Nat) (x : Int) : OwnB (w.setCell ⟨g, i, none⟩ (.int .u8 x)) B (some ⟨g, 0, none⟩) n c (l.set i x) := own_set h i x
theorem ownB_addr {w : World} {B n c : Nat} {A : Option Addr} {l : List Int} (h : OwnB w B A n c l) (hn : 0 < n) : ∃ g, A = some ⟨g, 0, none⟩ ∧ B ≤ g ∧ g < w.heap.size := own_addr h hn

set_option maxHeartbeats 1000000 in
theorem one_any (l : List Int) (_hm : l.length ≤ 9223372036854775807) (A : Option Addr) (c : Nat) (t y : Int) (w : World) (ha : Ints .u8 w w.heap.size A l) (f : Fit .u8 l) (_ft : (Lit.int .i64 t).wf = true) (fy : (Lit.int .u8 y).wf = true) :
    Calls Try.prog 6 #[.slice A l.length c, .int .i64 t, .int .u8 y] w fun e w' => e = .returned (.bool true) ∧ Below w.heap.size w w' := by
  have m3 : IntKind.u8.min = 0 := by decide
  have m4 : IntKind.u8.max = 255 := by decide
  have by_ : 0 ≤ y ∧ y ≤ 255 := by simpa [Lit.wf, m3, m4] using fy
  obtain ⟨y0, y1⟩ := by_
  clear fy m3 m4
  by_cases q1 : 300 < l.length
  · have hI : (300 : Int) < (l.length : Int) := by omega
    go_enter Try.func6, Try.ntmps6
    go_wp2_with fail
    (with_reducible refine (known_any _).mono ?_); rintro e w1 ⟨rfl, b1⟩
    go_wp2_with fail
    go_ret
    exact ⟨rfl, b1⟩
  have q1I : (l.length : Int) ≤ 300 := by omega
  by_cases q2 : l.length = 0
  · have hI : ((l.length : Int) == 0) = true := beq_iff_eq.2 (by omega)
    have Hq := Lib.hid q2
    clear q2
    go_enter Try.func6, Try.ntmps6
    go_wp2_with fail
    (with_reducible refine (known_any _).mono ?_); rintro e w1 ⟨rfl, b1⟩
    go_wp2_with fail
    go_ret
    exact ⟨rfl, b1⟩
  have q2I : ((l.length : Int) == 0) = false := beq_eq_false_iff_ne.2 (by omega)
  by_cases q3 : y = 0
  · have hI : (y == 0) = true := beq_iff_eq.2 q3
    have Hq := Lib.hid q3
    clear q3
    go_enter Try.func6, Try.ntmps6
    go_wp2_with fail
    (with_reducible refine (known_any _).mono ?_); rintro e w1 ⟨rfl, b1⟩
    go_wp2_with fail
    go_ret
    exact ⟨rfl, b1⟩
  have q3I : (y == 0) = false := beq_eq_false_iff_ne.2 q3
  have hpos : (1 : Int) ≤ (l.length : Int) := by omega
  have hf := Lib.hid (byt_of f)
  obtain ⟨m, hm⟩ : ∃ m : Nat, bits .and .i64 t 65535 = (m : Int) := ⟨(t % 65536).toNat, by rw [and16]; omega⟩
  obtain ⟨k, hk⟩ : ∃ k : Nat, (m : Int) % (l.length : Int) = (k : Int) := ⟨m % l.length, by rw [Int.natCast_emod]⟩
  have hkl : k < l.length := by have := Int.emod_lt_of_pos (m : Int) (show (0 : Int) < l.length by omega); omega
  obtain ⟨x0, x1⟩ := hf.out.ix_ hkl
  obtain ⟨v0, v1, v2⟩ := xor8_ne x0 x1 y0 (by omega) q3
  obtain ⟨v, hv⟩ : ∃ v, bits .xor .u8 (ix l k) y = v := ⟨_, rfl⟩
  rw [hv] at v0 v1 v2
  have hne := one_turned hf.out hkl v0 v1 v2
  have hneI : (((printN (l.set k v) : Nat) : Int) != ((printN l : Nat) : Int)) = true := by rw [bne_iff_ne]; omega
  have Hset := Lib.hid (byt_set hf.out k v0 v1)
  have hkI : (k : Int) < (l.length : Int) := by omega
  have hk0 : (0 : Int) ≤ (k : Int) := by omega
  clear q1 q2 q3 v2 hne
  go_enter Try.func6, Try.ntmps6
  go_wp2_with fail
  (with_reducible refine (known_any _).mono ?_); rintro e w1 ⟨rfl, b1⟩
  have ha1 := Lib.hid ((ha.below b1).more b1.size)
  have B1 := Lib.hid b1
  clear b1
  go_upto_region 6 with (at_builtin; refine app_b0 _ rfl (.tmp 22) (.tmp 23) rfl w1 _ _ rfl (own_emptyB w1) _ A l.length c l rfl rfl (ha1.out.below (bal (brefl w1) _)) (by omega) (bal (brefl w1) _) ?_; intro A2 c2 w2 ho2 hb2)
  obtain ⟨g, rfl, hg1, hg2⟩ := ownB_addr ho2 (by omega)
  have d1 := ownB_cell ho2 hkl
  have d2 := World.ownsRow.frozenAt ho2 k
  have ho2' := Lib.hid ho2
  have B2 := Lib.hid (bth B1.out hb2)
  have hgw : w.heap.size ≤ g := by have := B1.out.size; omega
  clear ho2 hb2
  go_wp2_with fail
  have ho3 := Lib.hid (ownB_set ho2'.out k v)
  have B3 := Lib.hid (B2.out.setCell (p := ⟨g, k, none⟩) hgw (.int .u8 v))
  (with_reducible refine (printL_q (l.set k v) Hset.out _ (by rw [List.length_set]) (by omega) _ _ _ _ ho3.out.ints).mono ?_); rintro e w4 ⟨rfl, b4⟩
  have B4 := Lib.hid (bth B3.out b4)
  have ha4 := Lib.hid (ha.below B4.out)
  clear b4
  go_wp2_with fail
  (with_reducible refine (printL_q l hf.out _ rfl (by omega) _ _ _ _ ha4.out).mono ?_); rintro e w5 ⟨rfl, b5⟩
  have B5 := Lib.hid (bth B4.out b5)
  clear b5
  go_wp2_with fail
  go_ret
  exact ⟨rfl, B5.out⟩
end Go.Proofs.Ytfdkodcnbjmlbaa
