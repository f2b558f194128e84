/-
  The reference's reader: Small; its Unpack.
-/
import Derived.Test.YtfihbcpainlpcaaProg
import Derived.Test.YtfihbcpainlpcaaQE
namespace Go.Proofs.Ytfihbcpainlpcaa
open Go.RowKit
set_option linter.unusedVariables false
set_option linter.unusedSimpArgs false

/-- the last d of s bytes as a number, the lowest first. -/
def topN (l : List Int) (s : Nat) : Nat → Int
  | 0 => 0
  | d + 1 => topN l s d * 256 + ix l (s - 1 - d)
theorem topN_b {l : List Int} (hb : Byt l) {s : Nat} (hs : s = l.length) : ∀ d, d ≤ s → 0 ≤ topN l s d ∧ topN l s d < 256 ^ d
  | 0, _ => by simp [topN]
  | d + 1, h => by
    obtain ⟨h0, h1⟩ := topN_b hb hs d (by omega)
    obtain ⟨x0, x1⟩ := hb.ix_ (k := s - 1 - d) (by omega)
    rw [topN, Int.pow_succ]
    omega
theorem or256 {x y : Int} (x0 : 0 ≤ x) (x1 : x < 72057594037927936) (y0 : 0 ≤ y) (y1 : y < 256) : bits .or .u64 (x * 256) y = x * 256 + y := by
  obtain ⟨u, rfl⟩ := Int.eq_ofNat_of_zero_le x0
  obtain ⟨v, rfl⟩ := Int.eq_ofNat_of_zero_le y0
  have hor : u * 256 ||| v = u * 256 + v := by
    have := Nat.two_pow_add_eq_or_of_lt (show v < 2 ^ 8 by omega) u
    rw [Nat.mul_comm u, show (256 : Nat) = 2 ^ 8 by rfl]; exact this.symm
  show IntKind.u64.wrap ((BitVec.ofInt 64 ((u : Int) * 256) ||| BitVec.ofInt 64 (v : Int)).toNat : Int) = _
  have e2 : (u : Int) * 256 = ((u * 256 : Nat) : Int) := by simp
  rw [e2, BitVec.toNat_or, BitVec.ofInt_natCast, BitVec.ofInt_natCast, BitVec.toNat_ofNat, BitVec.toNat_ofNat, Nat.mod_eq_of_lt (by omega), Nat.mod_eq_of_lt (by omega), hor]
  rw [IntKind.wrap_u64]
  omega

theorem p256 {d : Nat} (h : d ≤ 3) : (256 : Int) ^ d ≤ 16777216 := by
  have : d = 0 ∨ d = 1 ∨ d = 2 ∨ d = 3 := by omega
  rcases this with rfl | rfl | rfl | rfl <;> decide

def SmallQ (v : Int) (A : Option Addr) (n c p s g : Nat) (w : World) (e : Ending) (w' : World) : Prop :=
  e = .returned (.int .u64 v) ∧ OctS w' g A n c (p + s) ∧ Kp (fun q => q = g) w w'

set_option maxHeartbeats 2000000 in
theorem smallO_any (l : List Int) (hby : Byt l) (n : Nat) (hn : n = l.length) (hm : n ≤ 50000) (A : Option Addr) (c : Nat) (hc : n ≤ c) (hc63 : c ≤ 9223372036854775807) (p s : Nat) (hs : 1 ≤ s) (hs3 : s ≤ 3) (hps : p + s ≤ n) (g : Nat) (w : World) (ho : OctS w g A n c p) (ha : Ints .u8 w w.heap.size A l) :
    Calls Try.prog 60 #[.pointer (some ⟨g, 0, none⟩), .int .i64 (s : Int)] w (SmallQ (topN ((l.drop p).take s) s s) A n c p s g w) := by
  have e1 : (if (s : Int) < 8 then (s : Int) else 8) = (s : Int) := by rw [if_pos (by omega)]
  have e2 : (s : Int) ≤ 8 := by omega
  have e3 : (s : Int) < 8 := by omega
  obtain ⟨xs, hxs⟩ : ∃ xs, xs = (l.drop p).take s := ⟨_, rfl⟩
  have hxl : Hid (s = xs.length) := by show _ = _; rw [hxs]; simp; omega
  have hxb : Hid (Byt xs) := fun x hx => hby x (by rw [hxs] at hx; exact List.mem_of_mem_drop (List.mem_of_mem_take hx))
  have t1 := take_any l n hn hm A c hc hc63 p s hs hps g w ho ha
  unfold TakeQ at t1
  rw [← hxs] at t1 ⊢
  have T1 := Lib.hid t1
  clear t1 hxs hn hps ho ha hby
  go_enter Try.func60, Try.ntmps60
  go_wp2_with fail
  (with_reducible refine T1.out.mono ?_); rintro e w2 ⟨A2, c2, rfl, o2, O2, K2⟩
  have i2 := own_ints o2
  have I2 := Lib.hid i2
  have HO := Lib.hid O2
  have HK := Lib.hid K2
  have hsub := IntWalk.i64_in ((s : Int) - 1) (by omega)
  clear o2 i2 O2 K2
  go_wp2_with fail
  go_loop [6, 7] (fun nv iv => ∃ d : Nat, d ≤ s ∧ iv = .int .i64 ((s : Int) - 1 - (d : Int)) ∧ nv = .int .u64 (topN xs s d)) (fun _ iv => (intOf iv + 1).toNat)
  case atStart => exact ⟨0, Nat.zero_le _, by simp, rfl⟩
  case round =>
    obtain ⟨d, hd, rfl, rfl⟩ := hrel
    obtain ⟨z0, z1⟩ := topN_b hxb.out hxl.out d hd
    have hp := p256 (d := d) (by omega)
    by_cases hlt : d < s
    · obtain ⟨i, hi⟩ : ∃ i, i = s - 1 - d := ⟨_, rfl⟩
      have hiI : (s : Int) - 1 - (d : Int) = (i : Int) := by omega
      rw [hiI]
      obtain ⟨b, o, rfl, hcell⟩ := I2.out.at_ (i := i) (by have := hxl.out; omega)
      obtain ⟨x0, x1⟩ := hxb.out.ix_ (k := i) (by have := hxl.out; omega)
      have hst : Hid (topN xs s (d + 1) = topN xs s d * 256 + ix xs i) := by show _ = _; rw [topN, hi]
      obtain ⟨z, hz⟩ : ∃ z, z = topN xs s d := ⟨_, rfl⟩
      obtain ⟨x, hx⟩ : ∃ x, x = ix xs i := ⟨_, rfl⟩
      rw [← hz] at z0 z1 hst ⊢
      rw [← hx] at hcell x0 x1 hst
      have zb : z < 16777216 := by omega
      have hor := or256 z0 (by omega) x0 x1
      have ew := IntWalk.i64_in ((i : Int) - 1) (by omega)
      have Hi := Lib.hid hi
      have i1 : (i : Int) < (s : Int) := by omega
      clear hz hx hi hiI hp z1
      go_wp2_with fail
      refine ⟨⟨d + 1, by omega, ?_, by rw [hst.out]⟩, ?_⟩
      · exact congrArg (Value.int .i64) (by have := Hi.out; omega)
      · simp [intOf]
    · have e : d = s := by omega
      subst e
      have hiI : (d : Int) - 1 - (d : Int) = -1 := by omega
      rw [hiI]
      clear hp
      go_wp2_with fail
      go_ret
      exact ⟨rfl, HO.out, HK.out⟩

theorem depthR_any (x : Int) (w : World) : Calls Try.prog 57 #[.int .i64 x] w fun e w' => e = .returned (.bool (depth x)) ∧ w = w' := by
  by_cases h1 : 4 ≤ x
  · have hd : Hid (depth x = decide (x ≤ 24)) := by show _ = _; simp [depth, h1]
    go_enter Try.func57, Try.ntmps57
    go_wp2
    go_ret
    exact ⟨by rw [hd.out]; rfl, rfl⟩
  · have hd : Hid (depth x = false) := depth_no (by omega)
    go_enter Try.func57, Try.ntmps57
    go_wp2
    go_ret
    exact ⟨by rw [hd.out]; rfl, rfl⟩

theorem part_ix {l : List Int} {a s k : Nat} (h : k < s) : ix ((l.drop a).take s) k = ix l (a + k) := by rw [ix_take h, ix_drop]
theorem top_val {l : List Int} {a s : Nat} (hs : 1 ≤ s) (hs3 : s ≤ 3) : topN ((l.drop a).take s) s s = valN l a s := by
  have : s = 1 ∨ s = 2 ∨ s = 3 := by omega
  rcases this with rfl | rfl | rfl
  · simp only [topN, valN]
    rw [part_ix (by omega)]; simp
  · simp only [topN, valN]
    rw [part_ix (by omega), part_ix (by omega)]; simp; omega
  · simp only [topN, valN]
    rw [part_ix (by omega), part_ix (by omega), part_ix (by omega)]; simp; omega
theorem shift_sgn {v : Int} {s sh : Nat} (hs : 1 ≤ s) (hs3 : s ≤ 3) (h0 : 0 ≤ v) (h1 : v < 2 ^ (8 * s)) (hsh : sh = 64 - 8 * s) :
    IntKind.u64.wrap (v * 2 ^ sh) = v * 2 ^ sh ∧ IntKind.i64.wrap (v * 2 ^ sh) / 2 ^ sh = sgn s v := by
  have : s = 1 ∨ s = 2 ∨ s = 3 := by omega
  rw [IntKind.wrap_u64, IntKind.wrap_i64]
  rcases this with rfl | rfl | rfl
  · obtain rfl : sh = 56 := hsh
    have e : highI (8 * ((1 : Nat) : Int)) = 127 := by decide
    simp only [sgn, e]
    simp at h1 ⊢
    constructor
    · omega
    · split <;> omega
  · obtain rfl : sh = 48 := hsh
    have e : highI (8 * ((2 : Nat) : Int)) = 32767 := by decide
    simp only [sgn, e]
    simp at h1 ⊢
    constructor
    · omega
    · split <;> omega
  · obtain rfl : sh = 40 := hsh
    have e : highI (8 * ((3 : Nat) : Int)) = 8388607 := by decide
    simp only [sgn, e]
    simp at h1 ⊢
    constructor
    · omega
    · split <;> omega
end Go.Proofs.Ytfihbcpainlpcaa
