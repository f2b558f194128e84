/-
  Unpack of both.
-/
import Derived.Test.YtfihbcpainlpcaaProg
import Derived.Test.YtfihbcpainlpcaaQH
import Derived.Test.YtfihbcpainlpcaaQPb
namespace Go.Proofs.Ytfihbcpainlpcaa
open Go.RowKit
set_option linter.unusedVariables false
set_option linter.unusedSimpArgs false

theorem unpackR_len (l : List Int) (b : Int) : (unpackR l b).1.length ≤ l.length := by
  unfold unpackR
  split
  · split
    · split
      · rw [uvals_len]; exact Nat.div_le_self _ _
      · simp
    · simp
  · simp

set_option maxHeartbeats 2000000 in
theorem unpackBL_any (l : List Int) (hby0 : Byt l) (n : Nat) (hn : n = l.length) (hm : n ≤ 20000) (rate ch bits : Int) (A : Option Addr) (c : Nat) (hc : n ≤ c) (hc63 : c ≤ 9223372036854775807) (w : World) (ha : Ints .u8 w w.heap.size A l) :
    Calls Try.prog 22 #[.slice A n c, .agg #[.int .i64 rate, .int .i64 ch, .int .i64 bits]] w (BlkQ (unpackB l rate ch bits) w) := by
  have Hn := Lib.hid hn
  have hby := Lib.hid hby0
  clear hn hby0
  go_enter Try.func22, Try.ntmps22
  go_wp2_with fail
  obtain ⟨w1, hw1, hz1, B1, m1, m2⟩ := part_boxes w rate ch bits
  rw [← hw1]
  clear hw1
  (with_reducible refine (rightL_any _ _ _ _).mono ?_); rintro e w2 ⟨rfl, b2⟩
  have B2 := bth B1 b2
  have M2 := Lib.hid ((b2.block _ (by omega)).trans m2)
  have M1 := Lib.hid ((b2.block _ (by omega)).trans m1)
  have hsz := b2.size
  clear m1 m2 b2 B1
  cases hrt : rightB rate ch bits with
  | false =>
    have hr : Hid (unpackB l rate ch bits = errB 1) := by show _ = _; simp [unpackB, hrt]
    obtain ⟨d0, d1, f0, f1⟩ := blk_cell M2.out
    clear hrt
    go_wp2_with fail
    refine bodyPost_ret (results_blk rfl _ _ rfl (blk_set d0 d1 _ _).1 (blk_set d0 d1 _ _).2) rfl ?_
    exact blk_of hr.out (blk_err (below_set2 B2 (by omega) _ _))
  | true =>
    obtain ⟨x, hx⟩ : ∃ x, x = unpackR l bits := ⟨_, rfl⟩
    have hp : Hid (unpackB l rate ch bits = if x.2 = 0 then partB x.1 rate ch bits else errB x.2) := by show _ = _; rw [unpackB, if_pos hrt, ← hx]
    have hxl : x.1.length ≤ 60000 := by rw [hx]; have := unpackR_len l bits; have := Hn.out; omega
    have Hx := Lib.hid hx
    obtain ⟨k0, k1, k2⟩ := fmt_cell M1.out
    clear hrt hx
    go_wp2_with fail
    have t1 := unpackL_any l hby.out n Hn.out (by omega) bits A c w2 ((ha.below B2).more B2.size)
    rw [← Hx.out] at t1
    (with_reducible refine t1.mono ?_); rintro e w3 ⟨A3, c3, rfl, o3, b3⟩
    have B3 := bth B2 b3
    have i3 := Lib.hid o3.ints
    have N1 := Lib.hid ((b3.block _ (by omega)).trans M1.out)
    have N2 := Lib.hid ((b3.block _ (by omega)).trans M2.out)
    have hs3 := b3.size
    clear t1 o3 b3 k0 k1 k2 M1 M2 B2
    by_cases hz : x.2 = 0
    · have hr : Hid (unpackB l rate ch bits = partB x.1 rate ch bits) := by show _ = _; rw [hp.out, if_pos hz]
      have e0 : (x.2 != 0) = false := by simp [hz]
      obtain ⟨k0, k1, k2⟩ := fmt_cell N1.out
      clear hz
      go_wp2_with fail
      obtain ⟨y, hy⟩ : ∃ y, y = partB x.1 rate ch bits := ⟨_, rfl⟩
      have t1 := partL_any x.1 x.1.length rfl hxl rate ch bits A3 c3 w3 i3.out
      rw [← hy] at t1
      rw [← hy] at hr
      (with_reducible refine t1.mono ?_); rintro e w4 ⟨A4, c4, RA4, RC4, rfl, o4, b4⟩
      have B4 := Lib.hid (bth B3 b4)
      have Ho4 := Lib.hid o4
      obtain ⟨d0, d1, f0, f1⟩ := blk_cell ((b4.block _ (by omega)).trans N2.out)
      clear t1 o4 b4 k0 k1 k2 hy B3
      go_wp2_with fail
      refine bodyPost_ret (results_blk rfl _ _ rfl (blk_set d0 d1 _ _).1 (blk_set d0 d1 _ _).2) rfl ?_
      refine blk_of hr.out ⟨A4, c4, RA4, RC4, rfl, ?_, below_set2 B4.out (by omega) _ _⟩
      refine (Ho4.out.other fun q hq => ?_).base (by omega)
      have := (Ho4.out.lt q hq).1
      rw [Below.heap_setCell _ _ _ _ (by show q ≠ w.heap.size + 1; omega), Below.heap_setCell _ _ _ _ (by show q ≠ w.heap.size + 1; omega)]
    · have hr : Hid (unpackB l rate ch bits = errB x.2) := by show _ = _; rw [hp.out, if_neg hz]
      have e0 : (x.2 != 0) = true := by simp [hz]
      obtain ⟨d0, d1, f0, f1⟩ := blk_cell N2.out
      clear hz
      go_wp2_with fail
      refine bodyPost_ret (results_blk rfl _ _ rfl (blk_set d0 d1 _ _).1 (blk_set d0 d1 _ _).2) rfl ?_
      exact blk_of hr.out (blk_err (below_set2 B3 (by omega) _ _))

set_option maxHeartbeats 2000000 in
theorem unpackBR_any (l : List Int) (hby0 : Byt l) (n : Nat) (hn : n = l.length) (hm : n ≤ 20000) (rate ch bits : Int) (A : Option Addr) (c : Nat) (hc : n ≤ c) (hc63 : c ≤ 9223372036854775807) (w : World) (ha : Ints .u8 w w.heap.size A l) :
    Calls Try.prog 23 #[.slice A n c, .agg #[.int .i64 rate, .int .i64 ch, .int .i64 bits]] w (BlkQ (unpackB l rate ch bits) w) := by
  have Hn := Lib.hid hn
  have hby := Lib.hid hby0
  clear hn hby0
  go_enter Try.func23, Try.ntmps23
  go_wp2_with fail
  obtain ⟨w1, hw1, hz1, B1, m1, m2⟩ := part_boxes w rate ch bits
  rw [← hw1]
  clear hw1
  (with_reducible refine (rightR_any _ _ _ _).mono ?_); rintro e w2 ⟨rfl, b2⟩
  have B2 := bth B1 b2
  have M2 := Lib.hid ((b2.block _ (by omega)).trans m2)
  have M1 := Lib.hid ((b2.block _ (by omega)).trans m1)
  have hsz := b2.size
  clear m1 m2 b2 B1
  cases hrt : rightB rate ch bits with
  | false =>
    have hr : Hid (unpackB l rate ch bits = errB 1) := by show _ = _; simp [unpackB, hrt]
    obtain ⟨d0, d1, f0, f1⟩ := blk_cell M2.out
    clear hrt
    go_wp2_with fail
    refine bodyPost_ret (results_blk rfl _ _ rfl (blk_set d0 d1 _ _).1 (blk_set d0 d1 _ _).2) rfl ?_
    exact blk_of hr.out (blk_err (below_set2 B2 (by omega) _ _))
  | true =>
    obtain ⟨x, hx⟩ : ∃ x, x = unpackR l bits := ⟨_, rfl⟩
    have hp : Hid (unpackB l rate ch bits = if x.2 = 0 then partB x.1 rate ch bits else errB x.2) := by show _ = _; rw [unpackB, if_pos hrt, ← hx]
    have hxl : x.1.length ≤ 60000 := by rw [hx]; have := unpackR_len l bits; have := Hn.out; omega
    have Hx := Lib.hid hx
    obtain ⟨k0, k1, k2⟩ := fmt_cell M1.out
    clear hrt hx
    go_wp2_with fail
    have t1 := unpackR_any l hby.out n Hn.out (by omega) bits A c hc hc63 w2 ((ha.below B2).more B2.size)
    rw [← Hx.out] at t1
    (with_reducible refine t1.mono ?_); rintro e w3 ⟨A3, c3, rfl, o3, b3⟩
    have B3 := bth B2 b3
    have i3 := Lib.hid o3.ints
    have N1 := Lib.hid ((b3.block _ (by omega)).trans M1.out)
    have N2 := Lib.hid ((b3.block _ (by omega)).trans M2.out)
    have hs3 := b3.size
    clear t1 o3 b3 k0 k1 k2 M1 M2 B2
    by_cases hz : x.2 = 0
    · have hr : Hid (unpackB l rate ch bits = partB x.1 rate ch bits) := by show _ = _; rw [hp.out, if_pos hz]
      have e0 : (x.2 != 0) = false := by simp [hz]
      obtain ⟨k0, k1, k2⟩ := fmt_cell N1.out
      clear hz
      go_wp2_with fail
      obtain ⟨y, hy⟩ : ∃ y, y = partB x.1 rate ch bits := ⟨_, rfl⟩
      have t1 := partR_any x.1 x.1.length rfl hxl rate ch bits A3 c3 w3 i3.out
      rw [← hy] at t1
      rw [← hy] at hr
      (with_reducible refine t1.mono ?_); rintro e w4 ⟨A4, c4, RA4, RC4, rfl, o4, b4⟩
      have B4 := Lib.hid (bth B3 b4)
      have Ho4 := Lib.hid o4
      obtain ⟨d0, d1, f0, f1⟩ := blk_cell ((b4.block _ (by omega)).trans N2.out)
      clear t1 o4 b4 k0 k1 k2 hy B3
      go_wp2_with fail
      refine bodyPost_ret (results_blk rfl _ _ rfl (blk_set d0 d1 _ _).1 (blk_set d0 d1 _ _).2) rfl ?_
      refine blk_of hr.out ⟨A4, c4, RA4, RC4, rfl, ?_, below_set2 B4.out (by omega) _ _⟩
      refine (Ho4.out.other fun q hq => ?_).base (by omega)
      have := (Ho4.out.lt q hq).1
      rw [Below.heap_setCell _ _ _ _ (by show q ≠ w.heap.size + 1; omega), Below.heap_setCell _ _ _ _ (by show q ≠ w.heap.size + 1; omega)]
    · have hr : Hid (unpackB l rate ch bits = errB x.2) := by show _ = _; rw [hp.out, if_neg hz]
      have e0 : (x.2 != 0) = true := by simp [hz]
      obtain ⟨d0, d1, f0, f1⟩ := blk_cell N2.out
      clear hz
      go_wp2_with fail
      refine bodyPost_ret (results_blk rfl _ _ rfl (blk_set d0 d1 _ _).1 (blk_set d0 d1 _ _).2) rfl ?_
      exact blk_of hr.out (blk_err (below_set2 B3 (by omega) _ _))
end Go.Proofs.Ytfihbcpainlpcaa
