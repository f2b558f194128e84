/-
  BlockUnpacks: the walk of the law.
-/
import Derived.Test.YtfihbcpainlpcaaProg
import Derived.Test.YtfihbcpainlpcaaQO
import Derived.Test.YtfihbcpainlpcaaO
import Derived.Test.YtfihbcpainlpcaaQD
import Derived.Test.YtfihbcpainlpcaaQUn
namespace Go.Proofs.Ytfihbcpainlpcaa
open Go.RowKit
set_option linter.unusedVariables false
set_option linter.unusedSimpArgs false

theorem unpackB_ok {l : List Int} {rate ch bits : Int} (hl : l.length ≤ 60000) : (unpackB l rate ch bits).ok := by
  unfold unpackB
  split
  · split
    · exact partB_ok (Nat.le_trans (unpackR_len _ _) hl)
    · exact errB_ok _
  · exact errB_ok _
theorem byt_fit {l : List Int} (f : Fit .u8 l) : Byt l := fun x hx => by
  have := f x hx
  have m3 : IntKind.u8.min = 0 := by decide
  have m4 : IntKind.u8.max = 255 := by decide
  simp [Lit.wf, m3, m4] at this
  omega

set_option maxHeartbeats 2000000 in
theorem unpacks_any (l : List Int) (_ml : l.length ≤ 9223372036854775807) (A : Option Addr) (c : Nat) (hc0 : l.length ≤ c) (hc63 : c ≤ 9223372036854775807) (rate ch bits : Int) (w : World) (ha : Ints .u8 w w.heap.size A l) (f : Fit .u8 l) :
    Calls Try.prog 6 #[.slice A l.length c, .agg #[.int .i64 rate, .int .i64 ch, .int .i64 bits]] w fun e w' => e = .returned (.bool true) ∧ Below w.heap.size w w' := by
  obtain ⟨n, hn⟩ : ∃ n, n = l.length := ⟨_, rfl⟩
  rw [← hn]
  have Hn := Lib.hid hn
  have hm := _ml
  have hby := byt_fit f
  have hc := hc0
  rw [← hn] at hc
  rw [← hn] at hm
  clear hn _ml hc0 f
  go_enter Try.func6, Try.ntmps6
  go_wp2_with fail
  have B1 := bal (brefl w) (.cells #[.int .i64 rate, .int .i64 ch, .int .i64 bits] 24)
  obtain ⟨w1, hw1⟩ : ∃ w1, w1 = w.alloc (.cells #[.int .i64 rate, .int .i64 ch, .int .i64 bits] 24) := ⟨_, rfl⟩
  have Mf : Hid (w1.heap[w.heap.size]? = some (.cells #[.int .i64 rate, .int .i64 ch, .int .i64 bits] 24 (0, 0))) := by show _ = _; rw [hw1]; exact heap_alloc_new w _
  have hws : w.heap.size < w1.heap.size := by rw [hw1]; simp
  rw [← hw1] at B1 ⊢
  clear hw1
  (with_reducible refine (known_any _).mono ?_); rintro e w2 ⟨rfl, b2⟩
  have B2 := bth B1 b2
  obtain ⟨f0, f1, f2⟩ := fmt_cell ((b2.block _ hws).trans Mf.out)
  by_cases hbig : 3000 < n
  · have hI : (3000 : Int) < (n : Int) := by omega
    clear hbig
    go_wp2_with fail
    go_ret
    exact ⟨rfl, B2⟩
  · have hI : (n : Int) ≤ 3000 := by omega
    obtain ⟨x, hx⟩ : ∃ x, x = unpackB l rate ch bits := ⟨_, rfl⟩
    have hok := unpackB_ok (l := l) (rate := rate) (ch := ch) (bits := bits) (by have := Hn.out; omega)
    rw [← hx] at hok
    have Hx := Lib.hid hx
    have Hok := Lib.hid hok
    have Hb2 := Lib.hid b2
    clear hbig hx hok b2
    go_wp2_with fail
    have t1 := unpackBL_any l hby n Hn.out (by omega) rate ch bits A c hc hc63 w2 ((ha.below B2).more B2.size)
    rw [← Hx.out] at t1
    (with_reducible refine t1.mono ?_); rintro e w3 hq3
    obtain ⟨A3, c3, RA3, RC3, rfl, h3, b3⟩ := hq3.elim
    have B3 := bth B2 b3
    have Hb3 := Lib.hid (bth Hb2.out b3)
    obtain ⟨f0', f1', f2'⟩ := fmt_cell ((Hb3.out.block _ hws).trans Mf.out)
    have ka0 : ∀ o, (w3.alloc o).cell? ⟨w.heap.size, 0, none⟩ = some (.int .i64 rate) := fun o => later (bal (brefl w3) o) f0'
    have ka1 : ∀ o, (w3.alloc o).cell? ⟨w.heap.size, 1, none⟩ = some (.int .i64 ch) := fun o => later (bal (brefl w3) o) f1'
    have ka2 : ∀ o, (w3.alloc o).cell? ⟨w.heap.size, 2, none⟩ = some (.int .i64 bits) := fun o => later (bal (brefl w3) o) f2'
    clear t1 hq3 b3 B2 f0 f1 f2 f0' f1' f2'
    go_wp2_with fail
    obtain ⟨w4, hw4⟩ : ∃ w4, w4 = w3.alloc (.cells #[.int .i64 x.bits, .slice A3 x.r c3] 28) := ⟨_, rfl⟩
    have b4 : Below w3.heap.size w3 w4 := by rw [hw4]; exact bal (brefl w3) _
    have Mb : Hid (w4.heap[w3.heap.size]? = some (.cells #[.int .i64 x.bits, .slice A3 x.r c3] 28 (0, 0))) := by show _ = _; rw [hw4]; exact heap_alloc_new w3 _
    have hws3 : w3.heap.size < w4.heap.size := by rw [hw4]; simp
    rw [← hw4]
    have B4 := bth B3 b4
    have h4 := Lib.hid ((h3.below b4).more b4.size)
    clear hw4 b4 h3 B3 ka0 ka1 ka2
    have t1 := unpackBR_any l hby n Hn.out (by omega) rate ch bits A c hc hc63 w4 ((ha.below B4).more B4.size)
    rw [← Hx.out] at t1
    (with_reducible refine t1.mono ?_); rintro e w5 hq5
    obtain ⟨A5, c5, RA5, RC5, rfl, h5, b5⟩ := hq5.elim
    have B5 := bth B4 b5
    have h45 := Lib.hid ((h4.out.below b5).more b5.size)
    have m5 := (b5.block _ hws3).trans Mb.out
    have hws5 : w3.heap.size < w5.heap.size := Nat.lt_of_lt_of_le hws3 b5.size
    obtain ⟨c0, c1, _, _⟩ := blk_cell m5
    have ka0 : ∀ o, (w5.alloc o).cell? ⟨w3.heap.size, 0, none⟩ = some (.int .i64 x.bits) := fun o => later (bal (brefl w5) o) c0
    have ka1 : ∀ o, (w5.alloc o).cell? ⟨w3.heap.size, 1, none⟩ = some (.slice A3 x.r c3) := fun o => later (bal (brefl w5) o) c1
    clear t1 hq5 b5 B4 h4 c0 c1
    go_wp2_with fail
    obtain ⟨w6, hw6⟩ : ∃ w6, w6 = w5.alloc (.cells #[.int .i64 x.bits, .slice A5 x.r c5] 28) := ⟨_, rfl⟩
    have b6 : Below w5.heap.size w5 w6 := by rw [hw6]; exact bal (brefl w5) _
    rw [← hw6]
    have B6 := bth B5 b6
    have h46 := (h45.out.below b6).more b6.size
    have h56 := (h5.below b6).more b6.size
    clear hw6 b6 m5 B5 h5 h45 ka0 ka1
    obtain ⟨ok1, ok2⟩ := Hok.out
    (with_reducible refine (sameBlock_any x.bits x.R x.r ok1 ok2 RA3 RA5 RC3 RC5 A3 A5 _ _ c3 c5 _ (Nat.le_refl _) (Nat.le_refl _) h46 h56).mono ?_); rintro e w7 ⟨rfl, b7⟩
    have ec : (x.code == x.code) = true := by simp
    have B7 := bth B6 b7
    go_wp2_with fail
    go_ret
    exact ⟨rfl, B7⟩
end Go.Proofs.Ytfihbcpainlpcaa
