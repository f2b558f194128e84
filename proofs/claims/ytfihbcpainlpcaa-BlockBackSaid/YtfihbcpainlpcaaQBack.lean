/-
  BlockBack: the walk of the law.
-/
import Derived.Test.YtfihbcpainlpcaaProg
import Derived.Test.YtfihbcpainlpcaaQO
import Derived.Test.YtfihbcpainlpcaaQD
import Derived.Test.YtfihbcpainlpcaaQUn
import Derived.Test.YtfihbcpainlpcaaQBp
namespace Go.Proofs.Ytfihbcpainlpcaa
open Go.RowKit
set_option linter.unusedVariables false
set_option linter.unusedSimpArgs false

def BackQ (x : BR) (w5 wx : World) (g : Nat) (A : Option Addr) (c : Nat) : Prop :=
  (∃ RA RC, Rw wx wx.heap.size A x.r RA RC x.R) ∧ wx.cell? ⟨g, 0, none⟩ = some (.int .i64 x.bits) ∧ wx.cell? ⟨g, 1, none⟩ = some (.slice A x.r c) ∧ Below w5.heap.size w5 wx
theorem backQ_last {x : BR} {w5 w7 : World} {A : Option Addr} {c : Nat} {RA : Nat → Option Addr} {RC : Nat → Nat} (h : Rw w7 w7.heap.size A x.r RA RC x.R) (hb : Below w5.heap.size w5 w7) :
    BackQ x w5 (w7.alloc (.cells #[.int .i64 x.bits, .slice A x.r c] 28)) w7.heap.size A c := by
  have b := bal (brefl w7) (.cells #[.int .i64 x.bits, .slice A x.r c] 28)
  exact ⟨⟨RA, RC, (h.below b).more b.size⟩, (cell_of_row _ _ _ _ _ _ (heap_alloc_new w7 _)).trans rfl, (cell_of_row _ _ _ _ _ _ (heap_alloc_new w7 _)).trans rfl, bth hb b⟩
theorem backQ_set {x : BR} {w5 w7 : World} {A : Option Addr} {c Z g : Nat} {RA : Nat → Option Addr} {RC : Nat → Nat} {u0 u1 : Value} (h : OwnV w7 Z A x.r c RA RC x.R) (hg : g < Z) (hb : Below w5.heap.size w5 w7) (hg5 : w5.heap.size ≤ g)
    (d0 : w7.cell? ⟨g, 0, none⟩ = some u0) (d1 : w7.cell? ⟨g, 1, none⟩ = some u1) :
    BackQ x w5 ((w7.setCell ⟨g, 0, none⟩ (.int .i64 x.bits)).setCell ⟨g, 1, none⟩ (.slice A x.r c)) g A c := by
  obtain ⟨e0, e1⟩ := blk_set d0 d1 (.int .i64 x.bits) (.slice A x.r c)
  refine ⟨⟨RA, RC, OwnV.rw (h.other fun q hq => ?_)⟩, e0, e1, below_set2 hb hg5 _ _⟩
  have h1 := (h.lt q hq).1
  rw [Below.heap_setCell _ _ _ _ (by simp; omega), Below.heap_setCell _ _ _ _ (by simp; omega)]

set_option maxRecDepth 100000 in
set_option maxHeartbeats 4000000 in
theorem back_any (bi : Int) (A : Option Addr) (c r : Nat) (RA : Nat → Option Addr) (RC : Nat → Nat) (R : Nat → List Int) (hrc : r ≤ c) (hc63 : c ≤ 9223372036854775807) (rt : Int) (w : World) (h : Rw w w.heap.size A r RA RC R) (_f : (Lit.int .i64 rt).wf = true) :
    Calls Try.prog 7 #[.agg #[.int .i64 bi, .slice A r c], .int .i64 rt] w fun e w' => e = .returned (.bool true) ∧ Below w.heap.size w w' := by
  go_enter Try.func7, Try.ntmps7
  go_wp2_with fail
  obtain ⟨w1, hw1⟩ : ∃ w1, w1 = w.alloc (.cells #[.int .i64 bi, .slice A r c] 28) := ⟨_, rfl⟩
  have B1 : Below w.heap.size w w1 := by rw [hw1]; exact bal (brefl w) _
  have hz1 : w1.heap.size = w.heap.size + 1 := by rw [hw1]; simp
  have M0 : Hid (w1.heap[w.heap.size]? = some (.cells #[.int .i64 bi, .slice A r c] 28 (0, 0))) := by show _ = _; rw [hw1]; exact heap_alloc_new w _
  rw [← hw1]
  clear hw1
  (with_reducible refine (known_any _).mono ?_); rintro e w2 ⟨rfl, b2⟩
  have B2 := bth B1 b2
  have Hb2 := Lib.hid b2
  obtain ⟨k0, k1, _, _⟩ := blk_cell ((b2.block _ (by omega)).trans M0.out)
  clear b2
  go_wp2_with fail
  (with_reducible refine (small9_any R r (by omega) RA RC _ _ _ _ _ ((h.below B2).more B2.size)).mono ?_); rintro e w3 ⟨rfl, b3⟩
  have B3 := bth B2 b3
  have Hb3 := Lib.hid (bth Hb2.out b3)
  clear b3 B2 Hb2 k0 k1
  cases hsm : smallB R r 300 with
  | false =>
    go_wp2_with fail
    go_ret
    exact ⟨rfl, B3⟩
  | true =>
    obtain ⟨h12, hlen⟩ := smallB_true.1 hsm
    have HR : Hid (∀ i, i < r → (R i).length ≤ 100000) := fun i hi => by have := hlen i hi; omega
    obtain ⟨k0, k1, _, _⟩ := blk_cell ((Hb3.out.block _ (by omega)).trans M0.out)
    clear hsm
    go_wp2_with fail
    (with_reducible refine (bmayR_any R r (by omega) HR.out RA RC _ _ _ _ ((h.below B3).more B3.size)).mono ?_); rintro e w4 ⟨rfl, b4⟩
    have B4 := bth B3 b4
    have Hb4 := Lib.hid (bth Hb3.out b4)
    clear b4 B3 Hb3 k0 k1
    cases hmay : bmayB bi R r with
    | false =>
      go_wp2_with fail
      go_ret
      exact ⟨rfl, B4⟩
    | true =>
      have Hmay := Lib.hid hmay
      obtain ⟨a1, a2, a3, a4, a5, a6, _⟩ := bmayB_true.1 hmay
      have hl0 := hlen 0 (by omega)
      have hnr : (R 0).length * r ≤ 2400 := Nat.mul_le_mul (show (R 0).length ≤ 300 by omega) a4
      have hmask : bits .and .i64 rt 1048575 = rt % 1048576 := i64_mask rt 20 (by omega) 1048575 (by decide)
      obtain ⟨q, hq⟩ : ∃ q : Int, q = rt % 1048576 := ⟨_, rfl⟩
      rw [← hq] at hmask
      have q0 : 0 ≤ q := by omega
      have q1 : q < 1048576 := by omega
      have HB4 := Lib.hid B4
      obtain ⟨k0, k1, _, _⟩ := blk_cell ((Hb4.out.block _ (by omega)).trans M0.out)
      clear hmay hlen hq B4
      go_wp2_with fail
      obtain ⟨rate, hrate⟩ : ∃ rate : Int, rate = q + 1 := ⟨_, rfl⟩
      rw [← hrate]
      have r1 : 1 ≤ rate := by omega
      have r2 : rate ≤ 1048576 := by omega
      clear hmask hrate q0 q1
      obtain ⟨w5, hw5⟩ : ∃ w5, w5 = w4.alloc (.cells #[.int .i64 rate, .int .i64 (r : Int), .int .i64 bi] 24) := ⟨_, rfl⟩
      have b5 : Below w4.heap.size w4 w5 := by rw [hw5]; exact bal (brefl w4) _
      have Mf : Hid (w5.heap[w4.heap.size]? = some (.cells #[.int .i64 rate, .int .i64 (r : Int), .int .i64 bi] 24 (0, 0))) := by show _ = _; rw [hw5]; exact heap_alloc_new w4 _
      have hws5 : w4.heap.size < w5.heap.size := by rw [hw5]; simp
      rw [← hw5]
      have B5 := bth HB4.out b5
      have Hb5 := Lib.hid (bth Hb4.out b5)
      clear hw5 b5 Hb4 HB4 k0 k1
      obtain ⟨k0, k1, _, _⟩ := blk_cell ((Hb5.out.block _ (by omega)).trans M0.out)
      obtain ⟨f0, f1, f2⟩ := fmt_cell Mf.out
      have h5 := (h.below B5).more B5.size
      obtain ⟨l, hl⟩ : ∃ l, l = weaveN R r (R 0).length := ⟨_, rfl⟩
      have hwb : weaveB bi R r = l := by rw [weaveB, if_pos Hmay.out, hl]
      have hll : l.length = (R 0).length * r := by rw [hl, weaveN_len]
      obtain ⟨x, hx⟩ : ∃ x, x = partB l rate (r : Int) bi := ⟨_, rfl⟩
      have hx2 : x = ⟨bi, r, partTo l r ((R 0).length * r), 0⟩ := by rw [hx, hl]; exact part_weave Hmay.out r1 r2
      have Hwb := Lib.hid hwb
      have Hll := Lib.hid hll
      have Hl := Lib.hid hl
      have Hx := Lib.hid hx
      have Hx2 := Lib.hid hx2
      have tP : ∀ (A : Option Addr) (c : Nat) (W : World), Ints .i64 W W.heap.size A l → Calls Try.prog 13 #[.slice A l.length c, .agg #[.int .i64 rate, .int .i64 (r : Int), .int .i64 bi]] W (BlkQ x W) := fun A c W ha => by
        rw [hx]
        exact partL_any l _ rfl (by omega) rate (r : Int) bi A c W ha
      clear hwb hll hl hx hx2
      go_upto_region 7 with fail
      go_cut [6, 7] (fun s6 s7 wx => ∃ (g : Nat) (A7 : Option Addr) (c7 : Nat), s6 = .pointer (some ⟨g, 0, none⟩) ∧ s7 = .int .i64 0 ∧ BackQ x w5 wx g A7 c7)
      case first =>
        go_region_held3 (fun w' => w'.cell? ⟨w.heap.size, 0, none⟩ = some (.int .i64 bi) ∧ w'.cell? ⟨w.heap.size, 1, none⟩ = some (.slice A r c) ∧ w'.cell? ⟨w4.heap.size, 0, none⟩ = some (.int .i64 rate) ∧ w'.cell? ⟨w4.heap.size, 1, none⟩ = some (.int .i64 (r : Int)) ∧ w'.cell? ⟨w4.heap.size, 2, none⟩ = some (.int .i64 bi)) (first | (go_keep; done) | exact ⟨later b6 k0, later b6 k1, later b6 f0, later b6 f1, later b6 f2⟩ | exact ⟨later (bth b6 b7) k0, later (bth b6 b7) k1, later (bth b6 b7) f0, later (bth b6 b7) f1, later (bth b6 b7) f2⟩ | exact ⟨later (bal (bth b6 b7) _) k0, later (bal (bth b6 b7) _) k1, later (bal (bth b6 b7) _) f0, later (bal (bth b6 b7) _) f1, later (bal (bth b6 b7) _) f2⟩ | exact ⟨later (below_set2 (bth b6 b7) b6.size _ _) k0, later (below_set2 (bth b6 b7) b6.size _ _) k1, later (below_set2 (bth b6 b7) b6.size _ _) f0, later (below_set2 (bth b6 b7) b6.size _ _) f1, later (below_set2 (bth b6 b7) b6.size _ _) f2⟩ | exact ⟨later (below_set2 (bth b6 b7) (Nat.le_refl _) _ _) k0, later (below_set2 (bth b6 b7) (Nat.le_refl _) _ _) k1, later (below_set2 (bth b6 b7) (Nat.le_refl _) _ _) f0, later (below_set2 (bth b6 b7) (Nat.le_refl _) _ _) f1, later (below_set2 (bth b6 b7) (Nat.le_refl _) _ _) f2⟩)
          (first | (go_at_call 24; (with_reducible refine (weaveL_any R r (by omega) HR.out RA RC _ _ _ _ (by first | exact h5 | exact (h5.below (brefl w5).drew).more (brefl w5).drew.size | exact (h5.below (bal (brefl w5) _).drew).more (bal (brefl w5) _).drew.size | exact (h5.below (bal (brefl w5) _)).more (bal (brefl w5) _).size)).mono ?_); rintro e w6 ⟨A6, c6, rfl, ho6, b6'⟩; rw [Hwb.out] at ho6 ⊢; have b6 : Below w5.heap.size w5 w6 := (by first | exact ⟨b6'.os, b6'.tape, b6'.output, b6'.size, b6'.block⟩ | exact bth (bal (brefl w5) _).drew b6' | exact bth (bal (brefl w5) _) b6'); have z6 := ho6.ints; (first | have m6 := (b6'.block w5.heap.size (by simp)).trans (heap_alloc_new w5 _) | (have m6 := (b6'.block w5.heap.size (by simp)).trans (heap_alloc_new w5.drew _)) | skip))
                    | (go_at_call 13; (with_reducible refine (tP _ _ _ (by first | exact z6 | exact (z6.below (bal (brefl w6) _)).more (bal (brefl w6) _).size)).mono ?_); rintro e w7 ⟨A7, c7, RA7, RC7, rfl, ho7, b7'⟩; have h7 := ho7.rw; have b7 : Below w6.heap.size w6 w7 := (by first | exact ⟨b7'.os, b7'.tape, b7'.output, b7'.size, b7'.block⟩ | exact bth (bal (brefl w6) _) b7'); (first | (have m7 := (b7'.block w6.heap.size (by simp)).trans (heap_alloc_new w6 _); obtain ⟨d0, d1, _, _⟩ := blk_cell m7) | (have hg6 : w5.heap.size < w6.heap.size := Nat.lt_of_lt_of_le (by simp) b6'.size; have m7 := (b7'.block w5.heap.size (by simpa using hg6)).trans m6; obtain ⟨d0, d1, _, _⟩ := blk_cell m7) | skip)))
        all_goals (go_wp2_with fail; go_meet)
        all_goals refine ⟨_, A7, c7, rfl, by rw [Hx2.out], ?_⟩
        · exact backQ_last h7 (bth b6 b7)
        · exact backQ_set ho7 (by simp) (bth b6 b7) b6.size d0 d1
        · exact backQ_set ho7 hg6 (bth b6 b7) (Nat.le_refl _) d0 d1
      case rest =>
        obtain ⟨g, A7, c7, rfl, rfl, ⟨RA7, RC7, h7⟩, g0, g1, b7⟩ := hcut
        have e1 : x.r = r := by rw [Hx2.out]
        have e2 : x.bits = bi := by rw [Hx2.out]
        rw [e1] at h7 g1
        rw [e2] at g0
        have h7' : Rw wc wc.heap.size A7 r RA7 RC7 R := h7.cong fun i hi => by rw [Hx2.out, Hl.out]; exact (part_weave_at Hmay.out hi).symm
        obtain ⟨y, hy⟩ : ∃ y, y = packN (sizeN bi) l := ⟨_, rfl⟩
        have hyl : y.length ≤ 7200 := by
          rw [hy, packN_len, Hll.out]
          have : sizeN bi ≤ 3 := by unfold sizeN; omega
          exact Nat.le_trans (Nat.mul_le_mul hnr this) (by omega)
        have hyb : Byt y := by rw [hy]; exact pack_byt _ _
        have hpk : packB bi R r = (y, 0) := by rw [pack_may Hmay.out, hy, Hl.out]
        have hup : unpackB y rate (r : Int) bi = x := by rw [hy, Hx2.out, Hl.out]; exact unpack_may Hmay.out r1 r2
        have hri : rightB rate (r : Int) bi = true := rightB_true.2 ⟨r1, r2, by omega, by omega, a1, a2⟩
        have Hyl := Lib.hid hyl
        have Hyb := Lib.hid hyb
        have Hpk := Lib.hid hpk
        have Hup := Lib.hid hup
        have Hri := Lib.hid hri
        have He1 := Lib.hid e1
        have He2 := Lib.hid e2
        have B7 := Lib.hid (bth B5 b7)
        have k0' := later b7 k0
        have k1' := later b7 k1
        have f0' := later b7 f0
        have f1' := later b7 f1
        have f2' := later b7 f2
        clear hy hyl hyb hpk hup hri e1 e2 h7 b7 k0 k1 f0 f1 f2 tP h5 B5
        go_wp2_with fail
        have tK := packBL_any R r (by omega) HR.out (by omega) RA RC A c bi wc ((h.below B7.out).more B7.out.size)
        rw [Hpk.out] at tK
        (with_reducible refine tK.mono ?_); rintro e w8 ⟨A8, c8, rfl, ho8, b8⟩
        have hcap := own_cap ho8
        have B8 := Lib.hid (bth B7.out b8)
        have h8 := Lib.hid ((h7'.below b8).more b8.size)
        have k0 := later b8 k0'
        have k1 := later b8 k1'
        have f0 := later b8 f0'
        have f1 := later b8 f1'
        have f2 := later b8 f2'
        have j0 := later b8 g0
        have j1 := later b8 g1
        clear tK b8 k0' k1' f0' f1' f2' g0 g1 h7'
        go_wp2_with fail
        have tU := unpackBL_any y Hyb.out y.length rfl (by have := Hyl.out; omega) rate (r : Int) bi A8 c8 hcap.1 (by have := hcap.2; simp only [maxLen] at this; omega) w8 (OwnB.ints ho8)
        rw [Hup.out] at tU
        (with_reducible refine tU.mono ?_); rintro e w9 hq9
        obtain ⟨A9, c9, RA9, RC9, rfl, h9, b9⟩ := hq9.elim
        rw [He1.out] at h9 ⊢
        rw [He2.out]
        have h9' : Rw w9 w9.heap.size A9 r RA9 RC9 R := h9.cong fun i hi => by rw [Hx2.out, Hl.out]; exact (part_weave_at Hmay.out hi).symm
        have B9 := Lib.hid (bth B8.out b9)
        have h79 := Lib.hid ((h8.out.below b9).more b9.size)
        have ka0 : ∀ o, (w9.alloc o).cell? ⟨w.heap.size, 0, none⟩ = some (.int .i64 bi) := fun o => later (bal b9 o) k0
        have ka1 : ∀ o, (w9.alloc o).cell? ⟨w.heap.size, 1, none⟩ = some (.slice A r c) := fun o => later (bal b9 o) k1
        have ka2 : ∀ o, (w9.alloc o).cell? ⟨w4.heap.size, 0, none⟩ = some (.int .i64 rate) := fun o => later (bal b9 o) f0
        have ka3 : ∀ o, (w9.alloc o).cell? ⟨w4.heap.size, 1, none⟩ = some (.int .i64 (r : Int)) := fun o => later (bal b9 o) f1
        have ka4 : ∀ o, (w9.alloc o).cell? ⟨w4.heap.size, 2, none⟩ = some (.int .i64 bi) := fun o => later (bal b9 o) f2
        have ka5 : ∀ o, (w9.alloc o).cell? ⟨g, 0, none⟩ = some (.int .i64 bi) := fun o => later (bal b9 o) j0
        have ka6 : ∀ o, (w9.alloc o).cell? ⟨g, 1, none⟩ = some (.slice A7 r c7) := fun o => later (bal b9 o) j1
        clear tU hq9 b9 k0 k1 f0 f1 f2 j0 j1 h9 h8 B8
        have ez : x.code = 0 := by rw [Hx2.out]
        rw [ez]
        clear ez
        go_wp2_with fail
        obtain ⟨wa, hwa⟩ : ∃ wa, wa = w9.alloc (.cells #[.int .i64 bi, .slice A9 r c9] 28) := ⟨_, rfl⟩
        have ba : Below w9.heap.size w9 wa := by rw [hwa]; exact bal (brefl w9) _
        have n0 : wa.cell? ⟨w9.heap.size, 0, none⟩ = some (.int .i64 bi) := by rw [hwa]; exact (cell_of_row _ _ _ _ _ _ (heap_alloc_new w9 _)).trans rfl
        have n1 : wa.cell? ⟨w9.heap.size, 1, none⟩ = some (.slice A9 r c9) := by rw [hwa]; exact (cell_of_row _ _ _ _ _ _ (heap_alloc_new w9 _)).trans rfl
        have m0 := ka0 (.cells #[.int .i64 bi, .slice A9 r c9] 28)
        have m1 := ka1 (.cells #[.int .i64 bi, .slice A9 r c9] 28)
        have m5 := ka5 (.cells #[.int .i64 bi, .slice A9 r c9] 28)
        have m6 := ka6 (.cells #[.int .i64 bi, .slice A9 r c9] 28)
        rw [← hwa] at m0 m1 m5 m6 ⊢
        have Ba := Lib.hid (bth B9.out ba)
        have h7a := Lib.hid ((h79.out.below ba).more ba.size)
        have h9a := Lib.hid ((h9'.below ba).more ba.size)
        have ha := Lib.hid ((h.below Ba.out).more Ba.out.size)
        clear hwa ba ka0 ka1 ka2 ka3 ka4 ka5 ka6 h79 h9' B9
        have tR := rightL_any rate (r : Int) bi wa
        rw [Hri.out] at tR
        (with_reducible refine tR.mono ?_); rintro e wb ⟨rfl, bb⟩
        have k0 := later bb m0
        have k1 := later bb m1
        have j0 := later bb m5
        have j1 := later bb m6
        have n0' := later bb n0
        have n1' := later bb n1
        have Bb := Lib.hid (bth Ba.out bb)
        have h7b := Lib.hid ((h7a.out.below bb).more bb.size)
        have h9b := Lib.hid ((h9a.out.below bb).more bb.size)
        have hb := Lib.hid ((ha.out.below bb).more bb.size)
        clear tR bb m0 m1 m5 m6 n0 n1 ha h7a h9a Ba
        go_wp2_with fail
        (with_reducible refine (sameBlock_any bi R r (by omega) HR.out RA RA7 RC RC7 A A7 _ _ c c7 _ (Nat.le_refl _) (Nat.le_refl _) hb.out h7b.out).mono ?_); rintro e wd ⟨rfl, bd⟩
        have k0' := later bd k0
        have k1' := later bd k1
        have n0 := later bd n0'
        have n1 := later bd n1'
        have Bd := Lib.hid (bth Bb.out bd)
        have h9d := Lib.hid ((h9b.out.below bd).more bd.size)
        have hd := Lib.hid ((hb.out.below bd).more bd.size)
        clear bd k0 k1 j0 j1 n0' n1' hb h7b h9b Bb
        go_wp2_with fail
        (with_reducible refine (sameBlock_any bi R r (by omega) HR.out RA RA9 RC RC9 A A9 _ _ c c9 _ (Nat.le_refl _) (Nat.le_refl _) hd.out h9d.out).mono ?_); rintro e we ⟨rfl, be⟩
        have Be := bth Bd.out be
        go_wp2_with fail
        go_ret
        exact ⟨rfl, Be⟩
end Go.Proofs.Ytfihbcpainlpcaa
