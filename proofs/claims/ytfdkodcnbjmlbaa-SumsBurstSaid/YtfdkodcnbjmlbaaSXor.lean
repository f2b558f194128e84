/-
  SumsXor: rows of bytes, one over another; the walk of xored.
-/
import Derived.Test.YtfdkodcnbjmlbaaProg
import Derived.Test.YtfdkodcnbjmlbaaSOne
import Derived.Deep.DeepCutAuto
import Derived.Deep.CutBlock
import Derived.Outline
namespace Go.Proofs.Ytfdkodcnbjmlbaa
open Go.RowKit

def xorI (a b : List Int) : List Int := (List.range a.length).map fun i => bits .xor .u8 (ix a i) (ix b i)
theorem xorI_len (a b : List Int) : (xorI a b).length = a.length := by simp [xorI]
theorem xorI_ix {a b : List Int} {k : Nat} (h : k < a.length) : ix (xorI a b) k = bits .xor .u8 (ix a k) (ix b k) := by unfold xorI; rw [ix_map_range _ _ _ h]
theorem xor8_b {x y : Int} (x0 : 0 ≤ x) (x1 : x < 256) (y0 : 0 ≤ y) (y1 : y < 256) : 0 ≤ bits .xor .u8 x y ∧ bits .xor .u8 x y < 256 := by
  rw [u8_xor _ _ x0 x1 y0 y1]
  have h1 : x.toNat ^^^ y.toNat < 2 ^ 8 := Nat.xor_lt_two_pow (by omega) (by omega)
  omega
theorem byt_xor {a b : List Int} (ha : Byt a) (hb : Byt b) (hl : a.length = b.length) : Byt (xorI a b) := fun x hx => by
  obtain ⟨k, hk, rfl⟩ := mem_ix hx
  rw [xorI_len] at hk
  rw [xorI_ix hk]
  have h1 := ha.ix_ hk
  have h2 := hb.ix_ (k := k) (by omega)
  exact xor8_b h1.1 h1.2 h2.1 h2.2
theorem bv_get {a : List Int} {k : Nat} (h : k < a.length) : (bv a)[k]? = some (BitVec.ofInt 8 (ix a k)) := by simp [bv, ix, h]
theorem bv_xor {a b : List Int} (ha : Byt a) (hb : Byt b) (hl : a.length = b.length) : bv (xorI a b) = xorL (bv a) (bv b) := by
  apply List.ext_getElem?
  intro k
  by_cases hk : k < a.length
  · have h1 := ha.ix_ hk
    have h2 := hb.ix_ (k := k) (by omega)
    rw [bv_get (by rw [xorI_len]; exact hk), xorL, List.getElem?_zipWith, bv_get hk, bv_get (by omega), xorI_ix hk]
    simp only [Option.some.injEq]
    apply BitVec.eq_of_toNat_eq
    have h3 := xor8_b h1.1 h1.2 h2.1 h2.2
    rw [ofInt8_toNat h3.1 h3.2, BitVec.toNat_xor, ofInt8_toNat h1.1 h1.2, ofInt8_toNat h2.1 h2.2, u8_xor _ _ h1.1 h1.2 h2.1 h2.2]
    rfl
  · rw [List.getElem?_eq_none (by simp [bv, xorI]; omega), List.getElem?_eq_none (by simp [bv, xorL]; omega)]
theorem xorI_zero {n : Nat} {a : List Int} (ha : Byt a) (hl : a.length = n) : xorI (List.replicate n 0) a = a := by
  refine ix_ext _ _ (by rw [xorI_len, List.length_replicate, hl]) fun k hk => ?_
  rw [xorI_len, List.length_replicate] at hk
  rw [xorI_ix (by simpa using hk)]
  have h1 := ha.ix_ (k := k) (by omega)
  rw [show ix (List.replicate n (0 : Int)) k = 0 from by simp [ix, hk], u8_xor _ _ (by omega) (by omega) h1.1 h1.2]
  show ((0 ^^^ (ix a k).toNat : Nat) : Int) = _
  rw [Nat.zero_xor]; omega
def xorN (n : Nat) (RL : Nat → List Int) : Nat → List Int
  | 0 => List.replicate n 0
  | i + 1 => xorI (xorN n RL i) (RL i)
theorem xorN_len (n : Nat) (RL : Nat → List Int) (i : Nat) : (xorN n RL i).length = n := by
  induction i with
  | zero => simp [xorN]
  | succ i ih => rw [xorN, xorI_len, ih]
theorem byt_zero (n : Nat) : Byt (List.replicate n 0) := fun x hx => by rw [List.eq_of_mem_replicate hx]; omega
theorem byt_xorN {n : Nat} {RL : Nat → List Int} {r : Nat} (hb : ∀ i, i < r → Byt (RL i)) (hl : ∀ i, i < r → (RL i).length = n) : ∀ i, i ≤ r → Byt (xorN n RL i)
  | 0, _ => byt_zero n
  | i + 1, h => byt_xor (byt_xorN hb hl i (by omega)) (hb i (by omega)) (by rw [xorN_len, hl i (by omega)])
/-- the first k of b, then a. -/
def mixB (a b : List Int) (k : Nat) : List Int := (List.range a.length).map fun j => if j < k then ix b j else ix a j
theorem mixB_len (a b : List Int) (k : Nat) : (mixB a b k).length = a.length := by simp [mixB]
theorem mixB_ix {a b : List Int} {k j : Nat} (h : j < a.length) : ix (mixB a b k) j = if j < k then ix b j else ix a j := by unfold mixB; rw [ix_map_range _ _ _ h]
theorem mixB_zero (a b : List Int) : mixB a b 0 = a := ix_ext _ _ (mixB_len ..) fun j hj => by rw [mixB_ix (by rwa [mixB_len] at hj), if_neg (by omega)]
theorem mixB_all {a b : List Int} (h : b.length = a.length) : mixB a b a.length = b := ix_ext _ _ (by rw [mixB_len, h]) fun j hj => by rw [mixB_len] at hj; rw [mixB_ix hj, if_pos hj]
theorem mixB_set {a b : List Int} {k : Nat} (h : k < a.length) : (mixB a b k).set k (ix b k) = mixB a b (k + 1) := by
  refine ix_ext _ _ (by simp [mixB_len]) fun j hj => ?_
  have hj' : j < a.length := by simpa [mixB_len] using hj
  rw [ix_set _ _ _ _ (by rw [mixB_len]; exact h), mixB_ix hj', mixB_ix hj']
  by_cases e : j = k
  · subst e; simp
  · rw [if_neg e]
    by_cases h' : j < k
    · rw [if_pos h', if_pos (by omega)]
    · rw [if_neg h', if_neg (by omega)]

/-- a slice of r rows of n bytes. -/
structure Rws (w : World) (B g r n : Nat) (RA : Nat → Option Addr) (RC : Nat → Nat) (RL : Nat → List Int) : Prop where
  gl : g < B
  cell : ∀ i, i < r → w.cell? ⟨g, i, none⟩ = some (.slice (RA i) n (RC i))
  ints : ∀ i, i < r → Ints .u8 w B (RA i) (RL i)
  len : ∀ i, i < r → (RL i).length = n
  byt : ∀ i, i < r → Byt (RL i)
theorem Rws.below {w w' : World} {B g r n : Nat} {RA : Nat → Option Addr} {RC : Nat → Nat} {RL : Nat → List Int} (h : Rws w B g r n RA RC RL) (hb : Below B w w') : Rws w' B g r n RA RC RL :=
  { h with cell := fun i hi => (hb.cell (p := ⟨g, i, none⟩) h.gl).trans (h.cell i hi), ints := fun i hi => (h.ints i hi).below hb }
def zobB (n : Nat) : Obj := .cells (madeCells #[.int .u8 0] (n * 1)) 5
theorem run_mkB (n : Nat) (hn : n ≤ 65536) (w : World) : (Instr.makeSlice 22 (.int .i64 (n : Int)) (.int .i64 (n : Int))).run Try.prog w = .ok (.slice (some ⟨w.heap.size, 0, none⟩) n n) (w.alloc (zobB n)) := by
  obtain ⟨i0, hi0, hz0, hz1, hz2⟩ := info_parts byte_info
  have h := run_make (P := Try.prog) w 22 5 i0 _ Try.underlying22 hi0 hz0 .i64 .i64 (n : Int) (n : Int) (by omega) (Int.le_refl _) (by rw [hz2]; omega) (by omega)
  rw [hz1, Int.toNat_natCast] at h
  exact h
theorem zobB_eq (n : Nat) : zobB n = .cells ((List.replicate n (0 : Int)).map (Value.int .u8)).toArray 5 (0, 0) := by
  unfold zobB
  congr 1
  apply Array.toList_inj.1
  rw [toList_madeCells_one]
  simp
theorem ownB_zero (w : World) (n : Nat) (hn : n ≤ 65536) : OwnB (w.alloc (zobB n)) w.heap.size (some ⟨w.heap.size, 0, none⟩) n n (List.replicate n 0) := by
  have h := heap_alloc_new w (zobB n)
  rw [zobB_eq] at h ⊢
  exact own_shut h (by simp) (Nat.le_refl _) (by simp only [maxLen]; omega) (by simp) (Nat.le_refl _)
def XorQ (n : Nat) (l : List Int) (w : World) (e : Ending) (w' : World) : Prop := ∃ A c, e = .returned (.slice A n c) ∧ OwnB w' w.heap.size A n c l ∧ Below w.heap.size w w'

set_option maxHeartbeats 2000000 in
theorem xored_any (r n g : Nat) (RA : Nat → Option Addr) (RC : Nat → Nat) (RL : Nat → List Int) (r1 : 1 ≤ r) (r9 : r ≤ 9) (hn : n ≤ 1000) (cR : Nat) (w : World) (h : Rws w w.heap.size g r n RA RC RL) :
    Calls Try.prog 25 #[.slice (some ⟨g, 0, none⟩) r cR] w (XorQ n (xorN n RL r) w) := by
  have hmk := run_mkB n (by omega)
  have rI : (1 : Int) ≤ (r : Int) := by omega
  have r9I : (r : Int) ≤ 9 := by omega
  have nI : (n : Int) ≤ 1000 := by omega
  have c0 := h.cell 0 (by omega)
  have H := Lib.hid h
  clear h
  go_enter Try.func25, Try.ntmps25
  go_wp2_with fail
  clear c0
  go_loop [3, 4] (fun nv iv => nv = .int .i64 n ∧ ∃ i : Nat, 1 ≤ i ∧ i ≤ r ∧ iv = .int .i64 i) (fun _ iv => r - (intOf iv).toNat)
  case atStart => exact ⟨rfl, 1, by omega, by omega, rfl⟩
  case round =>
    obtain ⟨rfl, i, hi1, hi, rfl⟩ := hrel
    by_cases hlt : i < r
    · have ci := H.out.cell i hlt
      go_wp2_with fail
      go_round
      case rel => exact ⟨rfl, i + 1, by omega, by omega, by go_num⟩
      case measure => simp [intOf]; omega
    · have e : i = r := by omega
      subst e
      go_wp2_with fail
      obtain ⟨gO, hgO⟩ : ∃ gO, gO = w.heap.size := ⟨_, rfl⟩
      have hz : Hid (OwnB (w.alloc (zobB n)) gO (some ⟨gO, 0, none⟩) n n (List.replicate n 0)) := by show OwnB _ _ _ _ _ _; rw [hgO]; exact ownB_zero w n (by omega)
      have Bz : Hid (Below gO w (w.alloc (zobB n))) := by show Below _ _ _; rw [hgO]; exact bal (brefl w) _
      have HR : Hid (Rws (w.alloc (zobB n)) gO g i n RA RC RL) := by show Rws _ _ _ _ _ _ _ _; have := H.out; rw [← hgO] at this; exact this.below Bz.out
      have HgO := Lib.hid hgO
      rw [← hgO]
      obtain ⟨W, hW⟩ : ∃ W, W = w.alloc (zobB n) := ⟨_, rfl⟩
      rw [← hW] at hz Bz HR ⊢
      clear hgO hW hmk
      go_loopw [6, 7] (fun jv _ wr => (∃ j : Nat, j ≤ i ∧ jv = .int .i64 j ∧ OwnB wr gO (some ⟨gO, 0, none⟩) n n (xorN n RL j)) ∧ Below gO W wr) (fun jv _ _ => i - (intOf jv).toNat)
      case atStart => exact ⟨⟨0, Nat.zero_le _, rfl, hz.out⟩, Below.refl _ _⟩
      case round =>
        obtain ⟨⟨j, hj, rfl, ho⟩, hb⟩ := hrel
        obtain ⟨wo, rfl⟩ : ∃ wo : World, wo = wr := ⟨_, rfl⟩
        have ho' := Lib.hid ho
        have hb' := Lib.hid hb
        clear ho hb
        by_cases hlt2 : j < i
        · obtain ⟨X, hX⟩ : ∃ X, X = xorN n RL j := ⟨_, rfl⟩
          obtain ⟨Y, hY⟩ : ∃ Y, Y = xorN n RL (j + 1) := ⟨_, rfl⟩
          have lX : Hid (X.length = n) := by show _ = _; rw [hX, xorN_len]
          have lY : Hid (Y.length = n) := by show _ = _; rw [hY, xorN_len]
          have eY : Hid (∀ k, k < n → ix Y k = bits .xor .u8 (ix X k) (ix (RL j) k)) := fun k hk => by rw [hY, xorN, ← hX, xorI_ix (by rw [lX.out]; exact hk)]
          rw [← hX] at ho'
          have HY := Lib.hid hY
          clear hX hY
          go_wp2_with fail
          go_loopw [7] (fun kv wr => (∃ k : Nat, k ≤ n ∧ kv = .int .i64 k ∧ OwnB wr gO (some ⟨gO, 0, none⟩) n n (mixB X Y k)) ∧ Below gO W wr) (fun kv _ => n - (intOf kv).toNat)
          case atStart => exact ⟨⟨0, Nat.zero_le _, rfl, by rw [mixB_zero]; exact ho'.out⟩, hb'.out⟩
          case round =>
            obtain ⟨⟨k, hk, rfl, ho2⟩, hb2⟩ := hrel
            obtain ⟨wp, rfl⟩ : ∃ wp : World, wp = wr := ⟨_, rfl⟩
            have ho2' := Lib.hid ho2
            have hb2' := Lib.hid hb2
            clear ho2 hb2
            by_cases hlt3 : k < n
            · have hR := HR.out.below hb2'.out
              have d1 := hR.cell j hlt2
              obtain ⟨bb, oo, ee, d2⟩ := (hR.ints j hlt2).at_ (i := k) (by rw [hR.len j hlt2]; exact hlt3)
              rw [ee] at d1
              have d3 := ownB_cell ho2'.out hlt3
              rw [mixB_ix (by rw [lX.out]; exact hlt3), if_neg (by omega)] at d3
              have d4 := World.ownsRow.frozenAt ho2'.out k
              have t1 : (0 : Int) ≤ (j : Int) := by omega
              have t2 : (j : Int) < (i : Int) := by omega
              have t3 : (0 : Int) ≤ (k : Int) := by omega
              have t4 : (k : Int) < (n : Int) := by omega
              have t5 : (k : Int).toNat = k := by omega
              have t6 : (j : Int).toNat = j := by omega
              clear hR ee
              go_wp2_with fail
              go_still_tail 13, (by kernel_rfl)
              go_wp2_with fail
              go_roundw
              case rel =>
                refine ⟨⟨k + 1, by omega, by go_num, ?_⟩, (hb2'.out.setCell (p := ⟨gO, k, none⟩) (Nat.le_refl _) _).drew⟩
                rw [← mixB_set (by rw [lX.out]; exact hlt3), eY.out k hlt3]
                exact ownB_set ho2'.out k _
              case measure => simp [intOf]; omega
            · have e : k = n := by omega
              subst e
              have ho3 : Hid (OwnB wp gO (some ⟨gO, 0, none⟩) k k Y) := by
                have h := ho2'.out
                have hl := mixB_all (a := X) (b := Y) (by rw [lX.out, lY.out])
                rw [lX.out] at hl
                rw [hl] at h
                exact h
              go_wp2_with fail
              go_roundw
              case rel => exact ⟨⟨j + 1, by omega, by go_num, by rw [← HY.out]; exact ho3.out⟩, hb2'.out⟩
              case measure => simp [intOf]; omega
        · have e : j = i := by omega
          subst e
          go_wp2_with fail
          go_ret
          have h1 := ho'.out
          have h2 := Bz.out.trans hb'.out
          rw [HgO.out] at h1 h2
          exact ⟨_, n, by rw [HgO.out]; rfl, h1, h2⟩

theorem crc8_xor {a b : List Int} (ha : Byt a) (hb : Byt b) (hl : a.length = b.length) : bits .xor .u8 (((crc8 a).toNat : Nat) : Int) (((crc8 b).toNat : Nat) : Int) = (((crc8 (xorI a b)).toNat : Nat) : Int) := by
  have h1 := (crc8 a).isLt
  have h2 := (crc8 b).isLt
  have e : crc8 (xorI a b) = crc8 a ^^^ crc8 b := by
    unfold crc8
    rw [bv_xor ha hb hl]
    have h := run8_xor (bv a) (bv b) 0 0 (by simp [bv, hl])
    rw [BitVec.xor_self] at h
    exact h
  rw [e, u8_xor _ _ (by omega) (by omega) (by omega) (by omega), BitVec.toNat_xor]; rfl
theorem crc16_xor {a b : List Int} (ha : Byt a) (hb : Byt b) (hl : a.length = b.length) : bits .xor .u16 (((crc16 a).toNat : Nat) : Int) (((crc16 b).toNat : Nat) : Int) = (((crc16 (xorI a b)).toNat : Nat) : Int) := by
  have h1 := (crc16 a).isLt
  have h2 := (crc16 b).isLt
  have e : crc16 (xorI a b) = crc16 a ^^^ crc16 b := by
    unfold crc16
    rw [bv_xor ha hb hl]
    have h := run16_xor (bv a) (bv b) 0 0 (by simp [bv, hl])
    rw [BitVec.xor_self] at h
    exact h
  rw [e, u16_xor _ _ (by omega) (by omega) (by omega) (by omega), BitVec.toNat_xor]; rfl
theorem not3 (x y z : BitVec 32) : ~~~ ((x ^^^ y) ^^^ z) = (~~~ x ^^^ ~~~ y) ^^^ ~~~ z := by
  ext i hi
  simp
theorem crc32_xor {a b c : List Int} (ha : Byt a) (hb : Byt b) (hc : Byt c) (hl : a.length = b.length) (hl2 : a.length = c.length) :
    bits .xor .u32 (bits .xor .u32 (((crc32 a).toNat : Nat) : Int) (((crc32 b).toNat : Nat) : Int)) (((crc32 c).toNat : Nat) : Int) = (((crc32 (xorI (xorI a b) c)).toNat : Nat) : Int) := by
  have h1 := (crc32 a).isLt
  have h2 := (crc32 b).isLt
  have h3 := (crc32 c).isLt
  have e : crc32 (xorI (xorI a b) c) = (crc32 a ^^^ crc32 b) ^^^ crc32 c := by
    unfold crc32
    rw [bv_xor (byt_xor ha hb hl) hc (by rw [xorI_len]; exact hl2), bv_xor ha hb hl, ← not3]
    congr 1
    have h := run32_xor (bv a) (bv b) 0xffffffff#32 0xffffffff#32 (by simp [bv, hl])
    have h' := run32_xor (xorL (bv a) (bv b)) (bv c) (0xffffffff#32 ^^^ 0xffffffff#32) 0xffffffff#32 (by simp [bv, xorL, hl]; omega)
    rw [h] at h'
    rw [← h']
    congr 1
  have hx : bits .xor .u32 (((crc32 a).toNat : Nat) : Int) (((crc32 b).toNat : Nat) : Int) = (((crc32 a ^^^ crc32 b).toNat : Nat) : Int) := by
    rw [u32_xor _ _ (by omega) (by omega) (by omega) (by omega), BitVec.toNat_xor]; rfl
  have h4 := (crc32 a ^^^ crc32 b).isLt
  rw [e, hx, u32_xor _ _ (by omega) (by omega) (by omega) (by omega), BitVec.toNat_xor]; rfl
def ra2 (x y : Option Addr) (i : Nat) : Option Addr := if i = 0 then x else y
def rc2 (x y : Nat) (i : Nat) : Nat := if i = 0 then x else y
def rl2 (x y : List Int) (i : Nat) : List Int := if i = 0 then x else y
def ra3 (x y z : Option Addr) (i : Nat) : Option Addr := if i = 0 then x else if i = 1 then y else z
def rc3 (x y z : Nat) (i : Nat) : Nat := if i = 0 then x else if i = 1 then y else z
def rl3 (x y z : List Int) (i : Nat) : List Int := if i = 0 then x else if i = 1 then y else z
theorem rws_two {w : World} {n c1 c2 : Nat} {A1 A2 : Option Addr} {a b : List Int} {t : TypeId} (ha : Ints .u8 w w.heap.size A1 a) (hb : Ints .u8 w w.heap.size A2 b) (la : a.length = n) (lb : b.length = n) (fa : Byt a) (fb : Byt b) :
    Rws (w.alloc (.cells #[.slice A1 n c1, .slice A2 n c2] t)) (w.alloc (.cells #[.slice A1 n c1, .slice A2 n c2] t)).heap.size w.heap.size 2 n (ra2 A1 A2) (rc2 c1 c2) (rl2 a b) := by
  have hbl := bal (brefl w) (.cells #[.slice A1 n c1, .slice A2 n c2] t)
  have key : ∀ i, i < 2 → i = 0 ∨ i = 1 := fun i hi => by omega
  refine ⟨by simp, fun i hi => ?_, fun i hi => ?_, fun i hi => ?_, fun i hi => ?_⟩ <;> rcases key i hi with rfl | rfl
  · simp [World.cell?_alloc_new, ra2, rc2]
  · simp [World.cell?_alloc_new, ra2, rc2]
  · exact (ha.below hbl).more hbl.size
  · exact (hb.below hbl).more hbl.size
  · exact la
  · exact lb
  · exact fa
  · exact fb
theorem rws_three {w : World} {n c1 c2 c3 : Nat} {A1 A2 A3 : Option Addr} {a b d : List Int} {t : TypeId} (ha : Ints .u8 w w.heap.size A1 a) (hb : Ints .u8 w w.heap.size A2 b) (hd : Ints .u8 w w.heap.size A3 d) (la : a.length = n) (lb : b.length = n) (ld : d.length = n) (fa : Byt a) (fb : Byt b) (fd : Byt d) :
    Rws (w.alloc (.cells #[.slice A1 n c1, .slice A2 n c2, .slice A3 n c3] t)) (w.alloc (.cells #[.slice A1 n c1, .slice A2 n c2, .slice A3 n c3] t)).heap.size w.heap.size 3 n (ra3 A1 A2 A3) (rc3 c1 c2 c3) (rl3 a b d) := by
  have hbl := bal (brefl w) (.cells #[.slice A1 n c1, .slice A2 n c2, .slice A3 n c3] t)
  have key : ∀ i, i < 3 → i = 0 ∨ i = 1 ∨ i = 2 := fun i hi => by omega
  refine ⟨by simp, fun i hi => ?_, fun i hi => ?_, fun i hi => ?_, fun i hi => ?_⟩ <;> rcases key i hi with rfl | rfl | rfl
  · simp [World.cell?_alloc_new, ra3, rc3]
  · simp [World.cell?_alloc_new, ra3, rc3]
  · simp [World.cell?_alloc_new, ra3, rc3]
  · exact (ha.below hbl).more hbl.size
  · exact (hb.below hbl).more hbl.size
  · exact (hd.below hbl).more hbl.size
  · exact la
  · exact lb
  · exact ld
  · exact fa
  · exact fb
  · exact fd
theorem xorN_two {n : Nat} {a b : List Int} (la : a.length = n) (fa : Byt a) : xorN n (rl2 a b) 2 = xorI a b := by
  show xorI (xorI (List.replicate n 0) a) b = _
  rw [xorI_zero fa la]
theorem xorN_three {n : Nat} {a b d : List Int} (la : a.length = n) (fa : Byt a) : xorN n (rl3 a b d) 3 = xorI (xorI a b) d := by
  show xorI (xorI (xorI (List.replicate n 0) a) b) d = _
  rw [xorI_zero fa la]

set_option maxHeartbeats 2000000 in
set_option maxRecDepth 100000 in
theorem xor_any (a0 : List Int) (_ma : a0.length ≤ 9223372036854775807) (A1 : Option Addr) (c1 : Nat) (k1 : a0.length ≤ c1) (b0 : List Int) (_mb : b0.length ≤ 9223372036854775807) (A2 : Option Addr) (c2 : Nat) (k2 : b0.length ≤ c2) (d0 : List Int) (_md : d0.length ≤ 9223372036854775807) (A3 : Option Addr) (c3 : Nat) (k3 : d0.length ≤ c3) (w : World)
    (ha0 : Ints .u8 w w.heap.size A1 a0) (fa0 : Fit .u8 a0) (hb0 : Ints .u8 w w.heap.size A2 b0) (fb0 : Fit .u8 b0) (hd0 : Ints .u8 w w.heap.size A3 d0) (fd0 : Fit .u8 d0) :
    Calls Try.prog 10 #[.slice A1 a0.length c1, .slice A2 b0.length c2, .slice A3 d0.length c3] w fun e w' => e = .returned (.bool true) ∧ Below w.heap.size w w' := by
  obtain ⟨m, hm⟩ : ∃ m : Nat, (if b0.length < a0.length then (b0.length : Int) else (a0.length : Int)) = (m : Int) := ⟨if b0.length < a0.length then b0.length else a0.length, by split <;> rfl⟩
  obtain ⟨n, hn⟩ : ∃ n : Nat, (if d0.length < m then (d0.length : Int) else (m : Int)) = (n : Int) := ⟨if d0.length < m then d0.length else m, by split <;> rfl⟩
  have nm : n ≤ a0.length ∧ n ≤ b0.length ∧ n ≤ d0.length := by
    have h1 := hm
    have h2 := hn
    split at h1 <;> split at h2 <;> omega
  obtain ⟨na, nb, nd⟩ := nm
  by_cases q1 : 500 < n
  · have hI : (500 : Int) < (n : Int) := by omega
    go_enter Try.func10, Try.ntmps10
    go_wp2_with fail
    (with_reducible refine (known_any _).mono ?_); rintro e w1 ⟨rfl, b1⟩
    go_wp2_with fail
    go_ret
    exact ⟨rfl, b1⟩
  have q1I : (n : Int) ≤ 500 := by omega
  clear q1
  obtain ⟨a, ea⟩ : ∃ a, a = a0.take n := ⟨_, rfl⟩
  obtain ⟨b, eb⟩ : ∃ b, b = b0.take n := ⟨_, rfl⟩
  obtain ⟨d, ed⟩ : ∃ d, d = d0.take n := ⟨_, rfl⟩
  have la : Hid (a.length = n) := by show _ = _; rw [ea, List.length_take]; omega
  have lb : Hid (b.length = n) := by show _ = _; rw [eb, List.length_take]; omega
  have ld : Hid (d.length = n) := by show _ = _; rw [ed, List.length_take]; omega
  have fa : Hid (Byt a) := by show Byt _; rw [ea]; exact byt_take (byt_of fa0) n
  have fb : Hid (Byt b) := by show Byt _; rw [eb]; exact byt_take (byt_of fb0) n
  have fd : Hid (Byt d) := by show Byt _; rw [ed]; exact byt_take (byt_of fd0) n
  have ha : Hid (Ints .u8 w w.heap.size A1 a) := by show Ints _ _ _ _ _; rw [ea]; exact ints_take ha0 n
  have hb : Hid (Ints .u8 w w.heap.size A2 b) := by show Ints _ _ _ _ _; rw [eb]; exact ints_take hb0 n
  have hd : Hid (Ints .u8 w w.heap.size A3 d) := by show Ints _ _ _ _ _; rw [ed]; exact ints_take hd0 n
  have e8 := Lib.hid (crc8_xor fa.out fb.out (by rw [la.out, lb.out]))
  have e16 := Lib.hid (crc16_xor fa.out fb.out (by rw [la.out, lb.out]))
  have e32 := Lib.hid (crc32_xor fa.out fb.out fd.out (by rw [la.out, lb.out]) (by rw [la.out, ld.out]))
  have n1 : (0 : Int) ≤ (n : Int) := by omega
  have n2 : (n : Int) ≤ (c1 : Int) := by omega
  have n3 : (n : Int) ≤ (c2 : Int) := by omega
  have n4 : (n : Int) ≤ (c3 : Int) := by omega
  clear ea eb ed ha0 hb0 hd0 fa0 fb0 fd0
  go_enter Try.func10, Try.ntmps10
  go_wp2_with fail
  (with_reducible refine (known_any _).mono ?_); rintro e w1 ⟨rfl, b1⟩
  have B1 := Lib.hid b1
  clear b1
  go_wp2_with fail
  go_quiet (fail)
  clear hm hn
  obtain ⟨W, hW⟩ : ∃ W, W = w1.drewN nq := ⟨_, rfl⟩
  have BW : Hid (Below w.heap.size w W) := by show Below _ _ _; rw [hW]; exact below_drewN B1.out _
  rw [← hW]
  clear hW
  go_wp2_with fail
  (with_reducible refine (xored_any 2 n _ _ _ _ (by omega) (by omega) (by omega) _ _ (rws_two ((ha.out.below BW.out).more BW.out.size) ((hb.out.below BW.out).more BW.out.size) la.out lb.out fa.out fb.out)).mono ?_); rintro e w2 ⟨R2, r2, rfl, o2, b2⟩
  rw [xorN_two la.out fa.out] at o2
  have BW2 := Lib.hid (bth (bal BW.out _) b2)
  have o2' := Lib.hid o2
  clear o2 b2
  go_wp2_with fail
  (with_reducible refine (xored_any 3 n _ _ _ _ (by omega) (by omega) (by omega) _ _ (rws_three ((ha.out.below BW2.out).more BW2.out.size) ((hb.out.below BW2.out).more BW2.out.size) ((hd.out.below BW2.out).more BW2.out.size) la.out lb.out ld.out fa.out fb.out fd.out)).mono ?_); rintro e w3 ⟨R3, r3, rfl, o3, b3⟩
  rw [xorN_three la.out fa.out] at o3
  have B3 := Lib.hid (bth (bal BW2.out _) b3)
  have z2 := Lib.hid (o2'.out.ints.below (bth (bal (brefl w2) _) b3))
  have z3 := Lib.hid o3.ints
  have ya := Lib.hid (ha.out.below B3.out)
  have yb := Lib.hid (hb.out.below B3.out)
  have yd := Lib.hid (hd.out.below B3.out)
  clear o3 b3
  have l2 : Hid (n = (xorI a b).length) := by show _ = _; rw [xorI_len, la.out]
  have l3 : Hid (n = (xorI (xorI a b) d).length) := by show _ = _; rw [xorI_len, xorI_len, la.out]
  have f2 := Lib.hid (byt_xor fa.out fb.out (by rw [la.out, lb.out]))
  have f3 := Lib.hid (byt_xor f2.out fd.out (by rw [xorI_len, la.out, ld.out]))
  go_wp2_with fail
  (with_reducible refine (eightL_any (xorI a b) f2.out _ l2.out (by omega) _ _ _ _ z2.out).mono ?_); rintro e w' ⟨rfl, rfl⟩
  go_wp2_with fail
  (with_reducible refine (eightL_any a fa.out _ la.out.symm (by omega) _ _ _ _ ya.out).mono ?_); rintro e w' ⟨rfl, rfl⟩
  go_wp2_with fail
  (with_reducible refine (eightL_any b fb.out _ lb.out.symm (by omega) _ _ _ _ yb.out).mono ?_); rintro e w' ⟨rfl, rfl⟩
  have t8 := e8.out
  go_wp2_with fail
  clear t8
  (with_reducible refine (sixteenL_any (xorI a b) f2.out _ l2.out (by omega) _ _ _ _ z2.out).mono ?_); rintro e w' ⟨rfl, rfl⟩
  go_wp2_with fail
  (with_reducible refine (sixteenL_any a fa.out _ la.out.symm (by omega) _ _ _ _ ya.out).mono ?_); rintro e w' ⟨rfl, rfl⟩
  go_wp2_with fail
  (with_reducible refine (sixteenL_any b fb.out _ lb.out.symm (by omega) _ _ _ _ yb.out).mono ?_); rintro e w' ⟨rfl, rfl⟩
  have t16 := e16.out
  go_wp2_with fail
  clear t16
  (with_reducible refine (thirtyL_any (xorI (xorI a b) d) f3.out _ l3.out (by omega) _ _ _ _ z3.out).mono ?_); rintro e w' ⟨rfl, rfl⟩
  go_wp2_with fail
  (with_reducible refine (thirtyL_any a fa.out _ la.out.symm (by omega) _ _ _ _ ya.out).mono ?_); rintro e w' ⟨rfl, rfl⟩
  go_wp2_with fail
  (with_reducible refine (thirtyL_any b fb.out _ lb.out.symm (by omega) _ _ _ _ yb.out).mono ?_); rintro e w' ⟨rfl, rfl⟩
  go_wp2_with fail
  (with_reducible refine (thirtyL_any d fd.out _ ld.out.symm (by omega) _ _ _ _ yd.out).mono ?_); rintro e w' ⟨rfl, rfl⟩
  have t32 := e32.out
  go_wp2_with fail
  go_ret
  exact ⟨rfl, B3.out⟩
end Go.Proofs.Ytfdkodcnbjmlbaa
