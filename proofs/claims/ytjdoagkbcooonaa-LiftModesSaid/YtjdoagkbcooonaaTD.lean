/-
  lift.apply and the reference's one; Do of both.
-/
import Derived.Test.YtjdoagkbcooonaaProg
import Derived.Test.YtjdoagkbcooonaaTC
import Derived.Test.YtjdoagkbcooonaaNSMix
namespace Go.Proofs.Ytjdoagkbcooonaa
open Go.RowKit

/-- rows R, row t in the midst of becoming ys. -/
def midR (R : Nat → List Int) (t : Nat) (ys : List Int) (j : Nat) : Nat → List Int := fun q => if q = t then mixTo (R t) ys j else R q
theorem midR_zero (R : Nat → List Int) (t : Nat) (ys : List Int) : midR R t ys 0 = R := by
  funext q
  unfold midR
  split
  · rename_i h; subst h; rw [mixTo_zero]
  · rfl
theorem midR_all {R : Nat → List Int} {f t : Nat} {g sg : Int} {m : Nat} (ht : (R t).length = m) (hf : (R f).length = m) : midR R t (appRow (R t) (R f) g sg) m = appP R f t g sg := by
  funext q
  unfold midR appP
  split
  · rw [mixTo_all (by rw [appRow_len, ht, hf]) (by omega)]
  · rfl
theorem midR_t (R : Nat → List Int) (t : Nat) (ys : List Int) (j : Nat) : midR R t ys j t = mixTo (R t) ys j := by simp [midR]
theorem midR_o {R : Nat → List Int} {t q : Nat} {ys : List Int} {j : Nat} (h : q ≠ t) : midR R t ys j q = R q := by simp [midR, h]
theorem midR_set {R : Nat → List Int} {t : Nat} {ys : List Int} {j : Nat} (h : j < (R t).length) : (fun q => if q = t then (midR R t ys j t).set j (ix ys j) else midR R t ys j q) = midR R t ys (j + 1) := by
  funext q
  by_cases e : q = t
  · subst e; rw [if_pos rfl, midR_t, midR_t, mixTo_set h]
  · rw [if_neg e, midR_o e, midR_o e]

theorem gx_b {g x : Int} (h1 : -1024 ≤ g) (h2 : g ≤ 1024) (h3 : -1073741824 ≤ x) (h4 : x < 1073741824) : -1099511627776 ≤ g * x ∧ g * x ≤ 1099511627776 := by
  have h5 : (g * x).natAbs = g.natAbs * x.natAbs := Int.natAbs_mul g x
  have h6 : g.natAbs * x.natAbs ≤ 1024 * 1073741824 := Nat.mul_le_mul (by omega) (by omega)
  omega

def ApQ (B : Nat) (A : Option Addr) (n c m : Nat) (RA : Nat → Option Addr) (RC : Nat → Nat) (R : Nat → List Int) (f t : Nat) (g sg : Int) (w : World) (e : Ending) (w' : World) : Prop :=
  e = .returned (.bool (allWideB (appRow (R t) (R f) g sg))) ∧ (allWideB (appRow (R t) (R f) g sg) = true → OwnM w' B A n c m RA RC (appP R f t g sg)) ∧ Kp (fun q => (Value.slice (RA t) m (RC t)).ownBlock = some q) w w'

set_option maxHeartbeats 2000000 in
theorem applyL_any {w : World} {B n c m : Nat} {A : Option Addr} {RA : Nat → Option Addr} {RC : Nat → Nat} {R : Nat → List Int} (h : OwnM w B A n c m RA RC R) (hm : m ≤ 10000) (hw : ∀ i, i < n → allWideB (R i) = true) (f t : Nat) (hf : f < n) (ht : t < n) (hft : f ≠ t) (g sg : Int) (g1 : -1024 ≤ g) (g2 : g ≤ 1024) (hsg : sg = 1 ∨ sg = -1) (n8 : n ≤ 1000)
    (fI tI : Int) (hfI : fI = (f : Int)) (htI : tI = (t : Int)) :
    Calls Try.prog 33 #[.slice A n c, .agg #[.int .i64 fI, .int .i64 tI, .int .i64 g], .int .i64 sg] w (ApQ B A n c m RA RC R f t g sg w) := by
  subst hfI
  subst htI
  have HW := Lib.hid hw
  obtain ⟨ga, rfl, hga1, hga2, hcells⟩ := h.addr (by omega)
  have hlf := Lib.hid (h.len hf)
  have hlt' := Lib.hid (h.len ht)
  obtain ⟨ys, hys⟩ : ∃ ys, ys = appRow (R t) (R f) g sg := ⟨_, rfl⟩
  have Hys := Lib.hid hys
  have hyl : Hid (ys.length = m) := by show _ = _; rw [hys, appRow_len, hlf.out]
  have c1 := hcells f hf
  have c2 := hcells t ht
  have s1 : (f : Int) < (n : Int) := by omega
  have s2 : (t : Int) < (n : Int) := by omega
  have s3 : (0 : Int) ≤ (t : Int) := by omega
  have s4 : (0 : Int) ≤ (f : Int) := by omega
  have hsg1 : -1 ≤ sg := by omega
  have hsg2 : sg ≤ 1 := by omega
  have Hsg := Lib.hid hsg
  have H := Lib.hid h
  have hob : Hid (∀ q, (Value.slice (RA t) m (RC t)).ownBlock = some q → q ≠ ga ∧ q < w.heap.size) := fun q hq => ⟨fun e => H.out.osep t ht ga rfl (by rw [← e]; exact hq), (H.out.lt q (.inr ⟨t, ht, hq⟩)).2⟩
  clear hw hys h hsg hcells
  by_cases m0 : m = 0
  · subst m0
    have hz : Hid (ys = []) := List.eq_nil_of_length_eq_zero hyl.out
    have nz1 := World.new_ne w _ c1
    go_enter Try.func33, Try.ntmps33
    go_wp2_with fail
    go_loop [7, 8, 9, 16] (fun _ _ _ iv => iv = .int .i64 0) (fun _ _ _ _ => 0)
    case atStart => rfl
    case round =>
      subst hrel
      go_wp2_with fail
      go_ret
      unfold ApQ
      rw [← Hys.out, hz.out]
      refine ⟨rfl, fun _ => ?_, (Kp.refl _ _).alloc _⟩
      have := midR_all (R := R) (f := f) (t := t) (g := g) (sg := sg) (m := 0) hlt'.out hlf.out
      rw [midR_zero] at this
      rw [← this]
      exact H.out.below (bal (brefl w) _) (Nat.le_refl _)
  · have mp : 0 < m := by omega
    obtain ⟨gf, ef, hgf1, hgf2⟩ := own_addr (H.out.inner f hf) mp
    obtain ⟨gt, et, hgt1, hgt2⟩ := own_addr (H.out.inner t ht) mp
    rw [ef] at c1
    rw [et] at c2
    have Ef := Lib.hid ef
    have Et := Lib.hid et
    have hobt : (Value.slice (RA t) m (RC t)).ownBlock = some gt := by rw [et]; rfl
    have hne1 : gt ≠ ga := (hob.out gt hobt).1
    have hne2 : gf ≠ gt := fun e => H.out.sep f t hf ht hft gf (by rw [ef]; rfl) (by rw [e]; exact hobt)
    have nz1 := World.new_ne w _ c1
    have nz2 := World.new_ne w _ c2
    have hHobt := Lib.hid hobt
    clear ef et hobt m0
    go_enter Try.func33, Try.ntmps33
    go_wp2_with fail
    have hbx : (w.alloc (.cells #[.int .i64 (f : Int), .int .i64 (t : Int), .int .i64 g] 52)).heap[w.heap.size]? = some (.cells #[.int .i64 (f : Int), .int .i64 (t : Int), .int .i64 g] 52 (0, 0)) := heap_alloc_new w _
    have Hbx := Lib.hid hbx
    clear hbx nz1 nz2
    go_loopw [7, 8, 9, 16] (fun _ _ _ iv wi => (∃ j : Nat, j ≤ m ∧ iv = .int .i64 j ∧ OwnM wi B (some ⟨ga, 0, none⟩) n c m RA RC (midR R t ys j) ∧ ∀ i, i < j → wideB (ix ys i) = true) ∧ Kp (fun q => q = gt) w wi ∧ wi.heap[w.heap.size]? = some (.cells #[.int .i64 (f : Int), .int .i64 (t : Int), .int .i64 g] 52 (0, 0))) (fun _ _ _ iv _ => m - (intOf iv).toNat)
    case atStart => exact ⟨⟨0, Nat.zero_le _, rfl, by rw [midR_zero]; exact H.out.below (bal (brefl w) _) (Nat.le_refl _), fun i hi => absurd hi (by omega)⟩, (Kp.refl _ _).alloc _, Hbx.out⟩
    case round =>
      obtain ⟨⟨j, hj, rfl, ho, hw2⟩, hkp, hbx⟩ := hrel
      obtain ⟨wi, rfl⟩ : ∃ wi : World, wi = wr := ⟨_, rfl⟩
      have Ho := Lib.hid ho
      have Hw2 := Lib.hid hw2
      have Hkp := Lib.hid hkp
      have Hb := Lib.hid hbx
      clear ho hw2 hkp hbx
      by_cases hlt : j < m
      · have x0 := cell_of_row wi w.heap.size 0 _ _ _ Hb.out
        have x1 := cell_of_row wi w.heap.size 1 _ _ _ Hb.out
        have x2 := cell_of_row wi w.heap.size 2 _ _ _ Hb.out
        simp only [List.getElem?_toArray, List.getElem?_cons_zero, List.getElem?_cons_succ] at x0 x1 x2
        obtain ⟨_, hga', _, _, hcl⟩ := Ho.out.addr (by omega)
        simp only [Option.some.injEq, Addr.mk.injEq, and_true] at hga'
        subst hga'
        have d2 := hcl t ht
        rw [Et.out] at d2
        have e1 := Ho.out.inner f hf
        have e2 := Ho.out.inner t ht
        rw [Ef.out, midR_o hft] at e1
        rw [Et.out, midR_t] at e2
        have d3 := own_cell e1 hlt
        have d4 := own_cell e2 hlt
        rw [mixTo_ix (by rw [hlt'.out]; exact hlt), if_neg (by omega)] at d4
        have d5 := World.ownsRow.frozenAt e2 j
        have hx := wideB_true.1 (allWideB_true.1 (HW.out f hf) j (by rw [hlf.out]; exact hlt))
        have hy := wideB_true.1 (allWideB_true.1 (HW.out t ht) j (by rw [hlt'.out]; exact hlt))
        obtain ⟨x, hxx⟩ : ∃ x, x = ix (R f) j := ⟨_, rfl⟩
        obtain ⟨y, hyy⟩ : ∃ y, y = ix (R t) j := ⟨_, rfl⟩
        rw [← hxx] at d3 hx
        rw [← hyy] at d4 hy
        obtain ⟨z, hz⟩ : ∃ z, z = ix ys j := ⟨_, rfl⟩
        have Hz := Lib.hid hz
        obtain ⟨gb1, gb2⟩ := gx_b g1 g2 hx.1 hx.2
        have hz2 : z = y + sg * (g * x / 256) := by rw [hz, Hys.out, appRow_ix (by rw [hlf.out]; exact hlt), hxx, hyy]
        have t1 : IntKind.i64.wrap (g * x) = g * x := IntWalk.i64_in _ (by omega)
        have hq : -4294967296 ≤ g * x / 256 ∧ g * x / 256 ≤ 4294967296 := by omega
        have hq2 : -4294967296 ≤ sg * (g * x / 256) ∧ sg * (g * x / 256) ≤ 4294967296 := by
          rcases Hsg.out with e | e <;> (rw [e]; omega)
        have t2 : IntKind.i64.wrap (sg * (g * x / 256)) = sg * (g * x / 256) := IntWalk.i64_in _ (by omega)
        have t3 : IntKind.i64.wrap (y + sg * (g * x / 256)) = z := by rw [hz2]; exact IntWalk.i64_in _ (by omega)
        have s5 : (0 : Int) ≤ (j : Int) := by omega
        have s6 : (j : Int) < (m : Int) := by omega
        have T1 := Lib.hid t1
        have T2 := Lib.hid t2
        have T3 := Lib.hid t3
        clear hx hy hxx hyy hz hz2 hq hq2 gb1 gb2 e1 e2 hcl t1 t2 t3
        go_wp2_with fail
        have t1 := T1.out
        have t2 := T2.out
        have t3 := T3.out
        go_quiet (fail)
        clear t1 t2 t3
        go_wp2_with fail
        (with_reducible refine (wideT_any _ _).mono ?_); rintro e w' ⟨rfl, rfl⟩
        cases hyw : wideB z with
        | false =>
          have hno : Hid (allWideB ys = false) := allWideB_false (by rw [hyl.out]; exact hlt) (by rw [← Hz.out]; exact hyw)
          have Hyw := Lib.hid hyw
          clear hyw
          go_wp2_with fail
          go_ret
          unfold ApQ
          rw [← Hys.out, hno.out]
          exact ⟨rfl, (fun h => by cases h), (Hkp.out.drewN _).mono fun q hq => by rw [hq]; exact hHobt.out⟩
        | true =>
          have Hyw := Lib.hid hyw
          clear hyw
          have hms := Lib.hid (midR_set (R := R) (t := t) (ys := ys) (j := j) (by rw [hlt'.out]; exact hlt))
          go_wp2_with fail
          go_roundw
          case rel =>
            refine ⟨⟨j + 1, by omega, by go_num, ?_, fun i hi => ?_⟩, (Hkp.out.drewN _).set_ (p := ⟨gt, j, none⟩) rfl _, ?_⟩
            · rw [← hms.out, ← Hz.out]
              exact (Ho.out.drewN nq).set_ ht Et.out j z
            · by_cases e : i = j
              · subst e; rw [← Hz.out]; exact Hyw.out
              · exact Hw2.out i (by omega)
            · exact (Below.heap_setCell _ _ _ _ (by simp; omega)).trans Hb.out
          case measure => simp [intOf]; omega
      · have e : j = m := by omega
        subst e
        have hall : Hid (allWideB ys = true) := allWideB_true.2 fun i hi => Hw2.out i (by rw [← hyl.out]; exact hi)
        have hmid := midR_all (R := R) (f := f) (t := t) (g := g) (sg := sg) (m := j) hlt'.out hlf.out
        rw [← Hys.out] at hmid
        have Hmid := Lib.hid hmid
        clear hmid
        go_wp2_with fail
        go_ret
        unfold ApQ
        rw [← Hys.out, hall.out]
        exact ⟨rfl, fun _ => by rw [← Hmid.out]; exact Ho.out, Hkp.out.mono fun q hq => by rw [hq]; exact hHobt.out⟩
end Go.Proofs.Ytjdoagkbcooonaa
