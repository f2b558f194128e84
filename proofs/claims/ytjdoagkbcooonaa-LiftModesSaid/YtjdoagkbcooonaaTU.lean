/-
  lift.Undo: the walk.
-/
import Derived.Test.YtjdoagkbcooonaaProg
import Derived.Test.YtjdoagkbcooonaaTBk
import Derived.Test.YtjdoagkbcooonaaRK
import Derived.Test.YtjdoagkbcooonaaTF
namespace Go.Proofs.Ytjdoagkbcooonaa
open Go.RowKit Go.Shelf

attribute [local go_sem] Oper.semAt_some

theorem rkRow {n₀ Z : Nat} {rb : Option Nat} {W W' : World} (h : Kp (fun q => rb = some q) W W') (hS : ∀ q, rb = some q → n₀ ≤ q ∧ q < Z) (hZ : Z ≤ W.heap.size) (hn : n₀ ≤ W.heap.size) : RK n₀ Z rb W W' :=
  ⟨⟨h.size, fun k o hz hk _ => (h.block k (Array.getElem?_eq_some_iff.1 hk).1 (fun hs => by have := (hS k hs).2; omega)).trans hk⟩,
    h.below (fun k hs => (hS k hs).1) hn, fun k hk hr => h.block k (by omega) fun hs => hr hs.symm⟩
theorem ownMKept {w w' : World} {B n c m : Nat} {A : Option Addr} {RA : Nat → Option Addr} {RC : Nat → Nat} {R : Nat → List Int} {row : Option Nat} (h : OwnM w B A n c m RA RC R) (hg : w.grownBy w' row) (hr : ∀ r, row = some r → ∃ o : Obj, w.heap[r]? = some o ∧ o.isCells = false) : OwnM w' B A n c m RA RC R :=
  { h with outer := rowKept h.outer hg hr, inner := fun i hi => rowKept (h.inner i hi) hg hr }
theorem came_mapL (ss : List Lft) : ∀ {k : Nat}, k ≤ ss.length → (cameTo (bkAt ss) k).map (fun x => lfX ss x.1) = ss.reverse.take k
  | 0, _ => by simp [cameTo]
  | k + 1, h => by
    rw [cameTo_succ, List.map_append, came_mapL ss (k := k) (by omega), List.take_succ_eq_append_getElem (by simp; omega), List.getElem_reverse]
    simp [bkAt, lfX, lfF, lfT, lfG, show ss.length - 1 - k < ss.length by omega]
theorem goL_snoc {sg : Int} {R Q : Nat → List Int} {a : List Lft} {s : Lft} (h : goL sg R a = some Q) : goL sg R (a ++ [s]) = if allWideB (appRow (Q s.2.1.toNat) (Q s.1.toNat) s.2.2 sg) = true then some (appP Q s.1.toNat s.2.1.toNat s.2.2 sg) else none := by
  rw [goL_app, h]; rfl
theorem goL_more {sg : Int} {R : Nat → List Int} {a b : List Lft} (h : goL sg R a = none) : goL sg R (a ++ b) = none := by rw [goL_app, h]; rfl

set_option maxRecDepth 100000 in
set_option maxHeartbeats 2000000 in
theorem undoL_rows (R : Nat → List Int) (r : Nat) (hr1 : r ≤ 1000) (hR : ∀ i, i < r → (R i).length ≤ 100000) (RA : Nat → Option Addr) (RC : Nat → Nat) (ls : List Lft) (n : Nat) (A B : Option Addr) (c d : Nat) (w : World) (h : Rw w w.heap.size A r RA RC R) (hrow : rowsB R r = false) :
    Calls Try.prog 15 #[.slice A r c, .slice B n d] w (DoQ (doP (-1) R r ls) r (R 0).length w) := by
  have hr := Lib.hid (doP_rows (sg := -1) (ls := ls) hrow)
  have Hrow := Lib.hid hrow
  have HR := Lib.hid hR
  clear hrow hR
  refine (callsIn_wide (n := 20)).1 ?_
  refine callsIn_of_wp_marks Try.func15 rfl trivial ?_ rfl
  simp only [Try.ntmps15, List.size_toArray, List.length_cons, List.length_nil, Nat.reduceAdd, Nat.reduceSub, Array.replicate_succ, Array.replicate_zero, List.push_toArray, List.append_toArray, List.nil_append, List.cons_append]
  have hb0 := bal (bal (brefl w) (.cells #[.slice none 0 0] 22)) (.cells #[.int .i64 0] 26)
  gi_wp2_with fail
  refine ⟨trivial, ?_⟩
  (with_reducible refine (callsIn_wide.2 (rowsL_any R r hr1 HR.out RA RC _ _ _ _ (h.below hb0))).mono ?_); rintro e w1 ⟨rfl, hw1⟩
  rw [Hrow.out]
  have x0 : Boxed w1 w.heap.size 22 (.slice none 0 0) := by rw [← hw1]; exact Boxed.alloc (Boxed.new w _ _) _
  have x1 : Boxed w1 (w.heap.size + 1) 26 (.int .i64 0) := by
    have := Boxed.new (w.alloc (.cells #[.slice none 0 0] 22)) 26 (.int .i64 0)
    rw [World.size_alloc] at this
    rw [← hw1]; exact this
  have B1 : Below w.heap.size w w1 := by rw [← hw1]; exact hb0
  clear hw1
  have c0 := x0.cell
  have c1 := x1.cell
  have f0 := x0.frozen
  have f1 := x1.frozen
  have y0 := Boxed.other (x0.set (.slice none 0 0)) (B' := w.heap.size + 1) (by omega) (.int .i64 1)
  have y1 := (Boxed.other x1 (B' := w.heap.size) (by omega) (.slice none 0 0)).set (.int .i64 1)
  have z0 := y0.cell
  have z1 := y1.cell
  gi_wp2_with fail
  refine ⟨trivial, ?_⟩
  gi_wp2_with fail
  refine ⟨.tuple #[.slice none 0 0, .int .i64 1], ?_, do_err hr.out ((B1.setCell (p := ⟨w.heap.size, 0, none⟩) (Nat.le_refl _) _).setCell (p := ⟨w.heap.size + 1, 0, none⟩) (by simp) _)⟩
  simp [results, Try.f15, go_sem, z0, z1]

set_option maxRecDepth 100000 in
set_option maxHeartbeats 2000000 in
theorem undoL_may (R : Nat → List Int) (r : Nat) (hr1 : r ≤ 1000) (hR : ∀ i, i < r → (R i).length ≤ 100000) (RA : Nat → Option Addr) (RC : Nat → Nat) (ls : List Lft) (hm : ls.length ≤ 9223372036854775807) (A B : Option Addr) (c d : Nat) (w : World) (h : Rw w w.heap.size A r RA RC R) (hs : Lfts w w.heap.size B ls) (hrow : rowsB R r = true) (hl : liftB ls (r : Int) = false) :
    Calls Try.prog 15 #[.slice A r c, .slice B ls.length d] w (DoQ (doP (-1) R r ls) r (R 0).length w) := by
  have hr := Lib.hid (doP_may (sg := -1) hrow hl)
  have Hrow := Lib.hid hrow
  have Hl := Lib.hid hl
  have HR := Lib.hid hR
  clear hrow hR hl
  refine (callsIn_wide (n := 20)).1 ?_
  refine callsIn_of_wp_marks Try.func15 rfl trivial ?_ rfl
  simp only [Try.ntmps15, List.size_toArray, List.length_cons, List.length_nil, Nat.reduceAdd, Nat.reduceSub, Array.replicate_succ, Array.replicate_zero, List.push_toArray, List.append_toArray, List.nil_append, List.cons_append]
  have hb0 := bal (bal (brefl w) (.cells #[.slice none 0 0] 22)) (.cells #[.int .i64 0] 26)
  gi_wp2_with fail
  refine ⟨trivial, ?_⟩
  (with_reducible refine (callsIn_wide.2 (rowsL_any R r hr1 HR.out RA RC _ _ _ _ (h.below hb0))).mono ?_); rintro e w1 ⟨rfl, hw1⟩
  rw [Hrow.out]
  have x0 : Boxed w1 w.heap.size 22 (.slice none 0 0) := by rw [← hw1]; exact Boxed.alloc (Boxed.new w _ _) _
  have x1 : Boxed w1 (w.heap.size + 1) 26 (.int .i64 0) := by
    have := Boxed.new (w.alloc (.cells #[.slice none 0 0] 22)) 26 (.int .i64 0)
    rw [World.size_alloc] at this
    rw [← hw1]; exact this
  have B1 : Below w.heap.size w w1 := by rw [← hw1]; exact hb0
  have s1 : w.heap.size + 2 ≤ w1.heap.size := by rw [← hw1]; simp
  clear hw1 hb0
  gi_wp2_with fail
  refine ⟨trivial, ?_⟩
  (with_reducible refine (callsIn_wide.2 (mayL_any ls _ rfl hm _ _ _ _ ((hs.below B1).more B1.size))).mono ?_); rintro e w2 ⟨rfl, b2⟩
  rw [Hl.out]
  have X0 := bxBelow x0 b2 (by omega)
  have X1 := bxBelow x1 b2 (by omega)
  have B2 := bth B1 b2
  clear x0 x1 B1 b2
  have c0 := X0.cell
  have c1 := X1.cell
  have f0 := X0.frozen
  have f1 := X1.frozen
  have y0 := Boxed.other (X0.set (.slice none 0 0)) (B' := w.heap.size + 1) (by omega) (.int .i64 1)
  have y1 := (Boxed.other X1 (B' := w.heap.size) (by omega) (.slice none 0 0)).set (.int .i64 1)
  have z0 := y0.cell
  have z1 := y1.cell
  gi_wp2_with fail
  refine ⟨.tuple #[.slice none 0 0, .int .i64 1], ?_, do_err hr.out ((B2.setCell (p := ⟨w.heap.size, 0, none⟩) (Nat.le_refl _) _).setCell (p := ⟨w.heap.size + 1, 0, none⟩) (by simp) _)⟩
  simp [results, Try.f15, go_sem, z0, z1]

set_option maxRecDepth 100000 in
set_option maxHeartbeats 4000000 in
theorem undoL_ok (R : Nat → List Int) (r : Nat) (hr1 : r ≤ 1000) (hR : ∀ i, i < r → (R i).length ≤ 100000) (RA : Nat → Option Addr) (RC : Nat → Nat) (ls : List Lft) (A B : Option Addr) (c d : Nat) (w : World) (h : Rw w w.heap.size A r RA RC R) (hs : Lfts w w.heap.size B ls) (hrow : rowsB R r = true) (hl : liftB ls (r : Int) = true) :
    Calls Try.prog 15 #[.slice A r c, .slice B ls.length d] w (DoQ (doP (-1) R r ls) r (R 0).length w) := by
  have Hrow := Lib.hid hrow
  have Hl := Lib.hid hl
  have HR := Lib.hid hR
  have hlv := Lib.hid (lvl_of hrow)
  have hr8 := (rowsB_true.1 hrow).2.1
  have hm8 := (rowsB_true.1 hrow).2.2.1
  have n16 : ls.length ≤ 16 := (liftB_true.1 hl).2.2.1
  have hlk := Lib.hid (liftB_true.1 hl).2.2.2
  obtain ⟨m, hmm⟩ : ∃ m, m = (R 0).length := ⟨_, rfl⟩
  rw [← hmm] at hlv hm8 ⊢
  clear hrow hl hR hmm
  refine (callsIn_wide (n := 20)).1 ?_
  refine callsIn_of_wp_marks Try.func15 rfl trivial ?_ rfl
  simp only [Try.ntmps15, List.size_toArray, List.length_cons, List.length_nil, Nat.reduceAdd, Nat.reduceSub, Array.replicate_succ, Array.replicate_zero, List.push_toArray, List.append_toArray, List.nil_append, List.cons_append]
  have hb0 := bal (bal (brefl w) (.cells #[.slice none 0 0] 22)) (.cells #[.int .i64 0] 26)
  gi_wp2_with fail
  refine ⟨trivial, ?_⟩
  (with_reducible refine (callsIn_wide.2 (rowsL_any R r hr1 HR.out RA RC _ _ _ _ (h.below hb0))).mono ?_); rintro e w0 ⟨rfl, hw1⟩
  rw [Hrow.out]
  have x0 : Boxed w0 w.heap.size 22 (.slice none 0 0) := by rw [← hw1]; exact Boxed.alloc (Boxed.new w _ _) _
  have x1 : Boxed w0 (w.heap.size + 1) 26 (.int .i64 0) := by
    have := Boxed.new (w.alloc (.cells #[.slice none 0 0] 22)) 26 (.int .i64 0)
    rw [World.size_alloc] at this
    rw [← hw1]; exact this
  have B1 : Below w.heap.size w w0 := by rw [← hw1]; exact hb0
  have s0 : w.heap.size + 2 ≤ w0.heap.size := by rw [← hw1]; simp
  clear hw1 hb0
  gi_wp2_with fail
  refine ⟨trivial, ?_⟩
  (with_reducible refine (callsIn_wide.2 (mayL_any ls _ rfl (by omega) _ _ _ _ ((hs.below B1).more B1.size))).mono ?_); rintro e w1 ⟨rfl, b1⟩
  rw [Hl.out]
  have x2 := bxBelow x0 b1 (by omega)
  have x3 := bxBelow x1 b1 (by omega)
  have B2 := bth B1 b1
  have s1 := b1.size
  clear x0 x1 B1 b1
  gi_wp2_with fail
  refine ⟨trivial, ?_⟩
  (with_reducible refine (callsIn_wide.2 (copiedL_any R r m (by omega) (by omega) (fun i hi => (lvl_at hlv.out hi).1) RA RC _ _ _ ((h.below B2).more B2.size))).mono ?_); rintro e w2 ⟨A2, c2, RA2, RC2, rfl, ho2, b2⟩
  have X0 := Lib.hid (bxBelow x2 b2 (by omega))
  have X1 := Lib.hid (bxBelow x3 b2 (by omega))
  have B3 := Lib.hid (bth B2 b2)
  have s2 := b2.size
  have Ho2 := Lib.hid ho2
  clear x2 x3 B2 b2 ho2
  gi_wp2_with fail
  refine ⟨trivial, ?_⟩
  refine (backward_in Fence.wide _ trivial rfl _ _ _ _).mono ?_; rintro e w' ⟨rfl, rfl⟩
  have bRow := (Boxed.new w2 22 (.slice A2 r c2)).alloc (.cells #[.slice B ls.length d] 23)
  have bS := Boxed.new (w2.alloc (.cells #[.slice A2 r c2] 22)) 23 (.slice B ls.length d)
  have b0 := (X0.out.alloc (.cells #[.slice A2 r c2] 22)).alloc (.cells #[.slice B ls.length d] 23)
  have b1 := (X1.out.alloc (.cells #[.slice A2 r c2] 22)).alloc (.cells #[.slice B ls.length d] 23)
  have hB0 : Below w.heap.size w ((w2.alloc (.cells #[.slice A2 r c2] 22)).alloc (.cells #[.slice B ls.length d] 23)) := bal (bal B3.out _) _
  have hsz : ((w2.alloc (.cells #[.slice A2 r c2] 22)).alloc (.cells #[.slice B ls.length d] 23)).heap.size = w2.heap.size + 2 := by simp
  have hoR := Ho2.out.below (bal (bal (brefl w2) (.cells #[.slice A2 r c2] 22)) (.cells #[.slice B ls.length d] 23)) (Nat.le_refl _)
  gi_wp2_with fail
  obtain ⟨W0, hW0⟩ : ∃ W0, (w2.alloc (.cells #[.slice A2 r c2] 22)).alloc (.cells #[.slice B ls.length d] 23) = W0 := ⟨_, rfl⟩
  rw [hW0] at bRow bS b0 b1 hB0 hsz hoR ⊢
  rw [World.size_alloc] at bS
  clear hW0
  have Hg1 : Hid (∀ q, ((Value.slice A2 r c2).ownBlock = some q ∨ ∃ i, i < r ∧ (Value.slice (RA2 i) m (RC2 i)).ownBlock = some q) → w1.heap.size ≤ q ∧ q < w2.heap.size) := fun q hq => Ho2.out.lt q hq
  have Hsz := Lib.hid hsz
  have hz0 : w2.heap.size + 2 ≤ W0.heap.size := by omega
  refine wpIn_rangeFunc_ownH rfl (by omega) (gf := 47) (lb := #[.pointer (some ⟨w2.heap.size + 1, 0, none⟩)]) rfl trivial (enters_of Try.func47 (by kernel_rfl) rfl)
    (backward_stops Fence.wide _ trivial rfl (by omega) (w2.heap.size + 1) w.heap.size B d ls (by omega) W0 (by omega) (by omega) bS.cell (hs.below hB0)) (fun h k => BkKp.trans h k) (bkKp_b (by omega) (by omega)) (Below.refl _ _) (fun _ => rfl)
    (fun pre W => ((∃ Q, goL (-1) R (pre.map (fun x => lfX ls x.1)) = some Q ∧ Lvl Q r m ∧ OwnM W w1.heap.size A2 r c2 m RA2 RC2 Q) ∧ Boxed W w.heap.size 22 (.slice none 0 0) ∧ Boxed W (w.heap.size + 1) 26 (.int .i64 0) ∧ Boxed W w2.heap.size 22 (.slice A2 r c2) ∧ Boxed W (w2.heap.size + 1) 23 (.slice B ls.length d)) ∧ Below w.heap.size w W)
    (fun cd pre W => (cd = .ret ∧ goL (-1) R (pre.map (fun x => lfX ls x.1)) = none ∧ Boxed W w.heap.size 22 (.slice none 0 0) ∧ Boxed W (w.heap.size + 1) 26 (.int .i64 6)) ∧ Below w.heap.size w W)
    (OwnFrom.and (Own.from (fun s X Y row hs hg hr => by obtain ⟨⟨xs, e1, e2, e4⟩, e5, e6, e7, e8⟩ := hs; exact ⟨⟨xs, e1, e2, ownMKept e4 hg hr⟩, bxKept e5 hg hr, bxKept e6 hg hr, bxKept e7 hg hr, bxKept e8 hg hr⟩) _) (ownFrom_below (Nat.le_refl _) (by omega)))
    (fun cd => OwnFrom.and (Own.from (fun s X Y row hs hg hr => by obtain ⟨e0, e1, e2, e3⟩ := hs; exact ⟨e0, e1, bxKept e2 hg hr, bxKept e3 hg hr⟩) _) (ownFrom_below (Nat.le_refl _) (by omega)))
    ⟨⟨⟨R, rfl, hlv.out, hoR⟩, b0, b1, bRow, bS⟩, hB0⟩
    (fun x a' W => ∃ Bx, w2.heap.size + 1 < Bx ∧ W.heap[Bx]? = some (.cells #[.int .i64 (lfF ls x.1), .int .i64 (lfT ls x.1), .int .i64 (lfG ls x.1)] 52 (0, 0)) ∧ a' = { tmps := #[.slice A r c, .slice B ls.length d, undef, undef, .pointer (some ⟨w.heap.size, 0, none⟩), .pointer (some ⟨w.heap.size + 1, 0, none⟩), .pointer (some ⟨w2.heap.size, 0, none⟩), undef, .pointer (some ⟨Bx, 0, none⟩), .slice A r c, .bool true, .bool false, .bool false, .slice B ls.length d, .slice A r c, .int .i64 r, .bool true, .bool false, .bool false, .slice A r c, .slice A2 r c2, .slice B ls.length d, .func (.func 47) #[] #[.pointer (some ⟨w2.heap.size + 1, 0, none⟩)], .int .i64 (x.1 : Int), .agg #[.int .i64 (lfF ls x.1), .int .i64 (lfT ls x.1), .int .i64 (lfG ls x.1)], undef, undef, undef, undef, undef], defers := [] })
    (fun x a' _ X Y row hs hg hr => by obtain ⟨Bx, e1, e2, e3⟩ := hs; exact ⟨Bx, e1, blockKept e2 rfl hg (fun r e => (hr r e).2), e3⟩)
    ?assign ?body ?done ?stop
  case assign =>
    rintro l' pre x W K ⟨⟨⟨xs, e1, e2, e4⟩, e5, e6, e7, e8⟩, hB⟩ hK
    dsimp only [bkEnc]
    have hl8 := e8.lt
    gi_wp2_with fail
    exact hK _ _ ((KeepsOthers.alloc _ _).from _) ⟨(Below.refl _ W).alloc hB.size _, Below.heap_alloc _ _ _ hl8⟩ ⟨⟨⟨xs, e1, e2, e4.below (bal (brefl W) _) (Nat.le_refl _)⟩, e5.alloc _, e6.alloc _, e7.alloc _, e8.alloc _⟩, hB.alloc hB.size _⟩ ⟨W.heap.size, hl8, heap_alloc_new W _, rfl⟩
  case body =>
    rintro l' pre ⟨q, hq⟩ a' W hl' ⟨rr, hrr⟩ ⟨⟨⟨Q, hgo, hlq, ho⟩, e5, e6, e7, e8⟩, hB⟩ ⟨Bx, hBx, bX, rfl⟩ hlt
    have hql : q < ls.length := by omega
    have hZW : W0.heap.size ≤ W.heap.size := by have := (Array.getElem?_eq_some_iff.1 hrr).1; omega
    dsimp only at bX ⊢
    have hok := liftOk_true.1 (hlk.out q hql)
    have hgs0 := goL_snoc (s := lfX ls q) hgo
    obtain ⟨f, hf⟩ : ∃ f : Nat, f = (lfF ls q).toNat := ⟨_, rfl⟩
    obtain ⟨u, hu⟩ : ∃ u : Nat, u = (lfT ls q).toNat := ⟨_, rfl⟩
    have hfI : lfF ls q = (f : Int) := by omega
    have huI : lfT ls q = (u : Int) := by omega
    obtain ⟨g, hg⟩ : ∃ g, g = lfG ls q := ⟨_, rfl⟩
    obtain ⟨yw, hyw⟩ : ∃ yw, yw = allWideB (appRow (Q u) (Q f) g (-1)) := ⟨_, rfl⟩
    have hst : Hid (goL (-1) R ((pre ++ [(⟨q, hq⟩ : BkX ls)]).map (fun x => lfX ls x.1)) = if yw = true then some (appP Q f u g (-1)) else none) := by
      show _ = _
      rw [List.map_append, List.map_singleton, hgs0, hyw, hf, hu, hg]; rfl
    rw [hfI, huI, ← hg] at bX ⊢
    obtain ⟨k1, k2, k3, k4, k5, k6, k7⟩ := hok
    have hf8 : f < r := by omega
    have hu8 : u < r := by omega
    have hfu : f ≠ u := by omega
    rw [← hg] at k6 k7
    have cX0 := cell_of_row W Bx 0 _ _ _ bX
    have cX1 := cell_of_row W Bx 1 _ _ _ bX
    have cX2 := cell_of_row W Bx 2 _ _ _ bX
    simp only [List.getElem?_toArray, List.getElem?_cons_zero, List.getElem?_cons_succ] at cX0 cX1 cX2
    have nz1 := World.new_ne W _ cX0
    have nz2 := World.new_ne W _ cX1
    have nz3 := World.new_ne W _ cX2
    have Ho := Lib.hid ho
    have Hq := Lib.hid hlq
    have E5 := Lib.hid e5
    have E6 := Lib.hid e6
    have E7 := Lib.hid e7
    have E8 := Lib.hid e8
    have HB := Lib.hid hB
    have Hyw := Lib.hid hyw
    have c7 := e7.cell
    have Hnr : Hid (∀ k, (k = w.heap.size ∨ k = w.heap.size + 1 ∨ k = w2.heap.size ∨ k = w2.heap.size + 1) → some k ≠ (Value.slice (RA2 u) m (RC2 u)).ownBlock) := fun k hk e => by
      have := Hg1.out k (.inr ⟨u, hu8, e.symm⟩)
      omega
    have hnW : w.heap.size ≤ W0.heap.size := by omega
    clear hgo hlq ho e5 e6 e7 e8 hB hrr bX b0 b1 bRow bS hoR hB0 hsz X0 X1 hgs0 hf hu hg hfI huI k1 k2 k3 k4 k5 hyw
    gi_wp2_with fail
    refine ⟨trivial, ?_⟩
    (with_reducible refine (CallsIn.inRound l' (callsIn_wide.2 (applyL_any Ho.out (by omega) (fun i hi => (lvl_at Hq.out hi).2) f u hf8 hu8 hfu g (-1) k6 k7 (by decide) (by omega) (f : Int) (u : Int) rfl rfl))).mono ?_); rintro e w8 ⟨rfl, ho8, hk8⟩
    have rk : RK w.heap.size W0.heap.size (Value.slice (RA2 u) m (RC2 u)).ownBlock W w8 := rkRow hk8 (fun q hq => by have := Hg1.out q (.inr ⟨u, hu8, hq⟩); omega) hZW (by omega)
    rw [← Hyw.out] at ho8 ⊢
    have Rk := Lib.hid rk
    have Ho8 := Lib.hid ho8
    have E5' := Lib.hid (rk.box E5.out (by omega) (Hnr.out _ (.inl rfl)))
    have E6' := Lib.hid (rk.box E6.out (by omega) (Hnr.out _ (.inr (.inl rfl))))
    have E7' := Lib.hid (rk.box E7.out (by omega) (Hnr.out _ (.inr (.inr (.inl rfl)))))
    have E8' := Lib.hid (rk.box E8.out (by omega) (Hnr.out _ (.inr (.inr (.inr rfl)))))
    clear rk ho8 hk8
    cases yw with
    | false =>
      have c5 := E5'.out.cell
      have c6 := E6'.out.cell
      have f5 := E5'.out.frozen
      have f6 := E6'.out.frozen
      have y0 := Boxed.other (E5'.out.set (.slice none 0 0)) (B' := w.heap.size + 1) (by omega) (.int .i64 6)
      have y1 := (Boxed.other E6'.out (B' := w.heap.size) (by omega) (.slice none 0 0)).set (.int .i64 6)
      have hst2 : Hid (goL (-1) R ((pre ++ [(⟨q, hq⟩ : BkX ls)]).map (fun x => lfX ls x.1)) = none) := by show _ = _; rw [hst.out]; rfl
      gi_wp2_with fail
      exact ⟨(Rk.out.kf.trans ((KeepsOthers.setCell _ _ _).from _)).trans ((KeepsOthers.setCell _ _ _).from _), ⟨rfl, hst2.out, y0, y1⟩, ((HB.out.trans Rk.out.bl).setCell (p := ⟨w.heap.size, 0, none⟩) (Nat.le_refl _) _).setCell (p := ⟨w.heap.size + 1, 0, none⟩) (by simp) _⟩
    | true =>
      have hfin : KeepsFrom W0.heap.size W w8 ∧ BkKp w.heap.size (w2.heap.size + 1) W w8 ∧ ((∃ Q, goL (-1) R ((pre ++ [(⟨q, hq⟩ : BkX ls)]).map (fun x => lfX ls x.1)) = some Q ∧ Lvl Q r m ∧ OwnM w8 w1.heap.size A2 r c2 m RA2 RC2 Q) ∧ Boxed w8 w.heap.size 22 (.slice none 0 0) ∧ Boxed w8 (w.heap.size + 1) 26 (.int .i64 0) ∧ Boxed w8 w2.heap.size 22 (.slice A2 r c2) ∧ Boxed w8 (w2.heap.size + 1) 23 (.slice B ls.length d)) ∧ Below w.heap.size w w8 :=
        ⟨Rk.out.kf, ⟨Rk.out.bl, Rk.out.blk _ (by omega) (Hnr.out _ (.inr (.inr (.inr rfl))))⟩, ⟨⟨appP Q f u g (-1), by rw [hst.out]; rfl, Hq.out.app hf8 Hyw.out.symm, Ho8.out (by simp)⟩, E5'.out, E6'.out, E7'.out, E8'.out⟩, HB.out.trans Rk.out.bl⟩
      have Hfin := Lib.hid hfin
      clear hfin
      gi_wp2_with fail
      exact Hfin.out
  case done =>
    rintro D zs W hD rfl ⟨⟨⟨Q, hgo, hlq, ho⟩, e5, e6, e7, e8⟩, hB⟩ hK
    have c5 := e5.cell
    have c6 := e6.cell
    have c7 := e7.cell
    have f5 := e5.frozen
    have f6 := e6.frozen
    have hr : Hid (doP (-1) R r ls = .ok Q) := doP_some Hrow.out Hl.out (by
      rw [came_mapL ls (Nat.le_refl _), List.take_of_length_le (by simp)] at hgo; exact hgo)
    have Hn5 : Hid (∀ q, ((Value.slice A2 r c2).ownBlock = some q ∨ ∃ i, i < r ∧ (Value.slice (RA2 i) m (RC2 i)).ownBlock = some q) → q ≠ w.heap.size ∧ q ≠ w.heap.size + 1) := fun q hq => by have := Hg1.out q hq; omega
    clear hgo hlq
    gi_wp2_with fail
    have hK1 := (KeepsOthers.setCell W ⟨w.heap.size, 0, none⟩ (.slice A2 r c2)).same D _ hK rfl
    have hK' := (KeepsOthers.setCell _ ⟨w.heap.size + 1, 0, none⟩ (.int .i64 0)).same D _ hK1 rfl
    refine ⟨by simp, .inl ⟨_, _, rfl, run_takeDeferred hK', ?_⟩⟩
    have y0 := Boxed.other (e5.set (.slice A2 r c2)) (B' := w.heap.size + 1) (by omega) (.int .i64 0)
    have y1 := (Boxed.other e6 (B' := w.heap.size) (by omega) (.slice A2 r c2)).set (.int .i64 0)
    have z0 := cell_kept y0.cell (grownBy_putObj' _ D (.deferred none)) (fun r e => by cases e; exact ⟨_, hK', rfl⟩)
    have z1 := cell_kept y1.cell (grownBy_putObj' _ D (.deferred none)) (fun r e => by cases e; exact ⟨_, hK', rfl⟩)
    have ho1 := ho.other (w' := W.setCell ⟨w.heap.size, 0, none⟩ (.slice A2 r c2)) fun q hq => Below.heap_setCell _ _ _ _ (fun e => (Hn5.out q hq).1 (by rw [e]))
    have ho2 := ho1.other (w' := (W.setCell ⟨w.heap.size, 0, none⟩ (.slice A2 r c2)).setCell ⟨w.heap.size + 1, 0, none⟩ (.int .i64 0)) fun q hq => Below.heap_setCell _ _ _ _ (fun e => (Hn5.out q hq).2 (by rw [e]))
    have ho3 := (ownMKept ho2 (grownBy_putObj' _ D (.deferred none)) (fun r e => by cases e; exact ⟨_, hK', rfl⟩)).base (show w.heap.size ≤ w1.heap.size by omega)
    have hB3 := ((hB.setCell (p := ⟨w.heap.size, 0, none⟩) (Nat.le_refl _) (.slice A2 r c2)).setCell (p := ⟨w.heap.size + 1, 0, none⟩) (by simp) (.int .i64 0)).trans (belowK_b (w := w) (Nat.le_refl _) _ D _ (.deferred none) (by omega) hK' rfl rfl)
    exact ⟨.tuple #[.slice A2 r c2, .int .i64 0], by simp [results, Try.f15, go_sem, z0, z1], do_ok hr.out ho3 hB3⟩
  case stop =>
    rintro D cd pre W hD ⟨k, hk, rfl⟩ ⟨⟨rfl, hgo, e5, e6⟩, hB⟩ hK
    have hr : Hid (doP (-1) R r ls = .error 6) := doP_none Hrow.out Hl.out (by
      rw [came_mapL ls hk] at hgo
      show goL (-1) R ls.reverse = none
      rw [← List.take_append_drop k ls.reverse]
      exact goL_more hgo)
    clear hgo
    gi_wp2_with fail
    refine ⟨by simp, .inl ⟨_, _, rfl, run_takeDeferred hK, ?_⟩⟩
    have z0 := cell_kept e5.cell (grownBy_putObj' _ D (.deferred none)) (fun r e => by cases e; exact ⟨_, hK, rfl⟩)
    have z1 := cell_kept e6.cell (grownBy_putObj' _ D (.deferred none)) (fun r e => by cases e; exact ⟨_, hK, rfl⟩)
    exact ⟨.tuple #[.slice none 0 0, .int .i64 6], by simp [results, Try.f15, go_sem, z0, z1], do_err hr.out (hB.trans (belowK_b (w := w) (Nat.le_refl _) _ D _ (.deferred none) (by omega) hK rfl rfl))⟩

theorem undoL_any (R : Nat → List Int) (r : Nat) (hr1 : r ≤ 1000) (hR : ∀ i, i < r → (R i).length ≤ 100000) (RA : Nat → Option Addr) (RC : Nat → Nat) (ls : List Lft) (n : Nat) (hn : n = ls.length) (hm : n ≤ 9223372036854775807) (A B : Option Addr) (c d : Nat) (w : World) (h : Rw w w.heap.size A r RA RC R) (hs : Lfts w w.heap.size B ls) :
    Calls Try.prog 15 #[.slice A r c, .slice B n d] w (DoQ (doP (-1) R r ls) r (R 0).length w) := by
  subst hn
  cases hrow : rowsB R r with
  | false => exact undoL_rows R r hr1 hR RA RC ls _ A B c d w h hrow
  | true =>
    cases hl : liftB ls (r : Int) with
    | false => exact undoL_may R r hr1 hR RA RC ls hm A B c d w h hs hrow hl
    | true => exact undoL_ok R r hr1 hR RA RC ls A B c d w h hs hrow hl
end Go.Proofs.Ytjdoagkbcooonaa
