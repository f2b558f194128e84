/-
  Bytes as a string; two rows written out; the laws' known.
-/
import Derived.Test.YtfihbcpainlpcaaProg
import Derived.Test.YtfihbcpainlpcaaQK
import Derived.Test.YtfihbcpainlpcaaQPb
import Derived.Test.YtfihbcpainlpcaaQS
import Derived.Laws.BytesArg
namespace Go.Proofs.Ytfihbcpainlpcaa
open Go.RowKit
set_option linter.unusedVariables false
set_option linter.unusedSimpArgs false

theorem conv_any {w : World} {B : Nat} {A : Option Addr} {l : List Int} {n c : Nat} (hn : n = l.length) (h : Ints .u8 w B A l) :
    (convert 41 9 (.slice A n c)).run Try.prog w = .ok (.string (strOfNums l)) w := by
  subst hn
  by_cases h0 : 0 < l.length
  · obtain ⟨b, off, rfl, _, hc⟩ := h.lt h0
    exact run_convert_bytes_arg w _ _ Try.underlying41 Try.underlying5 b off l.length c l rfl (fun i hi => hc i hi) _ Try.underlying9
  · have e : l = [] := List.eq_nil_of_length_eq_zero (by omega)
    subst e
    cases A with
    | none => exact run_convert_bytes_nil w _ _ Try.underlying41 Try.underlying5 0 c _ Try.underlying9
    | some a =>
      rw [run_convert_bytes_string w _ _ _ (some a) _ c Try.underlying41 Try.underlying5 Try.underlying9]
      exact run_bytesToString w a 0 c [] (by simp [loadCells, loadCellsFrom, Sem.run_pure])

def two {α : Type} (x y : α) : Nat → α := fun i => if i = 0 then x else y
theorem two_lt {i : Nat} (h : i < 2) : i = 0 ∨ i = 1 := by omega
theorem rw_lit2 (w : World) (xs ys : List Int) (a1 a2 a3 : Array Value) (h1 : a1.toList = xs.map (.int .i64)) (h2 : a2.toList = ys.map (.int .i64)) (n1 n2 : Nat) (e1 : n1 = xs.length) (e2 : n2 = ys.length) (m1 : n1 ≤ 1000) (m2 : n2 ≤ 1000)
    (h3 : a3 = #[.slice (some ⟨w.heap.size, 0, none⟩) n1 n1, .slice (some ⟨w.heap.size + 1, 0, none⟩) n2 n2]) (g : Nat) (hg : g = w.heap.size + 2) :
    Rw (((w.alloc (.cells a1 3)).alloc (.cells a2 3)).alloc (.cells a3 22)) (((w.alloc (.cells a1 3)).alloc (.cells a2 3)).alloc (.cells a3 22)).heap.size (some ⟨g, 0, none⟩) 2
      (two (some ⟨w.heap.size, 0, none⟩) (some ⟨w.heap.size + 1, 0, none⟩)) (two n1 n2) (two xs ys) := by
  subst e1; subst e2; subst hg; subst h3
  refine ⟨fun _ => ⟨w.heap.size + 2, 0, rfl, by simp, fun i hi => ?_⟩, fun i hi => ?_, fun i hi => ?_, fun i hi => ?_⟩
  · have hs : ((w.alloc (.cells a1 3)).alloc (.cells a2 3)).heap.size = w.heap.size + 2 := by simp
    have := heap_alloc_new ((w.alloc (.cells a1 3)).alloc (.cells a2 3)) (.cells #[.slice (some ⟨w.heap.size, 0, none⟩) xs.length xs.length, .slice (some ⟨w.heap.size + 1, 0, none⟩) ys.length ys.length] 22)
    rw [hs] at this
    rcases two_lt hi with rfl | rfl <;> exact (cell_of_row _ _ _ _ _ _ this).trans rfl
  · rcases two_lt hi with rfl | rfl
    · exact (((ints_lit w .i64 xs a1 _ h1).below (((bal (brefl (w.alloc (.cells a1 3))) (.cells a2 3)).mono (by simp)))).below ((bal (brefl ((w.alloc (.cells a1 3)).alloc (.cells a2 3))) _).mono (by simp))).more (by simp)
    · have := ints_lit (w.alloc (.cells a1 3)) .i64 ys a2 3 h2
      simp only [World.size_alloc] at this
      exact (this.below ((bal (brefl ((w.alloc (.cells a1 3)).alloc (.cells a2 3))) _).mono (by simp))).more (by simp)
  · rcases two_lt hi with rfl | rfl <;> (simp [two]; omega)
  · rcases two_lt hi with rfl | rfl <;> simp [two]

def kL : List Int := [1, 2, 3, -4]
def kR : Nat → List Int := partTo kL 2 4
theorem k_part : partB kL 8000 2 8 = ⟨8, 2, kR, 0⟩ := by
  rw [partB, if_pos (by decide), if_neg (by decide), if_neg (by decide), if_neg (by decide), if_pos (by decide +kernel)]; rfl
theorem k_pack : packB 8 kR 2 = ([1, 2, 3, 252], 0) := by decide +kernel
theorem k_may : bmayB 8 kR 2 = true := by decide +kernel
theorem k_len : lenI kR 2 = 2 := by decide +kernel
theorem k_rows : ∀ i, i < 2 → two [1, 3] [2, -4] i = kR i := fun i hi => by rcases two_lt hi with rfl | rfl <;> decide +kernel
theorem k_rl : ∀ i, i < 2 → (kR i).length ≤ 100000 := fun i hi => by rcases two_lt hi with rfl | rfl <;> decide +kernel

set_option maxHeartbeats 2000000 in
theorem known_any (w : World) : Calls Try.prog 12 #[] w fun e w' => e = .returned (.bool true) ∧ Below w.heap.size w w' := by
  have L1 : Hid (∀ (w : World) (g : Nat), g = w.heap.size + 2 → Rw (((w.alloc (.cells #[.int .i64 1, .int .i64 3] 3)).alloc (.cells #[.int .i64 2, .int .i64 (-4)] 3)).alloc (.cells #[.slice (some ⟨w.heap.size, 0, none⟩) 2 2, .slice (some ⟨w.heap.size + 1, 0, none⟩) 2 2] 22)) (((w.alloc (.cells #[.int .i64 1, .int .i64 3] 3)).alloc (.cells #[.int .i64 2, .int .i64 (-4)] 3)).alloc (.cells #[.slice (some ⟨w.heap.size, 0, none⟩) 2 2, .slice (some ⟨w.heap.size + 1, 0, none⟩) 2 2] 22)).heap.size (some ⟨g, 0, none⟩) 2
      (two (some ⟨w.heap.size, 0, none⟩) (some ⟨w.heap.size + 1, 0, none⟩)) (two 2 2) (two [1, 3] [2, -4])) := fun w g hg => rw_lit2 w [1, 3] [2, -4] _ _ _ rfl rfl 2 2 rfl rfl (by omega) (by omega) rfl g hg
  go_enter Try.func12, Try.ntmps12
  go_wp2_with fail
  obtain ⟨w1, hw1⟩ : ∃ w1, w1 = (w.alloc (.cells #[.int .i64 8000, .int .i64 2, .int .i64 8] 24)).alloc (.cells #[.int .i64 1, .int .i64 2, .int .i64 3, .int .i64 (-4)] 3) := ⟨_, rfl⟩
  have B1 : Below w.heap.size w w1 := by rw [hw1]; exact bal (bal (brefl w) _) _
  have m1 : w1.heap[w.heap.size]? = some (.cells #[.int .i64 8000, .int .i64 2, .int .i64 8] 24 (0, 0)) := by rw [hw1, Below.heap_alloc _ _ _ (by simp)]; exact heap_alloc_new w _
  have i1 : Ints .i64 w1 w1.heap.size (some ⟨w.heap.size + 1, 0, none⟩) kL := by
    rw [hw1]
    have := ints_lit (w.alloc (.cells #[.int .i64 8000, .int .i64 2, .int .i64 8] 24)) .i64 kL #[.int .i64 1, .int .i64 2, .int .i64 3, .int .i64 (-4)] 3 rfl
    rw [World.size_alloc] at this
    exact this.more (by simp)
  rw [← hw1]
  have hws : w.heap.size < w1.heap.size := by rw [hw1]; simp; omega
  clear hw1
  have t1 := partL_any kL 4 rfl (by omega) 8000 2 8 _ 4 w1 i1
  rw [k_part] at t1
  (with_reducible refine t1.mono ?_); rintro e w2 ⟨A2, c2, RA2, RC2, rfl, o2, b2⟩
  clear t1 i1
  have B2 := bth B1 b2
  have m2 := (b2.block _ hws).trans m1
  have ho2 : OwnV w2 w1.heap.size A2 2 c2 RA2 RC2 kR := o2
  clear o2 m1 b2 B1
  go_wp2_with fail
  obtain ⟨w3, hw3⟩ : ∃ w3, w3 = w2.alloc (.cells #[.int .i64 8, .slice A2 2 c2] 28) := ⟨_, rfl⟩
  have h3 : Rw w3 w3.heap.size A2 2 RA2 RC2 kR := by rw [hw3]; exact (ho2.below (bal (brefl w2) _) (Nat.le_refl _)).rw
  have HO3 : Hid (OwnV w3 w1.heap.size A2 2 c2 RA2 RC2 kR) := by show OwnV _ _ _ _ _ _ _ _; rw [hw3]; exact ho2.below (bal (brefl w2) _) (Nat.le_refl _)
  have Mb : Hid (w3.heap[w2.heap.size]? = some (.cells #[.int .i64 8, .slice A2 2 c2] 28 (0, 0))) := by show _ = _; rw [hw3]; exact heap_alloc_new w2 _
  have Mf : Hid (w3.heap[w.heap.size]? = some (.cells #[.int .i64 8000, .int .i64 2, .int .i64 8] 24 (0, 0))) := by
    show _ = _
    rw [hw3, Below.heap_alloc _ _ _ (by rcases Nat.lt_or_ge w.heap.size w2.heap.size with h | h; exact h; (rw [Array.getElem?_eq_none h] at m2; cases m2))]; exact m2
  have B3 : Hid (Below w.heap.size w w3) := by show Below _ _ _; rw [hw3]; exact bal B2 _
  rw [← hw3]
  clear hw3 m2 ho2 B2
  have t1 := packBL_any kR 2 (by omega) k_rl (by decide +kernel) RA2 RC2 A2 c2 8 w3 h3
  rw [k_pack] at t1
  (with_reducible refine t1.mono ?_); rintro e w4 ⟨A4, c4, rfl, o4, b4⟩
  clear t1
  obtain ⟨c0, c1, _, _⟩ := blk_cell ((b4.block _ (block_lt_of_cell (blk_cell Mb.out).1)).trans Mb.out)
  have B4 := bth B3.out b4
  have z4 := Lib.hid o4.ints
  have Hb4 := Lib.hid b4
  clear o4
  go_wp2_with fail
  (with_reducible refine (bmayL_any kR 2 (by omega) k_rl RA2 RC2 _ _ _ _ ((h3.below b4).more b4.size)).mono ?_); rintro e w5 ⟨rfl, b5⟩
  rw [k_may]
  have Hb5 := Lib.hid (bth b4 b5)
  have z5 := Lib.hid ((z4.out.below b5).more b5.size)
  obtain ⟨f0, f1, f2⟩ := fmt_cell ((Hb5.out.block _ (block_lt_of_cell (fmt_cell Mf.out).1)).trans Mf.out)
  clear b4 b5 c0 c1 z4 B4
  go_wp2_with fail
  (with_reducible refine (rightL_any 8000 2 8 _).mono ?_); rintro e w6 ⟨rfl, b6⟩
  rw [show rightB 8000 2 8 = true by decide]
  have Hb6 := Lib.hid (bth Hb5.out b6)
  have z6 := Lib.hid ((z5.out.below b6).more b6.size)
  obtain ⟨c0, c1, _, _⟩ := blk_cell ((Hb6.out.block _ (block_lt_of_cell (blk_cell Mb.out).1)).trans Mb.out)
  clear b6 z5 f0 f1 f2
  go_wp2_with fail
  (with_reducible refine (len_any kR 2 (by omega) RA2 RC2 _ _ _ _ ((h3.below Hb6.out).more Hb6.out.size)).mono ?_); rintro e w7 ⟨rfl, b7⟩
  rw [k_len]
  have Hb7 := Lib.hid (bth Hb6.out b7)
  have z7 := Lib.hid ((z6.out.below b7).more b7.size)
  obtain ⟨c0, c1, _, _⟩ := blk_cell ((Hb7.out.block _ (block_lt_of_cell (blk_cell Mb.out).1)).trans Mb.out)
  clear b7 z6
  go_wp2_with fail
  have D0 := bal (bal (bal (brefl w7) (.cells #[.int .i64 1, .int .i64 3] 3)) (.cells #[.int .i64 2, .int .i64 (-4)] 3)) (.cells #[.slice (some ⟨w7.heap.size, 0, none⟩) 2 2, .slice (some ⟨w7.heap.size + 1, 0, none⟩) 2 2] 22)
  (with_reducible refine (sameRows_any kR 2 (by omega) k_rl _ _ _ _ _ _ _ _ _ _ _ (((h3.below Hb7.out).more Hb7.out.size).below D0) ((L1.out w7 _ rfl).cong fun i hi => (k_rows i hi).symm)).mono ?_); rintro e w8 ⟨rfl, b8⟩
  have Hb8 := bth D0 b8
  have BB := Lib.hid (bth (bth B3.out Hb7.out) Hb8)
  have cv := conv_any (n := 4) (c := c4) rfl (z7.out.below Hb8)
  rw [show strOfNums [1, 2, 3, 252] = ⟨#[1, 2, 3, 252]⟩ by decide +kernel] at cv
  clear D0 b8 Hb8
  go_wp2_with fail
  go_ret
  exact ⟨rfl, BB.out⟩
end Go.Proofs.Ytfihbcpainlpcaa
