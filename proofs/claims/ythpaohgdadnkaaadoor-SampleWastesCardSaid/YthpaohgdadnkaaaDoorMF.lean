/-
  sample: bytes as a string; the law's known.
-/
import Derived.Test.YthpaohgdadnkaaaDoorProg
import Derived.Test.YthpaohgdadnkaaaDoorMB
import Derived.Test.YthpaohgdadnkaaaDoorME
import Derived.Laws.BytesArg
namespace Go.Proofs.YthpaohgdadnkaaaDoor
open Go.RowKit

theorem conv_any {w : World} {B : Nat} {A : Option Addr} {l : List Int} {n c : Nat} (hn : n = l.length) (h : Ints .u8 w B A l) :
    (convert 28 9 (.slice A n c)).run Tryd.prog w = .ok (.string (strOfNums l)) w := by
  subst hn
  by_cases h0 : 0 < l.length
  · obtain ⟨b, off, rfl, _, hc⟩ := h.lt h0
    exact run_convert_bytes_arg w _ _ Tryd.underlying28 Tryd.underlying5 b off l.length c l rfl (fun i hi => hc i hi) _ Tryd.underlying9
  · have e : l = [] := List.eq_nil_of_length_eq_zero (by omega)
    subst e
    cases A with
    | none => exact run_convert_bytes_nil w _ _ Tryd.underlying28 Tryd.underlying5 0 c _ Tryd.underlying9
    | some a =>
      rw [run_convert_bytes_string w _ _ _ (some a) _ c Tryd.underlying28 Tryd.underlying5 Tryd.underlying9]
      exact run_bytesToString w a 0 c [] (by simp [loadCells, loadCellsFrom, Sem.run_pure])

set_option maxHeartbeats 2000000 in
set_option maxRecDepth 100000 in
theorem known_any (w : World) (hT : Tab w) : Calls Tryd.prog 9 #[] w fun e w' => e = .returned (.bool true) ∧ Below w.heap.size w w' := by
  have eP : Hid (packR [-1, 2047] 12 = ([255, 255, 255, 7], 0)) := by show _ = _; decide +kernel
  have eU : Hid (unpackR [255, 255, 255, 7] 12 = ([-1, 2047], 0)) := by show _ = _; decide +kernel
  have eL : Hid (lowI 8 = -128) := by show _ = _; decide +kernel
  have eW : Hid (((widthN [-1] : Nat) : Int) = 1) := by show _ = _; decide +kernel
  have eT : Hid (wasteI (orTo [8, -24]) = 3) := by show _ = _; decide +kernel
  have eS : Hid (eqI [-1, 2047] [-1, 2047] = true) := by show _ = _; decide +kernel
  have HT := Lib.hid hT
  clear hT
  go_enter Tryd.func9, Tryd.ntmps9
  go_wp2_with fail
  obtain ⟨W, hW⟩ : ∃ W, W = w.alloc (.cells #[.int .i64 (-1), .int .i64 2047] 3) := ⟨_, rfl⟩
  have i1 : Ints .i64 W W.heap.size (some ⟨w.heap.size, 0, none⟩) [-1, 2047] := by rw [hW]; exact (ints_lit w .i64 [-1, 2047] #[.int .i64 (-1), .int .i64 2047] 3 rfl).more (by simp)
  have B1 : Hid (Below w.heap.size w W) := by show Below _ _ _; rw [hW]; exact bal (brefl w) _
  rw [← hW]
  have t1 := packL_any [-1, 2047] 2 rfl (by omega) 12 _ 2 W i1
  rw [eP.out] at t1
  clear hW i1
  (with_reducible refine t1.mono ?_); rintro e w2 ⟨R, r, rfl, o2, b2⟩
  clear t1
  have B2 := Lib.hid (bth B1.out b2)
  have z2 := Lib.hid o2.ints
  clear o2 b2
  go_wp2_with fail
  have t1 := unpackL_any [255, 255, 255, 7] (by simp [Byt]) 4 rfl (by omega) 12 R r w2 z2.out
  rw [eU.out] at t1
  (with_reducible refine t1.mono ?_); rintro e w3 ⟨R3, r3, rfl, o3, b3⟩
  clear t1
  have B3 := Lib.hid (bth B2.out b3)
  have z3 := Lib.hid o3.ints
  have cv := conv_any (n := 4) (c := r) rfl (z2.out.below b3)
  rw [show strOfNums [255, 255, 255, 7] = ⟨#[255, 255, 255, 7]⟩ by decide +kernel] at cv
  clear o3 b3
  go_wp2_with fail
  obtain ⟨W, hW⟩ : ∃ W, W = w3.alloc (.cells #[.int .i64 (-1), .int .i64 2047] 3) := ⟨_, rfl⟩
  have i1 : Ints .i64 W (w3.heap.size + 1) (some ⟨w3.heap.size, 0, none⟩) [-1, 2047] := by rw [hW]; exact ints_lit w3 .i64 [-1, 2047] #[.int .i64 (-1), .int .i64 2047] 3 rfl
  have i3 : Ints .i64 W w3.heap.size R3 [-1, 2047] := by rw [hW]; exact z3.out.below (bal (brefl w3) _)
  have B4 : Hid (Below w.heap.size w W) := by show Below _ _ _; rw [hW]; exact bal B3.out _
  rw [← hW]
  have t1 := same_q [-1, 2047] [-1, 2047] 2 2 rfl rfl (by omega) (by omega) R3 _ _ _ r3 2 W i3 i1
  rw [eS.out] at t1
  (with_reducible refine t1.mono ?_); rintro e w5 ⟨rfl, b5⟩
  have B5 := Lib.hid (bth B4.out b5)
  clear t1 hW i1 i3 b5 cv
  go_wp2_with fail
  have t1 := lowL_any 8 w5
  rw [eL.out] at t1
  (with_reducible refine t1.mono ?_); rintro e w' ⟨rfl, rfl⟩
  clear t1
  go_wp2_with fail
  have t1 := widthL_any [-1] 1 rfl (by omega) _ _ 1 _ (ints_lit w' .i64 [-1] #[.int .i64 (-1)] 3 rfl)
  rw [eW.out] at t1
  (with_reducible refine t1.mono ?_); rintro e w6 ⟨rfl, n6, hw6⟩
  have B6 : Hid (Below w.heap.size w w6) := by show Below _ _ _; rw [hw6]; exact below_drewN (bal B5.out _) _
  clear t1 hw6
  go_wp2_with fail
  have B7 := Lib.hid (bal B6.out (.cells #[.int .i64 8, .int .i64 (-24)] 3))
  have t1 := wastedL_any [8, -24] 2 rfl (by omega) _ _ 2 _ (HT.out.below B7.out) (ints_lit w6 .i64 [8, -24] #[.int .i64 8, .int .i64 (-24)] 3 rfl)
  rw [eT.out] at t1
  (with_reducible refine t1.mono ?_); rintro e w7 ⟨rfl, hw7⟩
  clear t1
  rw [← hw7] at B7
  clear hw7
  go_wp2_with fail
  go_ret
  exact ⟨rfl, B7.out⟩
end Go.Proofs.YthpaohgdadnkaaaDoor
