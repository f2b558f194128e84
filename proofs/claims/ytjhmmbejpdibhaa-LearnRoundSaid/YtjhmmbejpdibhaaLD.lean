/-
  Both makers of filters; copies of a filter's weights; Twin; told.
-/
import Derived.Test.YtjhmmbejpdibhaaProg
import Derived.Test.YtjhmmbejpdibhaaLC
namespace Go.Proofs.Ytjhmmbejpdibhaa
open Go.RowKit

def zobj (n : Nat) : Obj := .cells (madeCells #[.int .i64 0] (n * 1)) 3
theorem run_mk (n : Nat) (hn : n ≤ 65536) (w : World) : (Instr.makeSlice 24 (.int .i64 (n : Int)) (.int .i64 (n : Int))).run Try.prog w = .ok (.slice (some ⟨w.heap.size, 0, none⟩) n n) (w.alloc (zobj n)) := by
  obtain ⟨i0, hi0, hz0, hz1, hz2⟩ := info_parts int_info
  have h := run_make (P := Try.prog) w 24 3 i0 _ Try.underlying24 hi0 hz0 .i64 .i64 (n : Int) (n : Int) (by omega) (Int.le_refl _) (by rw [hz2]; omega) (by omega)
  rw [hz1, Int.toNat_natCast] at h
  exact h

theorem zobj_eq (n : Nat) : zobj n = .cells ((List.replicate n (0 : Int)).map (Value.int .i64)).toArray 3 (0, 0) := by
  unfold zobj
  congr 1
  apply Array.toList_inj.1
  rw [toList_madeCells_one]
  simp
theorem own_zero {w : World} {g n : Nat} (h : w.heap[g]? = some (zobj n)) (hn : n ≤ 65536) : OwnI w g n (List.replicate n 0) := by
  unfold OwnI
  rw [List.length_replicate]
  rw [zobj_eq] at h
  exact own_shut h (by simp) (Nat.le_refl _) (by simp only [maxLen]; omega) (by simp) (Nat.zero_le _)
theorem ix_zero (n k : Nat) : ix (List.replicate n 0) k = 0 := by
  by_cases h : k < n
  · rw [ix_eq (by simpa using h)]; simp
  · rw [ix_out (by simp; omega)]
theorem heap_at {w : World} {o : Obj} : (w.alloc o).heap[w.heap.size]? = some o := heap_alloc_new w o

theorem filt_newL {w1 : World} {r : Int} {n bw bs : Nat} (hbb : bw = w1.heap.size ∧ bs = w1.heap.size + 1 ∨ bw = w1.heap.size + 1 ∧ bs = w1.heap.size) (h1 : 1 ≤ n) (h2 : n ≤ 32) (h3 : 0 ≤ r) (h4 : r ≤ 8) :
    FiltL (((w1.alloc (zobj n)).alloc (zobj n)).alloc (.cells #[.int .i64 r, .slice (some ⟨bw, 0, none⟩) n n, .slice (some ⟨bs, 0, none⟩) n n] 54)).drew (w1.heap.size + 1 + 1) bw n bs n r (List.replicate n 0) (List.replicate n 0) := by
  have hz : ∀ g, g = w1.heap.size ∨ g = w1.heap.size + 1 → (((w1.alloc (zobj n)).alloc (zobj n)).alloc (.cells #[.int .i64 r, .slice (some ⟨bw, 0, none⟩) n n, .slice (some ⟨bs, 0, none⟩) n n] 54)).heap[g]? = some (zobj n) := by
    rintro g (rfl | rfl)
    · rw [Below.heap_alloc _ _ _ (by simp; omega), Below.heap_alloc _ _ _ (by simp)]
      exact heap_at
    · rw [Below.heap_alloc _ _ _ (by simp)]
      have := heap_at (w := w1.alloc (zobj n)) (o := zobj n)
      simpa using this
  have hne : bw ≠ bs := by omega
  refine ⟨?_, own_zero (hz _ (by omega)) (by omega), own_zero (hz _ (by omega)) (by omega), by omega, by omega, hne, rfl, by simpa using h1, by simpa using h2, h3, h4, fun k _ => by rw [ix_zero]; omega⟩
  have := heap_at (w := (w1.alloc (zobj n)).alloc (zobj n)) (o := .cells #[.int .i64 r, .slice (some ⟨bw, 0, none⟩) n n, .slice (some ⟨bs, 0, none⟩) n n] 54)
  rw [List.length_replicate]
  have hs : ((w1.alloc (zobj n)).alloc (zobj n)).heap.size = w1.heap.size + 1 + 1 := by simp
  rw [hs] at this
  exact this

def NewlQ (n : Nat) (r : Int) (w : World) (e : Ending) (w' : World) : Prop :=
  ∃ b bw bs, e = .returned (.tuple #[.pointer (some ⟨b, 0, none⟩), .int .i64 0]) ∧
      FiltL w' b bw n bs n r (List.replicate n 0) (List.replicate n 0) ∧ w.heap.size ≤ b ∧ w.heap.size ≤ bw ∧ w.heap.size ≤ bs ∧ Below w.heap.size w w'
theorem newL_yes (n : Nat) (r : Int) (h1 : 1 ≤ n) (h2 : n ≤ 32) (h3 : 0 ≤ r) (h4 : r ≤ 8) (w : World) :
    Calls Try.prog 12 #[.agg #[.int .i64 (n : Int), .int .i64 r]] w (NewlQ n r w) := by
  have hv := Lib.hid (validB_true (o := (n : Int)) (r := r) |>.2 ⟨by omega, by omega, h3, h4⟩)
  have hmk := run_mk n (by omega)
  go_enter Try.func12, Try.ntmps12
  go_wp2_with (go_at_call 30; refine (validL_any _ _ _).mono ?_; rintro e w1 ⟨rfl, hb1⟩; rw [hv.out])
  have c0 : w1.cell? ⟨w.heap.size, 0, none⟩ = some (.int .i64 (n : Int)) := later hb1 (by simp [World.cell?_alloc_new])
  have c1 : w1.cell? ⟨w.heap.size, 1, none⟩ = some (.int .i64 r) := later hb1 (by simp [World.cell?_alloc_new])
  have hbw : Hid (Below w.heap.size w w1) := (bal (brefl w) _).trans (hb1.mono (by simp))
  clear hb1
  have n0 := World.new_ne w1 _ c0
  have n1 := World.new_ne w1 _ c1
  go_region_held3 (fun w' => w'.cell? ⟨w.heap.size, 0, none⟩ = some (.int .i64 (n : Int)) ∧ w'.cell? ⟨w.heap.size, 1, none⟩ = some (.int .i64 r)) (first | (go_keep; done) | exact ⟨later (bal (bal (bal (brefl w1) _) _) _).drew c0, later (bal (bal (bal (brefl w1) _) _) _).drew c1⟩) (fail)
  all_goals go_wp2_with fail
  all_goals go_ret2
  all_goals have hsz := hbw.out.size
  · refine ⟨_, w1.heap.size, w1.heap.size + 1, rfl, filt_newL (.inl ⟨rfl, rfl⟩) h1 h2 h3 h4, by omega, by omega, by omega, (bal (bal (bal hbw.out _) _) _).drew⟩
  · refine ⟨_, w1.heap.size + 1, w1.heap.size, rfl, filt_newL (.inr ⟨rfl, rfl⟩) h1 h2 h3 h4, by omega, by omega, by omega, (bal (bal (bal hbw.out _) _) _).drew⟩

theorem newL_no (o r : Int) (hv0 : validB o r = false) (w : World) :
    Calls Try.prog 12 #[.agg #[.int .i64 o, .int .i64 r]] w fun e w' => e = .returned (.tuple #[.pointer none, .int .i64 1]) ∧ Below w.heap.size w w' := by
  have hv := Lib.hid hv0
  clear hv0
  go_enter Try.func12, Try.ntmps12
  go_wp2_with (go_at_call 30; refine (validL_any _ _ _).mono ?_; rintro e w1 ⟨rfl, hb1⟩; rw [hv.out])
  go_ret2
  exact ⟨rfl, (bal (brefl w) _).trans (hb1.mono (by simp))⟩

theorem filt_newR {w1 : World} {B : Nat} {r : Int} {n bw bs : Nat} (hB : B ≤ w1.heap.size) (hbb : bw = w1.heap.size ∧ bs = w1.heap.size + 1 ∨ bw = w1.heap.size + 1 ∧ bs = w1.heap.size) (h1 : 1 ≤ n) (h2 : n ≤ 32) (h3 : 0 ≤ r) (h4 : r ≤ 8) :
    FiltR (((w1.alloc (zobj n)).alloc (zobj n)).alloc (.cells #[.int .i64 r, .slice (some ⟨bw, 0, none⟩) n n, .slice (some ⟨bs, 0, none⟩) n n] 38)).drew B (w1.heap.size + 1 + 1) r (List.replicate n 0) (List.replicate n 0) := by
  have hz : ∀ g, g = w1.heap.size ∨ g = w1.heap.size + 1 → (((w1.alloc (zobj n)).alloc (zobj n)).alloc (.cells #[.int .i64 r, .slice (some ⟨bw, 0, none⟩) n n, .slice (some ⟨bs, 0, none⟩) n n] 38)).heap[g]? = some (zobj n) := by
    rintro g (rfl | rfl)
    · rw [Below.heap_alloc _ _ _ (by simp; omega), Below.heap_alloc _ _ _ (by simp)]
      exact heap_at
    · rw [Below.heap_alloc _ _ _ (by simp)]
      have := heap_at (w := w1.alloc (zobj n)) (o := zobj n)
      simpa using this
  refine ⟨⟨bw, n, bs, n, ?_, own_zero (hz _ (by omega)) (by omega), own_zero (hz _ (by omega)) (by omega), by omega, by omega⟩, by omega, rfl, by simpa using h1, by simpa using h2, h3, h4, fun k _ => by rw [ix_zero]; omega⟩
  have := heap_at (w := (w1.alloc (zobj n)).alloc (zobj n)) (o := .cells #[.int .i64 r, .slice (some ⟨bw, 0, none⟩) n n, .slice (some ⟨bs, 0, none⟩) n n] 38)
  rw [List.length_replicate]
  have hs : ((w1.alloc (zobj n)).alloc (zobj n)).heap.size = w1.heap.size + 1 + 1 := by simp
  rw [hs] at this
  exact this

def NewrQ (n : Nat) (r : Int) (w : World) (e : Ending) (w' : World) : Prop :=
  ∃ b bw bs, e = .returned (.tuple #[.pointer (some ⟨b, 0, none⟩), .int .i64 0]) ∧
      FiltR w' w.heap.size b r (List.replicate n 0) (List.replicate n 0) ∧ w.heap.size ≤ b ∧ w.heap.size ≤ bw ∧ w.heap.size ≤ bs ∧ Below w.heap.size w w'
theorem newR_yes (n : Nat) (r : Int) (h1 : 1 ≤ n) (h2 : n ≤ 32) (h3 : 0 ≤ r) (h4 : r ≤ 8) (w : World) :
    Calls Try.prog 13 #[.agg #[.int .i64 (n : Int), .int .i64 r]] w (NewrQ n r w) := by
  have hv := Lib.hid (validB_true (o := (n : Int)) (r := r) |>.2 ⟨by omega, by omega, h3, h4⟩)
  have hmk := run_mk n (by omega)
  go_enter Try.func13, Try.ntmps13
  go_wp2_with (go_at_call 20; refine (stageMay_any _ _ _).mono ?_; rintro e w1 ⟨rfl, hb1⟩; rw [hv.out])
  have c0 : w1.cell? ⟨w.heap.size, 0, none⟩ = some (.int .i64 (n : Int)) := later hb1 (by simp [World.cell?_alloc_new])
  have c1 : w1.cell? ⟨w.heap.size, 1, none⟩ = some (.int .i64 r) := later hb1 (by simp [World.cell?_alloc_new])
  have hbw : Hid (Below w.heap.size w w1) := (bal (brefl w) _).trans (hb1.mono (by simp))
  clear hb1
  have n0 := World.new_ne w1 _ c0
  have n1 := World.new_ne w1 _ c1
  go_region_held3 (fun w' => w'.cell? ⟨w.heap.size, 0, none⟩ = some (.int .i64 (n : Int)) ∧ w'.cell? ⟨w.heap.size, 1, none⟩ = some (.int .i64 r)) (first | (go_keep; done) | exact ⟨later (bal (bal (bal (brefl w1) _) _) _).drew c0, later (bal (bal (bal (brefl w1) _) _) _).drew c1⟩) (fail)
  all_goals go_wp2_with fail
  all_goals go_ret2
  all_goals have hsz := hbw.out.size
  · refine ⟨_, w1.heap.size, w1.heap.size + 1, rfl, filt_newR hsz (.inl ⟨rfl, rfl⟩) h1 h2 h3 h4, by omega, by omega, by omega, (bal (bal (bal hbw.out _) _) _).drew⟩
  · refine ⟨_, w1.heap.size + 1, w1.heap.size, rfl, filt_newR hsz (.inr ⟨rfl, rfl⟩) h1 h2 h3 h4, by omega, by omega, by omega, (bal (bal (bal hbw.out _) _) _).drew⟩

theorem newR_no (o r : Int) (hv0 : validB o r = false) (w : World) :
    Calls Try.prog 13 #[.agg #[.int .i64 o, .int .i64 r]] w fun e w' => e = .returned (.tuple #[.pointer none, .int .i64 1]) ∧ Below w.heap.size w w' := by
  have hv := Lib.hid hv0
  clear hv0
  go_enter Try.func13, Try.ntmps13
  go_wp2_with (go_at_call 20; refine (stageMay_any _ _ _).mono ?_; rintro e w1 ⟨rfl, hb1⟩; rw [hv.out])
  go_ret2
  exact ⟨rfl, (bal (brefl w) _).trans (hb1.mono (by simp))⟩

end Go.Proofs.Ytjhmmbejpdibhaa
