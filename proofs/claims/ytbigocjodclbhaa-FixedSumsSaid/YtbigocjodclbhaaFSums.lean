/-
  FixedSums: what is left of a sum of rows; the walk of the law.
-/
import Derived.Test.YtbigocjodclbhaaProg
import Derived.Test.YtbigocjodclbhaaFCurves
namespace Go.Proofs.Ytbigocjodclbhaa
open Go.RowKit

def sh8 (l : List Int) (n : Nat) : List Int := (List.range n).map fun i => ix l i / 256
theorem sh8_len (l : List Int) (n : Nat) : (sh8 l n).length = n := by simp [sh8]
theorem sh8_ix {l : List Int} {n k : Nat} (h : k < n) : ix (sh8 l n) k = ix l k / 256 := by unfold sh8; rw [ix_map_range _ _ _ h]
def addL (a b : List Int) : List Int := (List.range a.length).map fun i => ix a i + ix b i
theorem addL_len (a b : List Int) : (addL a b).length = a.length := by simp [addL]
theorem addL_ix {a b : List Int} {k : Nat} (h : k < a.length) : ix (addL a b) k = ix a k + ix b k := by unfold addL; rw [ix_map_range _ _ _ h]
/-- every number of l is at most M away from 0. -/
def Far (M : Int) (l : List Int) : Prop := ∀ k, k < l.length → -M ≤ ix l k ∧ ix l k ≤ M
theorem cf_far {l : List Int} {M : Int} {o i : Nat} (h : Far M l) (ho : o ≤ 4) (hi : i + o < l.length) : -(16 * M) ≤ cf o l i ∧ cf o l i ≤ 16 * M := by
  have h0 := h i (by omega)
  rcases o with _ | _ | _ | _ | _ | o
  · simp only [cf]; omega
  · have h1 := h (i + 1) (by omega); simp only [cf]; omega
  · have h1 := h (i + 1) (by omega); have h2 := h (i + 2) (by omega); simp only [cf]; omega
  · have h1 := h (i + 1) (by omega); have h2 := h (i + 2) (by omega); have h3 := h (i + 3) (by omega); simp only [cf]; omega
  · have h1 := h (i + 1) (by omega); have h2 := h (i + 2) (by omega); have h3 := h (i + 3) (by omega); have h4 := h (i + 4) (by omega); simp only [cf]; omega
  · omega
theorem far_wide {l : List Int} {M : Int} (h : Far M l) (hM : M ≤ 1073741823) : allWideB l = true :=
  allWideB_true.2 fun k hk => wideB_true.2 (by have := h k hk; omega)
theorem far_rest {l : List Int} {M : Int} {o : Nat} (h : Far M l) (hM : 16 * M ≤ 1073741823) (ho : o ≤ 4) (hol : o ≤ l.length) : restP l (o : Int) = (diffN l o, 0) := by
  have hs := small_wide (far_wide h (by omega))
  refine (restP_ok (okOrder_true.2 ⟨by omega, by omega, by omega⟩) (far_wide h (by omega)) ?_)
  rw [Int.toNat_natCast]
  refine allWideB_true.2 fun k hk => ?_
  rw [diffN_len] at hk
  rw [diffN_cf hs ho (by omega)]
  have := cf_far h ho (show k + o < l.length by omega)
  exact wideB_true.2 (by omega)
theorem cf_add {a b : List Int} {o i : Nat} (hl : a.length = b.length) (ho : o ≤ 4) (hi : i + o < a.length) : cf o (addL a b) i = cf o a i + cf o b i := by
  rcases o with _ | _ | _ | _ | _ | o
  · simp only [cf]; rw [addL_ix (by omega)]
  · simp only [cf]; rw [addL_ix (by omega), addL_ix (by omega)]; omega
  · simp only [cf]; rw [addL_ix (by omega), addL_ix (by omega), addL_ix (by omega)]; omega
  · simp only [cf]; rw [addL_ix (by omega), addL_ix (by omega), addL_ix (by omega), addL_ix (by omega)]; omega
  · simp only [cf]; rw [addL_ix (by omega), addL_ix (by omega), addL_ix (by omega), addL_ix (by omega), addL_ix (by omega)]; omega
  · omega
theorem diffN_add {a b : List Int} {M : Int} {o : Nat} (ha : Far M a) (hb : Far M b) (hM : 32 * M ≤ 1073741823) (hl : a.length = b.length) (ho : o ≤ 4) : diffN (addL a b) o = addL (diffN a o) (diffN b o) := by
  have hab : Far (2 * M) (addL a b) := fun k hk => by
    rw [addL_len] at hk
    rw [addL_ix hk]
    have := ha k hk; have := hb k (by omega); omega
  refine ix_ext _ _ (by rw [diffN_len, addL_len, addL_len, diffN_len]) fun k hk => ?_
  rw [diffN_len, addL_len] at hk
  rw [diffN_cf (small_wide (far_wide hab (by omega))) ho (by rw [addL_len]; omega), addL_ix (by rw [diffN_len]; exact hk), diffN_cf (small_wide (far_wide ha (by omega))) ho (by omega), diffN_cf (small_wide (far_wide hb (by omega))) ho (by omega), cf_add hl ho (by omega)]
theorem far_sh8 {l : List Int} (h : ∀ x ∈ l, -2147483648 ≤ x ∧ x ≤ 2147483647) {n : Nat} (hn : n ≤ l.length) : Far 8388608 (sh8 l n) := fun k hk => by
  rw [sh8_len] at hk
  rw [sh8_ix hk]
  have := h _ (ix_mem (xs := l) (k := k) (by omega))
  omega

def zobj (n : Nat) : Obj := .cells (madeCells #[.int .i64 0] (n * 1)) 3
theorem run_mk (n : Nat) (hn : n ≤ 65536) (w : World) : (Instr.makeSlice 22 (.int .i64 (n : Int)) (.int .i64 (n : Int))).run Try.prog w = .ok (.slice (some ⟨w.heap.size, 0, none⟩) n n) (w.alloc (zobj n)) := by
  obtain ⟨i0, hi0, hz0, hz1, hz2⟩ := info_parts int_info
  have h := run_make (P := Try.prog) w 22 3 i0 _ Try.underlying22 hi0 hz0 .i64 .i64 (n : Int) (n : Int) (by omega) (Int.le_refl _) (by rw [hz2]; omega) (by omega)
  rw [hz1, Int.toNat_natCast] at h
  exact h
theorem zobj_eq (n : Nat) : zobj n = .cells ((List.replicate n (0 : Int)).map (Value.int .i64)).toArray 3 (0, 0) := by
  unfold zobj
  congr 1
  apply Array.toList_inj.1
  rw [toList_madeCells_one]
  simp
/-- a row of n numbers in a block of its own. -/
def Row (w : World) (B g n : Nat) (xs : List Int) : Prop := w.ownsRow B 3 1 (.slice (some ⟨g, 0, none⟩) n n) n (xs.map (.int .i64))
theorem row_zero {w : World} {B g n : Nat} (h : w.heap[g]? = some (zobj n)) (hB : B ≤ g) (hn : n ≤ 65536) : Row w B g n (List.replicate n 0) := by
  rw [zobj_eq] at h
  exact own_shut h (by simp) (Nat.le_refl _) (by simp only [maxLen]; omega) (by simp) hB
theorem heap_at {w : World} {o : Obj} : (w.alloc o).heap[w.heap.size]? = some o := heap_alloc_new w o
theorem row_set {w : World} {B g n : Nat} {xs : List Int} (h : Row w B g n xs) (k : Nat) (x : Int) : Row (w.setCell ⟨g, k, none⟩ (.int .i64 x)) B g n (xs.set k x) := own_set h k x
theorem row_other {w : World} {B g n : Nat} {xs : List Int} (h : Row w B g n xs) {g' k : Nat} (hg : g ≠ g') (v : Value) : Row (w.setCell ⟨g', k, none⟩ v) B g n xs :=
  own_of_block h fun q hq => by simp [Value.ownBlock] at hq; subst hq; exact Below.heap_setCell _ _ _ _ hg
theorem row_drew {w : World} {B g n : Nat} {xs : List Int} (h : Row w B g n xs) : Row w.drew B g n xs := h
theorem row_drewN {w : World} {B g n : Nat} {xs : List Int} (h : Row w B g n xs) (m : Nat) : Row (w.drewN m) B g n xs := h
theorem row_cell {w : World} {B g n : Nat} {xs : List Int} (h : Row w B g n xs) {i : Nat} (hi : i < n) : w.cell? ⟨g, i, none⟩ = some (.int .i64 (ix xs i)) := own_cell h hi
theorem row_frz {w : World} {B g n : Nat} {xs : List Int} (h : Row w B g n xs) (i : Nat) : w.frozen? ⟨g, i, none⟩ = false := World.ownsRow.frozenAt h i
theorem row_ints {w : World} {B g n : Nat} {xs : List Int} (h : Row w B g n xs) : Ints .i64 w w.heap.size (some ⟨g, 0, none⟩) xs := own_ints h
theorem row_lt {w : World} {B g n : Nat} {xs : List Int} (h : Row w B g n xs) : B ≤ g ∧ g < w.heap.size := World.ownsRow.lt h g rfl
theorem cell_set_ne {w : World} {p q : Addr} {v u : Value} (h : w.cell? p = some v) (hne : p.block ≠ q.block) : (w.setCell q u).cell? p = some v := (World.cell?_of_block (Below.heap_setCell _ _ _ _ hne)).trans h
/-- zeros whose first k numbers are those of ys. -/
def upto (n : Nat) (ys : List Int) (k : Nat) : List Int := (List.range n).map fun j => if j < k then ix ys j else 0
theorem upto_zero (n : Nat) (ys : List Int) : upto n ys 0 = List.replicate n 0 := ix_ext _ _ (by simp [upto]) fun j hj => by
  have hj' : j < n := by simpa [upto] using hj
  unfold upto; rw [ix_map_range _ _ _ hj', ix_rep hj', if_neg (by omega)]
theorem upto_ix {n : Nat} {ys : List Int} {k j : Nat} (h : j < n) : ix (upto n ys k) j = if j < k then ix ys j else 0 := by unfold upto; rw [ix_map_range _ _ _ h]
theorem upto_set {n : Nat} {ys : List Int} {k : Nat} (h : k < n) : (upto n ys k).set k (ix ys k) = upto n ys (k + 1) := by
  refine ix_ext _ _ (by simp [upto]) fun j hj => ?_
  have hj' : j < n := by simpa [upto] using hj
  rw [ix_set _ _ _ _ (by simpa [upto] using h), upto_ix hj', upto_ix hj']
  by_cases e : j = k
  · subst e; simp
  · rw [if_neg e]
    by_cases h' : j < k
    · rw [if_pos h', if_pos (by omega)]
    · rw [if_neg h', if_neg (by omega)]
theorem upto_all {n : Nat} {ys : List Int} (h : ys.length = n) : upto n ys n = ys := ix_ext _ _ (by simp [upto, h]) fun j hj => by
  have hj' : j < n := by simpa [upto] using hj
  rw [upto_ix hj', if_pos hj']
theorem and255 (o : Int) : 0 ≤ bits .and .i64 o 255 ∧ bits .and .i64 o 255 ≤ 255 := by
  have h : ((BitVec.ofInt 64 o) &&& (BitVec.ofInt 64 255)).toNat ≤ 255 := by
    rw [BitVec.toNat_and]; exact Nat.le_trans Nat.and_le_right (by decide)
  have e : bits .and .i64 o 255 = IntKind.i64.wrap (((BitVec.ofInt 64 o) &&& (BitVec.ofInt 64 255)).toNat : Int) := rfl
  rw [e, IntWalk.i64_in _ (by omega)]
  omega
/-- three rows of their own. -/
structure Tri (w : World) (B n g1 g2 g3 : Nat) (xs ys zs : List Int) : Prop where
  r1 : Row w B g1 n xs
  r2 : Row w B g2 n ys
  r3 : Row w B g3 n zs
  n12 : g1 ≠ g2
  n13 : g1 ≠ g3
  n23 : g2 ≠ g3
theorem tri_made {w : World} {B n g1 g2 g3 : Nat} (hB : B ≤ w.heap.size) (hn : n ≤ 65536) (h : (g1 = w.heap.size ∨ g1 = w.heap.size + 1 ∨ g1 = w.heap.size + 1 + 1) ∧ (g2 = w.heap.size ∨ g2 = w.heap.size + 1 ∨ g2 = w.heap.size + 1 + 1) ∧ (g3 = w.heap.size ∨ g3 = w.heap.size + 1 ∨ g3 = w.heap.size + 1 + 1)) (h12 : g1 ≠ g2) (h13 : g1 ≠ g3) (h23 : g2 ≠ g3) :
    Tri (((w.alloc (zobj n)).alloc (zobj n)).alloc (zobj n)).drew B n g1 g2 g3 (List.replicate n 0) (List.replicate n 0) (List.replicate n 0) := by
  have hz : ∀ g, (g = w.heap.size ∨ g = w.heap.size + 1 ∨ g = w.heap.size + 1 + 1) → (((w.alloc (zobj n)).alloc (zobj n)).alloc (zobj n)).drew.heap[g]? = some (zobj n) := by
    rintro g (rfl | rfl | rfl)
    · show (((w.alloc (zobj n)).alloc (zobj n)).alloc (zobj n)).heap[_]? = _
      rw [Below.heap_alloc _ _ _ (by simp; omega), Below.heap_alloc _ _ _ (by simp)]
      exact heap_at
    · show (((w.alloc (zobj n)).alloc (zobj n)).alloc (zobj n)).heap[_]? = _
      rw [Below.heap_alloc _ _ _ (by simp)]
      have := heap_at (w := w.alloc (zobj n)) (o := zobj n)
      simpa using this
    · show (((w.alloc (zobj n)).alloc (zobj n)).alloc (zobj n)).heap[_]? = _
      have := heap_at (w := (w.alloc (zobj n)).alloc (zobj n)) (o := zobj n)
      simpa using this
  exact ⟨row_zero (hz _ h.1) (by omega) hn, row_zero (hz _ h.2.1) (by omega) hn, row_zero (hz _ h.2.2) (by omega) hn, h12, h13, h23⟩

theorem i32_of {l : List Int} (h : Fit .i32 l) : ∀ x ∈ l, -2147483648 ≤ x ∧ x ≤ 2147483647 := fun x hx => by
  have m3 : IntKind.i32.min = -2147483648 := by decide
  have m4 : IntKind.i32.max = 2147483647 := by decide
  have := h x hx
  simp [Lit.wf, m3, m4] at this
  omega
/-- what stands behind the loop. -/
def SumsEnd (n k : Nat) (X Y Z : List Int) : Prop :=
  (n < k ∧ restP X k = ([], 1) ∧ restP Y k = ([], 1) ∧ restP Z k = ([], 1)) ∨
  (k ≤ n ∧ restP X k = (diffN X k, 0) ∧ restP Y k = (diffN Y k, 0) ∧ restP Z k = (addL (diffN X k) (diffN Y k), 0) ∧ Far 134217728 (diffN X k) ∧ Far 134217728 (diffN Y k))
theorem sums_done {n k : Nat} {X Y : List Int} (fx : Far 8388608 X) (fy : Far 8388608 Y) (lx : X.length = n) (ly : Y.length = n) (hk : k ≤ 4) : SumsEnd n k X Y (addL X Y) := by
  by_cases h : n < k
  · have bad : ∀ L : List Int, L.length = n → restP L (k : Int) = ([], 1) := fun L hL => restP_bad (by
      cases e : okOrder L (k : Int) with
      | false => rfl
      | true => have := okOrder_true.1 e; omega)
    exact .inl ⟨h, bad _ lx, bad _ ly, bad _ (by rw [addL_len, lx])⟩
  · have fz : Far 16777216 (addL X Y) := fun j hj => by
      rw [addL_len] at hj
      rw [addL_ix hj]
      have := fx j hj; have := fy j (by omega); omega
    have fd : ∀ L : List Int, Far 8388608 L → L.length = n → Far 134217728 (diffN L k) := fun L hL hl j hj => by
      rw [diffN_len] at hj
      rw [diffN_cf (small_wide (far_wide hL (by omega))) hk (by omega)]
      have := cf_far hL hk (show j + k < L.length by omega)
      omega
    refine .inr ⟨by omega, far_rest fx (by omega) hk (by omega), far_rest fy (by omega) hk (by omega), ?_, fd _ fx lx, fd _ fy ly⟩
    rw [far_rest fz (by omega) hk (by rw [addL_len]; omega), diffN_add fx fy (by omega) (by omega) hk]

theorem tri_xy {w : World} {B n g1 g2 g3 : Nat} {xs ys zs : List Int} (h : Tri w B n g1 g2 g3 xs ys zs) (j : Nat) (x y : Int) :
    Tri ((w.setCell ⟨g1, j, none⟩ (.int .i64 x)).setCell ⟨g2, j, none⟩ (.int .i64 y)).drew B n g1 g2 g3 (xs.set j x) (ys.set j y) zs :=
  ⟨row_other (row_set h.r1 j x) h.n12 _, row_set (row_other h.r2 (fun e => h.n12 e.symm) _) j y, row_other (row_other h.r3 (fun e => h.n13 e.symm) _) (fun e => h.n23 e.symm) _, h.n12, h.n13, h.n23⟩
theorem tri_z {w : World} {B n g1 g2 g3 : Nat} {xs ys zs : List Int} (h : Tri w B n g1 g2 g3 xs ys zs) (j : Nat) (z : Int) :
    Tri (w.setCell ⟨g3, j, none⟩ (.int .i64 z)).drew B n g1 g2 g3 xs ys (zs.set j z) :=
  ⟨row_other h.r1 h.n13 _, row_other h.r2 h.n23 _, row_set h.r3 j z, h.n12, h.n13, h.n23⟩
theorem rest_hid2 {xs : List Int} {m : Nat} (hl : xs.length = m) (hm : m ≤ 200) (o : Int) {y : List Int} {x : Int} (hr : restP xs o = (y, x)) (A : Option Addr) (c : Nat) (w : World) (ha : Ints .i64 w w.heap.size A xs) :
    Calls Try.prog 11 #[.slice A m c, .int .i64 o] w (PairQ w.heap.size (y, x) w) := by
  subst hl
  rw [← hr]
  exact restL_any xs o (by omega) A c w ha

set_option maxHeartbeats 4000000 in
set_option maxRecDepth 100000 in
theorem sums_any (a : List Int) (hm : a.length ≤ 9223372036854775807) (A : Option Addr) (c : Nat) (b : List Int) (hm2 : b.length ≤ 9223372036854775807) (A2 : Option Addr) (c2 : Nat) (o : Int) (w : World)
    (ha : Ints .i32 w w.heap.size A a) (f1 : Fit .i32 a) (hb : Ints .i32 w w.heap.size A2 b) (f2 : Fit .i32 b) (_f : (Lit.int .i64 o).wf = true) :
    Calls Try.prog 9 #[.slice A a.length c, .slice A2 b.length c2, .int .i64 o] w fun e w' => e = .returned (.bool true) ∧ Below w.heap.size w w' := by
  obtain ⟨n, hn⟩ : ∃ n, n = min a.length b.length := ⟨_, rfl⟩
  have hmin : (if b.length < a.length then (b.length : Int) else (a.length : Int)) = (n : Int) := by split <;> omega
  have na : (n : Int) ≤ (a.length : Int) := by omega
  have nb : (n : Int) ≤ (b.length : Int) := by omega
  have Hn := Lib.hid hn
  clear hn
  by_cases q1 : 200 < n
  · have hI : (200 : Int) < (n : Int) := by omega
    go_enter Try.func9, Try.ntmps9
    go_wp2_with fail
    (with_reducible refine (known_any _).mono ?_); rintro e w1 ⟨rfl, b1⟩
    go_wp2_with fail
    go_ret
    exact ⟨rfl, b1⟩
  have q1I : (n : Int) ≤ 200 := by omega
  clear q1
  obtain ⟨k, hk⟩ : ∃ k : Nat, bits .and .i64 o 255 % 5 = (k : Int) := ⟨(bits .and .i64 o 255 % 5).toNat, by have := and255 o; omega⟩
  have hk4 : (k : Int) ≤ 4 := by have := and255 o; omega
  obtain ⟨m0, m1⟩ := and255 o
  have hmk := run_mk n (by omega)
  go_enter Try.func9, Try.ntmps9
  go_wp2_with fail
  (with_reducible refine (known_any _).mono ?_); rintro e w1 ⟨rfl, k1⟩
  have K1 := Lib.hid k1
  clear k1
  go_upto_region 7 with fail
  go_cut [9, 10, 11] (fun s9 s10 s11 wx => (∃ g1 g2 g3 : Nat, s9 = .slice (some ⟨g1, 0, none⟩) n n ∧ s10 = .slice (some ⟨g2, 0, none⟩) n n ∧ s11 = .slice (some ⟨g3, 0, none⟩) n n ∧ Tri wx w.heap.size n g1 g2 g3 (List.replicate n 0) (List.replicate n 0) (List.replicate n 0)) ∧ Below w.heap.size w wx)
  case first =>
    go_region
    all_goals (go_wp2_with fail; go_meet)
    all_goals exact ⟨⟨_, _, _, rfl, rfl, rfl, tri_made K1.out.size (by omega) (by omega) (by omega) (by omega) (by omega)⟩, (bal (bal (bal K1.out _) _) _).drew⟩
  case rest =>
    obtain ⟨⟨g1, g2, g3, rfl, rfl, rfl, hT⟩, hB⟩ := hcut
    obtain ⟨X, hX⟩ : ∃ X, X = sh8 a n := ⟨_, rfl⟩
    obtain ⟨Y, hY⟩ : ∃ Y, Y = sh8 b n := ⟨_, rfl⟩
    have fx : Hid (Far 8388608 X) := by show Far _ _; rw [hX]; exact far_sh8 (i32_of f1) (by omega)
    have fy : Hid (Far 8388608 Y) := by show Far _ _; rw [hY]; exact far_sh8 (i32_of f2) (by omega)
    have lx : Hid (X.length = n) := by show _ = _; rw [hX, sh8_len]
    have ly : Hid (Y.length = n) := by show _ = _; rw [hY, sh8_len]
    have ex : Hid (∀ j, j < n → ix X j = ix a j / 256) := fun j hj => by rw [hX, sh8_ix hj]
    have ey : Hid (∀ j, j < n → ix Y j = ix b j / 256) := fun j hj => by rw [hY, sh8_ix hj]
    obtain ⟨Z, hZ⟩ : ∃ Z, Z = addL X Y := ⟨_, rfl⟩
    have lz : Hid (Z.length = n) := by show _ = _; rw [hZ, addL_len, lx.out]
    have ez : Hid (∀ j, j < n → ix Z j = ix X j + ix Y j) := fun j hj => by rw [hZ, addL_ix (by rw [lx.out]; exact hj)]
    have HZ := Lib.hid hZ
    have hT' := Lib.hid hT
    have hB' := Lib.hid hB
    have hd := Lib.hid (sums_done fx.out fy.out lx.out ly.out (k := k) (by omega))
    rw [← hZ] at hd
    clear hX hY hZ hT hB hmk
    rw [hk]
    clear hk m0 m1
    go_wp2_with fail
    go_loopw [12] (fun iv wr => (∃ j : Nat, j ≤ n ∧ iv = .int .i64 j ∧ Tri wr w.heap.size n g1 g2 g3 (upto n X j) (upto n Y j) (upto n Z j)) ∧ Below w.heap.size w wr) (fun iv _ => n - (intOf iv).toNat)
    case atStart => exact ⟨⟨0, Nat.zero_le _, rfl, by rw [upto_zero, upto_zero, upto_zero]; exact hT'.out⟩, hB'.out⟩
    case round =>
      obtain ⟨⟨j, hj, rfl, hT⟩, hb1⟩ := hrel
      obtain ⟨wo, rfl⟩ : ∃ wo : World, wo = wr := ⟨_, rfl⟩
      have hT1 := Lib.hid hT
      have hb1' := Lib.hid hb1
      clear hT hb1
      by_cases hlt : j < n
      · obtain ⟨q1, o1, rfl, hq1, hc1⟩ := ha.lt (by omega)
        obtain ⟨q2, o2, rfl, hq2, hc2⟩ := hb.lt (by omega)
        have d1 : wo.cell? ⟨q1, o1 + j, none⟩ = some (.int .i32 (ix a j)) := (hb1'.out.cell (p := ⟨q1, o1 + j, none⟩) hq1).trans (hc1 j (by omega))
        have d2 : wo.cell? ⟨q2, o2 + j, none⟩ = some (.int .i32 (ix b j)) := (hb1'.out.cell (p := ⟨q2, o2 + j, none⟩) hq2).trans (hc2 j (by omega))
        clear hc1 hc2
        have x1 := row_cell hT1.out.r1 hlt
        have x2 := row_cell hT1.out.r2 hlt
        have y1 := row_frz hT1.out.r1 j
        have y2 := row_frz hT1.out.r2 j
        have n12 := hT1.out.n12
        obtain ⟨z1, z2⟩ := i32_of f1 _ (ix_mem (xs := a) (k := j) (by omega))
        obtain ⟨z3, z4⟩ := i32_of f2 _ (ix_mem (xs := b) (k := j) (by omega))
        have t1 := IntWalk.i64_in (ix a j) (by omega)
        have t2 := IntWalk.i64_in (ix b j) (by omega)
        have t3 : (0 : Int) ≤ (j : Int) := by omega
        have t4 : (j : Int) < (n : Int) := by omega
        have t5 : (j : Int) < (a.length : Int) := by omega
        have t6 : (j : Int) < (b.length : Int) := by omega
        have t7 : (j : Int).toNat = j := by omega
        go_upto_region 11 with fail
        go_cut [12] (fun s12 wx => s12 = .int .i64 j ∧ Tri wx w.heap.size n g1 g2 g3 (upto n X (j + 1)) (upto n Y (j + 1)) (upto n Z j) ∧ Below w.heap.size w wx)
        case first =>
          have L1 := (row_lt hT1.out.r1).1
          have L2 := (row_lt hT1.out.r2).1
          have hne11 : q1 ≠ g1 := by omega
          have hne12 : q1 ≠ g2 := by omega
          have hne21 : q2 ≠ g1 := by omega
          have hne22 : q2 ≠ g2 := by omega
          go_region_held3 (fun w' => w'.cell? ⟨q1, o1 + j, none⟩ = some (.int .i32 (ix a j)) ∧ w'.cell? ⟨q2, o2 + j, none⟩ = some (.int .i32 (ix b j))) (exact ⟨by first | exact d1 | exact cell_set_ne d1 hne11 | exact cell_set_ne d1 hne12 | exact cell_set_ne (cell_set_ne d1 hne11) hne12 | exact cell_set_ne (cell_set_ne d1 hne12) hne11, by first | exact d2 | exact cell_set_ne d2 hne21 | exact cell_set_ne d2 hne22 | exact cell_set_ne (cell_set_ne d2 hne21) hne22 | exact cell_set_ne (cell_set_ne d2 hne22) hne21⟩) (fail)
          go_wp2_with fail
          go_meet
          refine ⟨rfl, ?_, ((hb1'.out.setCell (p := ⟨g1, j, none⟩) L1 _).setCell (p := ⟨g2, j, none⟩) L2 _).drew⟩
          rw [← upto_set hlt, ← upto_set hlt, ex.out j hlt, ey.out j hlt]
          exact tri_xy hT1.out j _ _
        case rest =>
          obtain ⟨rfl, hT2, hb2⟩ := hcut
          have hT2' := Lib.hid hT2
          have hb2' := Lib.hid hb2
          clear hT2 hb2 d1 d2 x1 x2 y1 y2 n12 t1 t2 t5 t6 z1 z2 z3 z4
          have x1 := row_cell hT2'.out.r1 hlt
          have x2 := row_cell hT2'.out.r2 hlt
          have y3 := row_frz hT2'.out.r3 j
          have x3 := row_cell hT2'.out.r3 hlt
          rw [upto_ix hlt, if_pos (by omega)] at x1 x2
          have b1 := fx.out j (by rw [lx.out]; exact hlt)
          have b2 := fy.out j (by rw [ly.out]; exact hlt)
          have t1 := IntWalk.i64_in (ix X j + ix Y j) (by omega)
          have L3 := (row_lt hT2'.out.r3).1
          clear b1 b2
          go_wp2_with fail
          go_still_tail 12, (by kernel_rfl)
          go_wp2_with fail
          go_roundw
          case rel =>
            refine ⟨⟨j + 1, by omega, by go_num, ?_⟩, (hb2'.out.setCell (p := ⟨g3, j, none⟩) L3 _).drew⟩
            rw [← upto_set (ys := Z) hlt, ez.out j hlt]
            exact tri_z hT2'.out j _
          case measure => simp [intOf]; omega
      · have e : j = n := by omega
        subst e
        have hT3 : Hid (Tri wo w.heap.size j g1 g2 g3 X Y Z) := by
          have h := hT1.out
          rw [upto_all lx.out, upto_all ly.out, upto_all lz.out] at h
          exact h
        clear hT1
        have ox := Lib.hid (own_ints hT3.out.r1)
        have oy := Lib.hid (own_ints hT3.out.r2)
        have oz := Lib.hid (own_ints hT3.out.r3)
        rcases hd.out with ⟨e0, e1, e2, e3⟩ | ⟨e0, e1, e2, e3, e4, e5⟩
        · have e0I : (j : Int) < (k : Int) := by omega
          have E1 := Lib.hid e1
          have E2 := Lib.hid e2
          have E3 := Lib.hid e3
          clear e1 e2 e3
          go_wp2_with fail
          (with_reducible refine (rest_hid2 lx.out (by omega) _ E1.out _ _ _ ox.out).mono ?_); rintro e w2 ⟨R2, r2, rfl, hr2, b2⟩
          have B2 := Lib.hid (bth hb1'.out b2)
          have oy2 := Lib.hid ((oy.out.below b2).more b2.size)
          have oz2 := Lib.hid ((oz.out.below b2).more b2.size)
          clear hr2 b2
          go_wp2_with fail
          (with_reducible refine (rest_hid2 ly.out (by omega) _ E2.out _ _ _ oy2.out).mono ?_); rintro e w3 ⟨R3, r3, rfl, hr3, b3⟩
          have B3 := Lib.hid (bth B2.out b3)
          have oz3 := Lib.hid ((oz2.out.below b3).more b3.size)
          clear hr3 b3
          go_wp2_with fail
          (with_reducible refine (rest_hid2 lz.out (by omega) _ E3.out _ _ _ oz3.out).mono ?_); rintro e w4 ⟨R4, r4, rfl, hr4, b4⟩
          have B4 := Lib.hid (bth B3.out b4)
          clear hr4 b4
          go_wp2_with fail
          go_ret
          exact ⟨rfl, B4.out⟩
        · obtain ⟨q, hq⟩ : ∃ q : Nat, q + k = j := ⟨j - k, by omega⟩
          have hsub : (j : Int) - (k : Int) = (q : Int) := by omega
          have e0I : (k : Int) ≤ (j : Int) := by omega
          have e0B : decide (j < k) = false := decide_eq_false (by omega)
          obtain ⟨P, hP⟩ : ∃ P, P = diffN X k := ⟨_, rfl⟩
          obtain ⟨Q, hQ⟩ : ∃ Q, Q = diffN Y k := ⟨_, rfl⟩
          have lp : Hid (P.length = q) := by show _ = _; rw [hP, diffN_len, lx.out]; omega
          have lq : Hid (Q.length = q) := by show _ = _; rw [hQ, diffN_len, ly.out]; omega
          rw [← hP, ← hQ] at e3
          rw [← hP] at e1 e4
          rw [← hQ] at e2 e5
          obtain ⟨V, hV⟩ : ∃ V, V = addL P Q := ⟨_, rfl⟩
          have lv : Hid (V.length = q) := by show _ = _; rw [hV, addL_len, lp.out]
          have ev : Hid (∀ i, i < q → ix V i = ix P i + ix Q i) := fun i hi => by rw [hV, addL_ix (by rw [lp.out]; exact hi)]
          rw [← hV] at e3
          have Hq := Lib.hid hq
          have E1 := Lib.hid e1
          have E2 := Lib.hid e2
          have E3 := Lib.hid e3
          have E4 := Lib.hid e4
          have E5 := Lib.hid e5
          have hmk := run_mk q (by omega)
          have qI : (q : Int) ≤ 200 := by omega
          clear hP hQ hV e1 e2 e3 e4 e5 hq
          go_wp2_with fail
          (with_reducible refine (rest_hid2 lx.out (by omega) _ E1.out _ _ _ ox.out).mono ?_); rintro e w2 ⟨R2, r2, rfl, hr2, b2⟩
          have B2 := Lib.hid (bth hb1'.out b2)
          have oy2 := Lib.hid ((oy.out.below b2).more b2.size)
          have oz2 := Lib.hid ((oz.out.below b2).more b2.size)
          have z2 := Lib.hid (own_ints hr2)
          clear hr2 b2
          rw [show (P, (0 : Int)).1.length = q from lp.out]
          go_wp2_with fail
          (with_reducible refine (rest_hid2 ly.out (by omega) _ E2.out _ _ _ oy2.out).mono ?_); rintro e w3 ⟨R3, r3, rfl, hr3, b3⟩
          have B3 := Lib.hid (bth B2.out b3)
          have oz3 := Lib.hid ((oz2.out.below b3).more b3.size)
          have z3 := Lib.hid (own_ints hr3)
          have z2 := Lib.hid ((z2.out.below b3).more b3.size)
          clear hr3 b3
          rw [show (Q, (0 : Int)).1.length = q from lq.out]
          go_wp2_with fail
          (with_reducible refine (rest_hid2 lz.out (by omega) _ E3.out _ _ _ oz3.out).mono ?_); rintro e w4 ⟨R4, r4, rfl, hr4, b4⟩
          have B4 := Lib.hid (bth B3.out b4)
          have z4 := Lib.hid (own_ints hr4)
          have z3 := Lib.hid ((z3.out.below b4).more b4.size)
          have z2 := Lib.hid ((z2.out.below b4).more b4.size)
          clear hr4 b4
          rw [show (V, (0 : Int)).1.length = q from lv.out]
          go_wp2_with fail
          obtain ⟨gv, hgv⟩ : ∃ gv, gv = w4.heap.size := ⟨_, rfl⟩
          have hBv : Hid (Below w.heap.size w (w4.alloc (zobj q))) := bal B4.out _
          have hRv : Hid (Row (w4.alloc (zobj q)) w.heap.size gv q (List.replicate q 0)) := by
            show Row _ _ _ _ _
            rw [hgv]
            exact row_zero heap_at B4.out.size (by omega)
          have hz2 : Hid (Ints .i64 (w4.alloc (zobj q)) gv R2 P) := by show Ints _ _ _ _ _; rw [hgv]; exact z2.out.below (bal (brefl w4) _)
          have hz3 : Hid (Ints .i64 (w4.alloc (zobj q)) gv R3 Q) := by show Ints _ _ _ _ _; rw [hgv]; exact z3.out.below (bal (brefl w4) _)
          have hz4 : Hid (Ints .i64 (w4.alloc (zobj q)) gv R4 V) := by show Ints _ _ _ _ _; rw [hgv]; exact z4.out.below (bal (brefl w4) _)
          rw [← hgv]
          obtain ⟨W, hW⟩ : ∃ W, W = w4.alloc (zobj q) := ⟨_, rfl⟩
          rw [← hW] at hBv hRv hz2 hz3 hz4 ⊢
          clear hgv hW z2 z3 z4 hmk
          go_loopw [20] (fun iv wr => (∃ i : Nat, i ≤ q ∧ iv = .int .i64 i ∧ Row wr w.heap.size gv q (upto q V i)) ∧ Below w.heap.size w wr ∧ Below gv W wr) (fun iv _ => q - (intOf iv).toNat)
          case atStart => exact ⟨⟨0, Nat.zero_le _, rfl, by rw [upto_zero]; exact hRv.out⟩, hBv.out, Below.refl _ _⟩
          case round =>
            obtain ⟨⟨i, hi, rfl, hR⟩, hb5, hb6⟩ := hrel
            obtain ⟨wp, rfl⟩ : ∃ wp : World, wp = wr := ⟨_, rfl⟩
            have hR' := Lib.hid hR
            have hb5' := Lib.hid hb5
            have hb6' := Lib.hid hb6
            clear hR hb5 hb6
            by_cases hlt : i < q
            · obtain ⟨p1, o1, rfl, hc1⟩ := (hz2.out.below hb6'.out).at_ (i := i) (by rw [lp.out]; exact hlt)
              obtain ⟨p2, o2, rfl, hc2⟩ := (hz3.out.below hb6'.out).at_ (i := i) (by rw [lq.out]; exact hlt)
              have x3 := row_cell hR'.out hlt
              have y3 := row_frz hR'.out i
              have b1 := E4.out i (by rw [lp.out]; exact hlt)
              have b2 := E5.out i (by rw [lq.out]; exact hlt)
              have t1 := IntWalk.i64_in (ix P i + ix Q i) (by omega)
              have t3 : (0 : Int) ≤ (i : Int) := by omega
              have t4 : (i : Int) < (q : Int) := by omega
              have t7 : (i : Int).toNat = i := by omega
              have L3 := (row_lt hR'.out).1
              clear b1 b2
              go_wp2_with fail
              go_still_tail 12, (by kernel_rfl)
              go_wp2_with fail
              go_roundw
              case rel =>
                refine ⟨⟨i + 1, by omega, by go_num, ?_⟩, (hb5'.out.setCell (p := ⟨gv, i, none⟩) L3 _).drew, (hb6'.out.setCell (p := ⟨gv, i, none⟩) (Nat.le_refl _) _).drew⟩
                rw [← upto_set hlt, ev.out i hlt]
                exact row_drew (row_set hR'.out i _)
              case measure => simp [intOf]; omega
            · have e : i = q := by omega
              subst e
              have hRV : Hid (Row wp w.heap.size gv i V) := by
                have h := hR'.out
                rw [upto_all lv.out] at h
                exact h
              have s1 : eqI V V = true := eqI_refl _
              go_wp2_with fail
              (with_reducible refine (same_q V V _ _ lv.out.symm lv.out.symm (by omega) (by omega) _ _ _ _ _ _ _ (hz4.out.below hb6'.out) (row_ints hRV.out)).mono ?_); rintro e w6 ⟨rfl, b6⟩
              rw [s1]
              have B6 := Lib.hid (bth hb5'.out b6)
              clear b6
              go_wp2_with fail
              go_ret
              exact ⟨rfl, B6.out⟩
end Go.Proofs.Ytbigocjodclbhaa
