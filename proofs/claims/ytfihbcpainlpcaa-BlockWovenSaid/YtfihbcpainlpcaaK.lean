/-
  Words for memory that the walks of this seat use: a slice that reads as a list, a row of the call's own, which blocks a call may change. No program is named here.
-/
import Derived.WalkKit
import Derived.WalkLawsBesides
import Derived.WalkSpells
import Derived.Deep.QuietTactic
import Derived.BigQuiet
import Derived.Lib.Hide
import Derived.Deep.AppendLies
import Derived.Maps.AppendAt
import Derived.Laws.CopyOwn
import Derived.StillTailTactics
import Derived.Deep.RegionHeld3
namespace Go.Proofs.Ytfihbcpainlpcaa
open Go.RowKit
set_option linter.unusedVariables false
set_option linter.unusedSimpArgs false

/-! ### Lists of numbers by their index -/
def ix (xs : List Int) (k : Nat) : Int := xs.getD k 0
theorem ix_eq {xs : List Int} {k : Nat} (h : k < xs.length) : ix xs k = xs[k] := by simp [ix, h]
theorem ix_get? {xs : List Int} {k : Nat} (h : k < xs.length) : xs[k]? = some (ix xs k) := by simp [ix, h]
theorem ix_out {xs : List Int} {k : Nat} (h : xs.length ≤ k) : ix xs k = 0 := by simp [ix, List.getElem?_eq_none h]
theorem ix_ext (xs ys : List Int) (hl : xs.length = ys.length) (h : ∀ k, k < xs.length → ix xs k = ix ys k) : xs = ys := by
  apply List.ext_getElem hl
  intro i h1 h2
  have := h i h1
  rwa [ix_eq h1, ix_eq h2] at this
theorem ix_mem {xs : List Int} {k : Nat} (h : k < xs.length) : ix xs k ∈ xs := by rw [ix_eq h]; exact List.getElem_mem h
theorem mem_ix {xs : List Int} {x : Int} (h : x ∈ xs) : ∃ k, k < xs.length ∧ x = ix xs k := by
  obtain ⟨k, hk, e⟩ := List.getElem_of_mem h
  exact ⟨k, hk, by rw [ix_eq hk, e]⟩
theorem ix_map_range (f : Nat → Int) (n k : Nat) (h : k < n) : ix ((List.range n).map f) k = f k := by
  rw [ix_eq (by simpa using h)]; simp
theorem ix_set (xs : List Int) (k j : Nat) (x : Int) (hk : k < xs.length) : ix (xs.set k x) j = if j = k then x else ix xs j := by
  by_cases hj : j < xs.length
  · rw [ix_eq (by simpa using hj), List.getElem_set, ix_eq hj]
    by_cases e : k = j
    · subst e; simp
    · rw [if_neg e, if_neg (by omega)]
  · rw [ix_out (by simpa using hj), if_neg (by omega), ix_out (by omega)]
theorem ix_append_left {xs ys : List Int} {k : Nat} (h : k < xs.length) : ix (xs ++ ys) k = ix xs k := by
  rw [ix_eq (by simp; omega), ix_eq h, List.getElem_append_left h]
theorem ix_append_right {xs ys : List Int} {k : Nat} (h : xs.length ≤ k) : ix (xs ++ ys) k = ix ys (k - xs.length) := by
  by_cases hk : k < (xs ++ ys).length
  · rw [ix_eq hk, List.getElem_append_right h, ix_eq]
  · rw [ix_out (by omega), ix_out (by simp at hk; omega)]
theorem ix_take {xs : List Int} {n k : Nat} (h : k < n) : ix (xs.take n) k = ix xs k := by simp [ix, h]
theorem ix_drop {xs : List Int} {n k : Nat} : ix (xs.drop n) k = ix xs (n + k) := by simp [ix]
theorem take_succ_ix {xs : List Int} {k : Nat} (h : k < xs.length) : xs.take (k + 1) = xs.take k ++ [ix xs k] := by
  rw [List.take_succ_eq_append_getElem h, ix_eq h]
theorem range_map_ix (xs : List Int) : (List.range xs.length).map (ix xs) = xs :=
  ix_ext _ _ (by simp) fun k hk => ix_map_range _ _ _ (by simpa using hk)

def eqI (xs ys : List Int) : Bool := decide (xs = ys)
theorem eqI_true {xs ys : List Int} (h : xs = ys) : eqI xs ys = true := decide_eq_true h
theorem eqI_false {xs ys : List Int} (h : xs ≠ ys) : eqI xs ys = false := decide_eq_false h
theorem eqI_refl (xs : List Int) : eqI xs xs = true := eqI_true rfl

theorem ret_bool {a b : Bool} (h : a = b) : Ending.returned (.bool a) = .returned (.bool b) := by rw [h]
theorem ret_int {k : IntKind} {a b : Int} (h : a = b) : Ending.returned (.int k a) = .returned (.int k b) := by rw [h]

/-! ### A slice that reads as a list -/
/-- A slice value '.slice A n c' whose elements' cells are vs: they lie below block B. -/
def Rd (w : World) (B : Nat) (A : Option Addr) (vs : List Value) : Prop :=
  0 < vs.length → ∃ b off, A = some ⟨b, off, none⟩ ∧ b < B ∧ ∀ i u, vs[i]? = some u → w.cell? ⟨b, off + i, none⟩ = some u
def Ints (k : IntKind) (w : World) (B : Nat) (A : Option Addr) (xs : List Int) : Prop := Rd w B A (xs.map (Value.int k))

theorem get?_ints {k : IntKind} {xs : List Int} {i : Nat} (h : i < xs.length) : (xs.map (Value.int k))[i]? = some (.int k (ix xs i)) := by
  simp [ix, h]

section
variable {w w' : World} {B B' : Nat} {A : Option Addr} {vs : List Value} {k : IntKind} {xs : List Int}
theorem Rd.nil : Rd w B A [] := fun h => absurd h (by simp)
theorem Rd.block_keep (h : Rd w B A vs) (hk : ∀ g, g < B → w'.heap[g]? = w.heap[g]?) : Rd w' B A vs := fun hn => by
  obtain ⟨b, off, e, hb, hc⟩ := h hn
  exact ⟨b, off, e, hb, fun i u hu => (World.cell?_of_block (hk b hb)).trans (hc i u hu)⟩
theorem Rd.below (h : Rd w B A vs) (hb : Below B w w') : Rd w' B A vs := h.block_keep hb.block
theorem Rd.more (h : Rd w B A vs) (hB : B ≤ B') : Rd w B' A vs := fun hn => by
  obtain ⟨b, off, e, hb, hc⟩ := h hn
  exact ⟨b, off, e, by omega, hc⟩
theorem Ints.nil : Ints k w B A [] := Rd.nil
theorem Ints.below (h : Ints k w B A xs) (hb : Below B w w') : Ints k w' B A xs := Rd.below h hb
theorem Ints.more (h : Ints k w B A xs) (hB : B ≤ B') : Ints k w B' A xs := Rd.more h hB
theorem Ints.drewN (h : Ints k w B A xs) (n : Nat) : Ints k (w.drewN n) B A xs := h
theorem Ints.at_ (h : Ints k w B A xs) {i : Nat} (hi : i < xs.length) : ∃ b off, A = some ⟨b, off, none⟩ ∧ w.cell? ⟨b, off + i, none⟩ = some (.int k (ix xs i)) := by
  obtain ⟨b, off, e, _, hc⟩ := h (by simp; omega)
  exact ⟨b, off, e, hc i _ (get?_ints hi)⟩
theorem Ints.lt (h : Ints k w B A xs) (hi : 0 < xs.length) : ∃ b off, A = some ⟨b, off, none⟩ ∧ b < B ∧ ∀ i, i < xs.length → w.cell? ⟨b, off + i, none⟩ = some (.int k (ix xs i)) := by
  obtain ⟨b, off, e, hb, hc⟩ := h (by simpa using hi)
  exact ⟨b, off, e, hb, fun i hi => hc i _ (get?_ints hi)⟩
end

theorem rd_one {w : World} {g : Nat} {u : Value} (h : w.cell? ⟨g, 0, none⟩ = some u) : Rd w (g + 1) (some ⟨g, 0, none⟩) [u] := fun _ => by
  refine ⟨g, 0, rfl, by omega, fun i v hv => ?_⟩
  cases i with
  | zero => simp at hv; subst hv; exact h
  | succ i => simp at hv
theorem rd_new1 (w : World) (u : Value) (t : TypeId) : Rd (w.alloc (.cells #[u] t)) (w.heap.size + 1) (some ⟨w.heap.size, 0, none⟩) [u] := rd_one (by simp [World.cell?_alloc_new])
theorem rd_new1d (w : World) (u : Value) (t : TypeId) : Rd (w.alloc (.cells #[u] t)).drew (w.heap.size + 1) (some ⟨w.heap.size, 0, none⟩) [u] := rd_one (by simp [World.cell?_alloc_new])

/-! ### Rows of the call's own -/
section
variable {w w' : World} {B : Nat} {e : TypeId} {size n c : Nat} {A : Option Addr} {v : Value} {vs : List Value}
theorem own_form (h : w.ownsRow B e size v n vs) : ∃ A c, v = .slice A n c := by
  rcases h.2 with ⟨rfl, rfl⟩ | ⟨g, cap, cur, rfl, _⟩
  · exact ⟨none, 0, rfl⟩
  · exact ⟨_, cap, rfl⟩
theorem own_rd (h : w.ownsRow B e size (.slice A n c) n vs) : Rd w w.heap.size A vs := fun hn => by
  rcases h.2 with ⟨_, rfl⟩ | ⟨g, cap, cur, hv, _, hg, hnc, hcm, hcs, ht⟩
  · have := h.1; simp at this; simp [this] at hn
  · injection hv with hv
    subst hv
    refine ⟨g, 0, rfl, (Array.getElem?_eq_some_iff.1 hg).1, fun i u hu => ?_⟩
    rw [Nat.zero_add]
    have hi : i < n * size := by have := (List.getElem?_eq_some_iff.1 hu).1; rw [h.1] at this; exact this
    rw [cell_of_row w g i cur e (0, 0) hg]
    rw [← ht, List.getElem?_take, if_pos hi] at hu
    simpa using hu
theorem own_addr (h : w.ownsRow B e size (.slice A n c) n vs) (hn : 0 < n) : ∃ g, A = some ⟨g, 0, none⟩ ∧ B ≤ g ∧ g < w.heap.size := by
  rcases h.2 with ⟨_, rfl⟩ | ⟨g, cap, cur, hv, hB, hg, _⟩
  · omega
  · injection hv with hv
    exact ⟨g, hv, hB, (Array.getElem?_eq_some_iff.1 hg).1⟩
theorem own_cut {m : Nat} (h : w.ownsRow B e 1 (.slice A n c) n vs) (hm : m ≤ n) : w.ownsRow B e 1 (.slice A m c) m (vs.take m) := by
  have hl := h.1
  refine ⟨by rw [List.length_take, hl]; omega, ?_⟩
  rcases h.2 with ⟨hv, rfl⟩ | ⟨g, cap, cur, hv, hB, hg, hnc, hcm, hcs, ht⟩
  · injection hv with h1 h2 h3
    subst h1; subst h3
    obtain rfl : m = 0 := by omega
    exact .inl ⟨rfl, rfl⟩
  · injection hv with h1 h2 h3
    subst h1; subst h3
    refine .inr ⟨g, c, cur, rfl, hB, hg, by omega, hcm, hcs, ?_⟩
    rw [← ht, List.take_take]
    congr 1; omega
theorem own_cap (h : w.ownsRow B e size (.slice A n c) n vs) : n ≤ c ∧ c ≤ maxLen := by
  rcases h.2 with ⟨hv, rfl⟩ | ⟨g, cap, cur, hv, hB, hg, hnc, hcm, hcs, ht⟩
  · injection hv with h1 h2 h3; subst h3; exact ⟨Nat.le_refl _, Nat.zero_le _⟩
  · injection hv with h1 h2 h3; subst h3; exact ⟨hnc, hcm⟩
theorem own_cell {k : IntKind} {xs : List Int} {g : Nat} (h : w.ownsRow B e 1 (.slice (some ⟨g, 0, none⟩) n c) n (xs.map (Value.int k))) {i : Nat} (hi : i < n) : w.cell? ⟨g, i, none⟩ = some (.int k (ix xs i)) := by
  have hl : xs.length = n := by have := h.1; simpa using this
  rw [World.ownsRow.cellAt h i (by omega), get?_ints (by omega)]
theorem own_set {k : IntKind} {xs : List Int} {g : Nat} (h : w.ownsRow B e 1 (.slice (some ⟨g, 0, none⟩) n c) n (xs.map (Value.int k))) (i : Nat) (x : Int) :
    (w.setCell ⟨g, i, none⟩ (.int k x)).ownsRow B e 1 (.slice (some ⟨g, 0, none⟩) n c) n ((xs.set i x).map (Value.int k)) := by
  rw [List.map_set]; exact (World.ownsRow.stored h i (.int k x)).1
theorem own_ints {k : IntKind} {xs : List Int} (h : w.ownsRow B e 1 (.slice A n c) n (xs.map (Value.int k))) : Ints k w w.heap.size A xs := own_rd h
theorem own_len {k : IntKind} {xs : List Int} (h : w.ownsRow B e 1 v n (xs.map (Value.int k))) : xs.length = n := by have := h.1; simpa using this
theorem own_of_block (h : w.ownsRow B e size v n vs) (hb : ∀ g, v.ownBlock = some g → w'.heap[g]? = w.heap[g]?) : w'.ownsRow B e size v n vs := by
  refine ⟨h.1, ?_⟩
  rcases h.2 with h' | ⟨g, cap, cur, rfl, h2, hg, r⟩
  · exact .inl h'
  · exact .inr ⟨g, cap, cur, rfl, h2, by rw [hb g (by simp [Value.ownBlock])]; exact hg, r⟩
theorem own_base {B' : Nat} (h : w.ownsRow B e size v n vs) (hB : B' ≤ B) : w.ownsRow B' e size v n vs := by
  refine ⟨h.1, ?_⟩
  rcases h.2 with h' | ⟨g, cap, cur, rfl, h2, r⟩
  · exact .inl h'
  · exact .inr ⟨g, cap, cur, rfl, Nat.le_trans hB h2, r⟩
theorem own_below {B1 : Nat} (h : w.ownsRow B e size v n vs) (hb : Below B1 w w') (hB : w.heap.size ≤ B1) : w'.ownsRow B e size v n vs :=
  own_of_block h fun g hg => hb.block g (Nat.lt_of_lt_of_le (h.lt g hg).2 hB)
theorem own_drewN (h : w.ownsRow B e size v n vs) (m : Nat) : (w.drewN m).ownsRow B e size v n vs := h
end

/-- append(s, x...) onto a row of the call's own, x a slice that reads as news (nil and empty let in). -/
theorem run_app {P : Program} (w : World) (B : Nat) (t ty e : TypeId) (i : TypeInfo) (z : Value) (size bytes : Nat) (ht : P.underlying t = some (.slice e)) (hi : P.info? e = some i) (hz : i.zero = some z)
    (hsize : i.size = size) (hby : i.bytes = bytes) (hzs : z.cells.size = size) (hsz : 0 < size)
    (v : Value) (n : Nat) (xs : List Value) (hown : w.ownsRow B e size v n xs) (B1 : Nat) (A : Option Addr) (m c : Nat) (news : List Value) (hl : news.length = m * size) (hr : Rd w B1 A news)
    (h1 : ∀ u ∈ news, u.oneCell' = true) (h63 : n + m ≤ maxLen) (hbytes : (n + m) * bytes ≤ 140737488355328) (hbase : B ≤ w.heap.size) :
    ∃ A' c' w', (Builtin.append_ #[t, t] ty #[v, .slice A m c]).run P w = .ok (.slice A' (n + m) c') w' ∧ w'.ownsRow B e size (.slice A' (n + m) c') (n + m) (xs ++ news) ∧ w.grownBy w' v.ownBlock ∧
      ((Value.slice A' (n + m) c').ownBlock = v.ownBlock ∨ (Value.slice A' (n + m) c').ownBlock = some w.heap.size) := by
  have key : ∃ v' w', (Builtin.append_ #[t, t] ty #[v, .slice A m c]).run P w = .ok v' w' ∧ w'.ownsRow B e size v' (n + m) (xs ++ news) ∧ w.grownBy w' v.ownBlock ∧ (v'.ownBlock = v.ownBlock ∨ v'.ownBlock = some w.heap.size) := by
    cases A with
    | none =>
      have hn : news = [] := by
        cases news with
        | nil => rfl
        | cons a l => obtain ⟨b, off, h, _⟩ := hr (by simp); cases h
      subst hn
      have hm : m = 0 := by
        rcases Nat.mul_eq_zero.1 (hl.symm : m * size = 0) with h | h
        · exact h
        · omega
      subst hm
      refine ⟨v, w, ?_, by simpa using hown, World.grownBy.refl w _, .inl rfl⟩
      rcases hown.2 with ⟨rfl, rfl⟩ | ⟨g, cap, cur, rfl, _, _, hnc, _⟩
      · simp [Builtin.append_, run_underlying ht, sizeOf, typeInfo, hi, Builtin.lenOf, Builtin.firstCells]
      · simp [Builtin.append_, run_underlying ht, sizeOf, typeInfo, hi, Builtin.lenOf, Builtin.firstCells, hnc, storeCells]
    | some ad =>
      have hcells : ∀ j u, news[j]? = some u → w.cell? (ad.add j) = some u := by
        intro j u hu
        have hj : 0 < news.length := by have := (List.getElem?_eq_some_iff.1 hu).1; omega
        obtain ⟨b, off, h, _, hc⟩ := hr hj
        injection h with h
        subst h
        have := hc j u hu
        simp only [Addr.add]
        split
        · rename_i h0; subst h0; simpa using this
        · exact this
      obtain ⟨v', w', hrun, h2, h3, _, h5⟩ := run_append_own_at (P := P) w B t ty e i z size bytes ht hi hz hsize hby hzs hsz v n xs hown ad m c news hl hcells h1 h63 hbytes hbase
      exact ⟨v', w', hrun, h2, h3, h5⟩
  obtain ⟨v', w', hrun, h2, h3, h4⟩ := key
  obtain ⟨A', c', rfl⟩ := own_form h2
  exact ⟨A', c', w', hrun, h2, h3, h4⟩

theorem wp_app {P : Program} (w : World) {o : Oper} {a : Act} {K : Act → World → Prop} {Q : Exit → Act → World → Prop} (s x : Operand) (t : TypeId)
    (ho : o.op = .call { callee := .builtin .append, args := #[s, x], argTypes := #[t, t] })
    (B : Nat) (e : TypeId) (i : TypeInfo) (z : Value) (size bytes : Nat) (ht : P.underlying t = some (.slice e)) (hi : P.info? e = some i) (hz : i.zero = some z)
    (hsize : i.size = size) (hby : i.bytes = bytes) (hzs : z.cells.size = size) (hsz : 0 < size)
    (v : Value) (n : Nat) (xs : List Value) (hs : a.eval s = v) (hown : w.ownsRow B e size v n xs) (B1 : Nat) (A : Option Addr) (m c : Nat) (news : List Value) (hx : a.eval x = .slice A m c) (hl : news.length = m * size) (hr : Rd w B1 A news)
    (h1 : ∀ u ∈ news, u.oneCell' = true) (h63 : n + m ≤ maxLen) (hbytes : (n + m) * bytes ≤ 140737488355328) (hbase : B ≤ w.heap.size)
    (h : ∀ A' c' w', w'.ownsRow B e size (.slice A' (n + m) c') (n + m) (xs ++ news) → w.grownBy w' v.ownBlock → ((Value.slice A' (n + m) c').ownBlock = v.ownBlock ∨ (Value.slice A' (n + m) c').ownBlock = some w.heap.size) → K (a.put o.dst (.slice A' (n + m) c')) w') : o.wp P a w K Q := by
  obtain ⟨A', c', w', hrun, h2, h3, h4⟩ := run_app (P := P) w B t o.type e i z size bytes ht hi hz hsize hby hzs hsz v n xs hown B1 A m c news hl hr h1 h63 hbytes hbase
  unfold Oper.wp execOp
  simp only [ho, resolve, invoke, builtin, Sem.run_bind, Sem.run_pure, Result.andThen_ok, List.map_toArray, List.map_cons, List.map_nil, hs, hx, hrun]
  exact h A' c' w' h2 h3 h4

theorem wpList_app {P : Program} (w : World) {ops : Array Oper} {rest : List Oper} {o : Oper} {a : Act} {Q : Exit → Act → World → Prop} (hgd : o.guard = none) (s x : Operand) (t : TypeId)
    (ho : o.op = .call { callee := .builtin .append, args := #[s, x], argTypes := #[t, t] })
    (B : Nat) (e : TypeId) (i : TypeInfo) (z : Value) (size bytes : Nat) (ht : P.underlying t = some (.slice e)) (hi : P.info? e = some i) (hz : i.zero = some z)
    (hsize : i.size = size) (hby : i.bytes = bytes) (hzs : z.cells.size = size) (hsz : 0 < size)
    (v : Value) (n : Nat) (xs : List Value) (hs : a.eval s = v) (hown : w.ownsRow B e size v n xs) (B1 : Nat) (A : Option Addr) (m c : Nat) (news : List Value) (hx : a.eval x = .slice A m c) (hl : news.length = m * size) (hr : Rd w B1 A news)
    (h1 : ∀ u ∈ news, u.oneCell' = true) (h63 : n + m ≤ maxLen) (hbytes : (n + m) * bytes ≤ 140737488355328) (hbase : B ≤ w.heap.size)
    (h : ∀ A' c' w', w'.ownsRow B e size (.slice A' (n + m) c') (n + m) (xs ++ news) → w.grownBy w' v.ownBlock → ((Value.slice A' (n + m) c').ownBlock = v.ownBlock ∨ (Value.slice A' (n + m) c').ownBlock = some w.heap.size) → wpList P ops Q rest (a.put o.dst (.slice A' (n + m) c')) w') : wpList P ops Q (o :: rest) a w :=
  wpList_plain hgd fun _ hK => wp_app w s x t ho B e i z size bytes ht hi hz hsize hby hzs hsz v n xs hs hown B1 A m c news hx hl hr h1 h63 hbytes hbase fun A' c' w' h2 h3 h4 => hK _ _ (h A' c' w' h2 h3 h4)

theorem step_app {P : Program} (w : World) {ops : Array Oper} {o : Oper} {a : Act} {K : Act → World → Prop} {Q : Exit → Act → World → Prop} {E : Prop} (hgd : o.guard = none) (s x : Operand) (t : TypeId)
    (ho : o.op = .call { callee := .builtin .append, args := #[s, x], argTypes := #[t, t] })
    (B : Nat) (e : TypeId) (i : TypeInfo) (z : Value) (size bytes : Nat) (ht : P.underlying t = some (.slice e)) (hi : P.info? e = some i) (hz : i.zero = some z)
    (hsize : i.size = size) (hby : i.bytes = bytes) (hzs : z.cells.size = size) (hsz : 0 < size)
    (v : Value) (n : Nat) (xs : List Value) (hs : a.eval s = v) (hown : w.ownsRow B e size v n xs) (B1 : Nat) (A : Option Addr) (m c : Nat) (news : List Value) (hx : a.eval x = .slice A m c) (hl : news.length = m * size) (hr : Rd w B1 A news)
    (h1 : ∀ u ∈ news, u.oneCell' = true) (h63 : n + m ≤ maxLen) (hbytes : (n + m) * bytes ≤ 140737488355328) (hbase : B ≤ w.heap.size)
    (h : ∀ A' c' w', w'.ownsRow B e size (.slice A' (n + m) c') (n + m) (xs ++ news) → w.grownBy w' v.ownBlock → ((Value.slice A' (n + m) c').ownBlock = v.ownBlock ∨ (Value.slice A' (n + m) c').ownBlock = some w.heap.size) → K (a.put o.dst (.slice A' (n + m) c')) w') :
    if Region.wanted o (yielded ops a.tmps) = true then Oper.wp P o a w K Q else E := by
  have hw : Region.wanted o (yielded ops a.tmps) = true := by simp [Region.wanted, hgd]
  rw [if_pos hw]
  exact wp_app w s x t ho B e i z size bytes ht hi hz hsize hby hzs hsz v n xs hs hown B1 A m c news hx hl hr h1 h63 hbytes hbase h

theorem oneCell_ints (k : IntKind) (xs : List Int) : ∀ u ∈ xs.map (Value.int k), u.oneCell' = true := by
  intro u hu
  obtain ⟨x, _, rfl⟩ := List.mem_map.1 hu
  rfl

/-- Below B behind an append to a row of the call's own (from B on). -/
theorem below_app {w0 w w' : World} {B : Nat} {e : TypeId} {size n : Nat} {v : Value} {xs : List Value} (h : Below B w0 w) (hown : w.ownsRow B e size v n xs) (hg : w.grownBy w' v.ownBlock) (hB : B ≤ w.heap.size) : Below B w0 w' :=
  h.grown hg hB fun k hk => (hown.lt k hk).1

/-! ### copy into a row that is known whole -/
theorem run_cpy {P : Program} (w : World) (dT sT ty elem : TypeId) (hu : P.underlying dT = some (.slice elem)) (hsz : (P.info? elem).map (·.size) = some 1)
    (dp sp : Option Addr) (dLen dCap sLen sCap : Nat) (g off : Nat) (cur : List Value) (t : TypeId) (hg : w.heap[g]? = some (.cells cur.toArray t (0, 0))) (cs : List Value) (hn : cs.length = Nat.min sLen dLen)
    (hpos : 0 < cs.length → dp = some ⟨g, off, none⟩ ∧ ∃ ad, sp = some ad ∧ ∀ j v, cs[j]? = some v → w.cell? (ad.add j) = some v)
    (hfit : off + cs.length ≤ cur.length) (h1 : ∀ v ∈ cs, v.oneCell' = true) :
    ∃ w', (Builtin.copy_ #[dT, sT] ty #[.slice dp dLen dCap, .slice sp sLen sCap]).run P w = .ok (goInt cs.length) w' ∧ w'.heap[g]? = some (.cells (splice cur off cs).toArray t (0, 0)) ∧ w.grownBy w' (some g) := by
  by_cases h0 : cs.length = 0
  · obtain rfl : cs = [] := List.eq_nil_of_length_eq_zero h0
    refine ⟨w, run_copy_none (P := P) w dT sT ty elem dp sp dLen dCap sLen sCap hu hsz (by simpa using hn.symm), by simpa [splice] using hg, World.grownBy.refl w _⟩
  · obtain ⟨rfl, ad, rfl, hsrc⟩ := hpos (by omega)
    refine ⟨_, run_copy_row (P := P) w dT sT ty elem g off dLen dCap ad sLen sCap cur.toArray t cs hu hsz hg hn hsrc (by simpa using hfit) h1, ?_, ?_⟩
    · simpa [splice] using setRow_heap w g _ _ t _ hg
    · exact ⟨rfl, rfl, rfl, by simp [World.setRow], fun k _ hk => setRow_other w g k _ (fun e => hk (by rw [e]))⟩

theorem wp_cpy {P : Program} {w : World} {o : Oper} {a : Act} {K : Act → World → Prop} {Q : Exit → Act → World → Prop} (d s : Operand) (dT sT : TypeId)
    (ho : o.op = .call { callee := .builtin .copy, args := #[d, s], argTypes := #[dT, sT] }) (elem : TypeId) (hu : P.underlying dT = some (.slice elem)) (hsz : (P.info? elem).map (·.size) = some 1)
    (dp sp : Option Addr) (dLen dCap sLen sCap : Nat) (hd : a.eval d = .slice dp dLen dCap) (hs : a.eval s = .slice sp sLen sCap)
    (g off : Nat) (cur : List Value) (t : TypeId) (hg : w.heap[g]? = some (.cells cur.toArray t (0, 0))) (cs : List Value) (hn : cs.length = Nat.min sLen dLen)
    (hpos : 0 < cs.length → dp = some ⟨g, off, none⟩ ∧ ∃ ad, sp = some ad ∧ ∀ j v, cs[j]? = some v → w.cell? (ad.add j) = some v)
    (hfit : off + cs.length ≤ cur.length) (h1 : ∀ v ∈ cs, v.oneCell' = true)
    (h : ∀ w', Hid (w'.heap[g]? = some (.cells (splice cur off cs).toArray t (0, 0))) → w.grownBy w' (some g) → K (a.put o.dst (goInt cs.length)) w') : o.wp P a w K Q := by
  obtain ⟨w', hrun, h2, h3⟩ := run_cpy (P := P) w dT sT o.type elem hu hsz dp sp dLen dCap sLen sCap g off cur t hg cs hn hpos hfit h1
  unfold Oper.wp execOp
  simp only [ho, resolve, invoke, builtin, Sem.run_bind, Sem.run_pure, Result.andThen_ok, List.map_toArray, List.map_cons, List.map_nil, hd, hs, hrun]
  exact h w' h2 h3

theorem step_cpy {P : Program} {ops : Array Oper} {w : World} {o : Oper} {a : Act} {K : Act → World → Prop} {Q : Exit → Act → World → Prop} {E : Prop} (hgd : o.guard = none) (d s : Operand) (dT sT : TypeId)
    (ho : o.op = .call { callee := .builtin .copy, args := #[d, s], argTypes := #[dT, sT] }) (elem : TypeId) (hu : P.underlying dT = some (.slice elem)) (hsz : (P.info? elem).map (·.size) = some 1)
    (dp sp : Option Addr) (dLen dCap sLen sCap : Nat) (hd : a.eval d = .slice dp dLen dCap) (hs : a.eval s = .slice sp sLen sCap)
    (g off : Nat) (cur : List Value) (t : TypeId) (hg : w.heap[g]? = some (.cells cur.toArray t (0, 0))) (cs : List Value) (hn : cs.length = Nat.min sLen dLen)
    (hpos : 0 < cs.length → dp = some ⟨g, off, none⟩ ∧ ∃ ad, sp = some ad ∧ ∀ j v, cs[j]? = some v → w.cell? (ad.add j) = some v)
    (hfit : off + cs.length ≤ cur.length) (h1 : ∀ v ∈ cs, v.oneCell' = true)
    (h : ∀ w', Hid (w'.heap[g]? = some (.cells (splice cur off cs).toArray t (0, 0))) → w.grownBy w' (some g) → K (a.put o.dst (goInt cs.length)) w') :
    if Region.wanted o (yielded ops a.tmps) = true then Oper.wp P o a w K Q else E := by
  have hw : Region.wanted o (yielded ops a.tmps) = true := by simp [Region.wanted, hgd]
  rw [if_pos hw]
  exact wp_cpy d s dT sT ho elem hu hsz dp sp dLen dCap sLen sCap hd hs g off cur t hg cs hn hpos hfit h1 h

theorem wpList_cpy {P : Program} {ops : Array Oper} {rest : List Oper} {w : World} {o : Oper} {a : Act} {Q : Exit → Act → World → Prop} (hgd : o.guard = none) (d s : Operand) (dT sT : TypeId)
    (ho : o.op = .call { callee := .builtin .copy, args := #[d, s], argTypes := #[dT, sT] }) (elem : TypeId) (hu : P.underlying dT = some (.slice elem)) (hsz : (P.info? elem).map (·.size) = some 1)
    (dp sp : Option Addr) (dLen dCap sLen sCap : Nat) (hd : a.eval d = .slice dp dLen dCap) (hs : a.eval s = .slice sp sLen sCap)
    (g off : Nat) (cur : List Value) (t : TypeId) (hg : w.heap[g]? = some (.cells cur.toArray t (0, 0))) (cs : List Value) (hn : cs.length = Nat.min sLen dLen)
    (hpos : 0 < cs.length → dp = some ⟨g, off, none⟩ ∧ ∃ ad, sp = some ad ∧ ∀ j v, cs[j]? = some v → w.cell? (ad.add j) = some v)
    (hfit : off + cs.length ≤ cur.length) (h1 : ∀ v ∈ cs, v.oneCell' = true)
    (h : ∀ w', Hid (w'.heap[g]? = some (.cells (splice cur off cs).toArray t (0, 0))) → w.grownBy w' (some g) → wpList P ops Q rest (a.put o.dst (goInt cs.length)) w') : wpList P ops Q (o :: rest) a w :=
  wpList_plain hgd fun _ hK => wp_cpy d s dT sT ho elem hu hsz dp sp dLen dCap sLen sCap hd hs g off cur t hg cs hn hpos hfit h1 fun w' h2 h3 => hK _ _ (h w' h2 h3)

/-- A row of the call's own, opened: the whole block. -/
theorem own_open {w : World} {B : Nat} {e : TypeId} {g c n : Nat} {vs : List Value} (h : w.ownsRow B e 1 (.slice (some ⟨g, 0, none⟩) n c) n vs) :
    ∃ cur : List Value, w.heap[g]? = some (.cells cur.toArray e (0, 0)) ∧ cur.length = c ∧ n ≤ c ∧ c ≤ maxLen ∧ cur.take n = vs ∧ vs.length = n ∧ B ≤ g := by
  have hl := h.1
  rcases h.2 with ⟨h', _⟩ | ⟨g', cap, cur, hv, hB, hg, hnc, hcm, hcs, ht⟩
  · simp at h'
  · simp only [Value.slice.injEq, Option.some.injEq, Addr.mk.injEq, and_true, true_and] at hv
    obtain ⟨rfl, rfl⟩ := hv
    exact ⟨cur.toList, hg, by simpa using hcs, hnc, hcm, by simpa using ht, by simpa using hl, hB⟩
theorem own_shut {w : World} {B : Nat} {e : TypeId} {g c n : Nat} {vs cur : List Value} (hg : w.heap[g]? = some (.cells cur.toArray e (0, 0))) (hc : cur.length = c) (hn : n ≤ c) (hm : c ≤ maxLen) (ht : cur.take n = vs) (hB : B ≤ g) :
    w.ownsRow B e 1 (.slice (some ⟨g, 0, none⟩) n c) n vs := by
  subst ht
  exact ⟨by simp; omega, .inr ⟨g, c, cur.toArray, rfl, hB, hg, hn, hm, by simpa using hc, by simp⟩⟩

theorem later {w w' : World} (hb : Below w.heap.size w w') {a : Addr} {v : Value} (h : w.cell? a = some v) : w'.cell? a = some v :=
  (hb.cell (block_lt_of_cell h)).trans h

theorem rd_lit (w : World) (vs : List Value) (arr : Array Value) (t : TypeId) (h : arr.toList = vs) : Rd (w.alloc (.cells arr t)) (w.heap.size + 1) (some ⟨w.heap.size, 0, none⟩) vs := fun _ => by
  refine ⟨w.heap.size, 0, rfl, by omega, fun i v hv => ?_⟩
  rw [Nat.zero_add, cell_of_row _ w.heap.size i arr t (0, 0) (heap_alloc_new w _)]
  subst h
  simpa using hv
theorem ints_lit (w : World) (k : IntKind) (xs : List Int) (arr : Array Value) (t : TypeId) (h : arr.toList = xs.map (.int k)) : Ints k (w.alloc (.cells arr t)) (w.heap.size + 1) (some ⟨w.heap.size, 0, none⟩) xs := rd_lit w _ arr t h
theorem bth {w w1 w2 : World} (h : Below w.heap.size w w1) (h2 : Below w1.heap.size w1 w2) : Below w.heap.size w w2 := h.trans (h2.mono h.size)
theorem own_kp0 {w w' : World} {B : Nat} {e : TypeId} {size n : Nat} {v : Value} {vs : List Value} (h : w.ownsRow B e size v n vs) (hk : ∀ g, B ≤ g → g < w.heap.size → w'.heap[g]? = w.heap[g]?) : w'.ownsRow B e size v n vs :=
  own_of_block h fun g hg => hk g (h.lt g hg).1 (h.lt g hg).2
theorem own_empty (w : World) (e : TypeId) (size : Nat) : (w.alloc (.cells #[] e)).ownsRow w.heap.size e size (.slice (some ⟨w.heap.size, 0, none⟩) 0 0) 0 [] :=
  World.ownsRow_lit w #[] 0 (Nat.le_refl _) (Nat.zero_le _) (by simp)
theorem Ints.drew {k : IntKind} {w : World} {B : Nat} {A : Option Addr} {xs : List Int} (h : Ints k w B A xs) : Ints k w.drew B A xs := h
theorem Rd.drew {w : World} {B : Nat} {A : Option Addr} {vs : List Value} (h : Rd w B A vs) : Rd w.drew B A vs := h
theorem bal {w w' : World} (h : Below w.heap.size w w') (o : Obj) : Below w.heap.size w (w'.alloc o) := h.alloc h.size o
theorem brefl (w : World) : Below w.heap.size w w := Below.refl _ _

/-! ### Which blocks a call may change -/
/-- Between w and w' the old blocks outside S are as they were; the streams are as they were; no block has gone. -/
structure Kp (S : Nat → Prop) (w w' : World) : Prop where
  os : w'.os = w.os
  tape : w'.tape = w.tape
  output : w'.output = w.output
  size : w.heap.size ≤ w'.heap.size
  block : ∀ k, k < w.heap.size → ¬ S k → w'.heap[k]? = w.heap[k]?

section
variable {S : Nat → Prop} {w w' w'' : World}
theorem Kp.refl (S : Nat → Prop) (w : World) : Kp S w w := ⟨rfl, rfl, rfl, Nat.le_refl _, fun _ _ _ => rfl⟩
theorem Kp.trans (h : Kp S w w') (k : Kp S w' w'') : Kp S w w'' :=
  ⟨k.os.trans h.os, k.tape.trans h.tape, k.output.trans h.output, Nat.le_trans h.size k.size, fun i hi hS => (k.block i (Nat.lt_of_lt_of_le hi h.size) hS).trans (h.block i hi hS)⟩
theorem Kp.below (h : Kp S w w') {B : Nat} (hS : ∀ k, S k → B ≤ k) (hB : B ≤ w.heap.size) : Below B w w' :=
  ⟨h.os, h.tape, h.output, h.size, fun k hk => h.block k (by omega) (fun hs => by have := hS k hs; omega)⟩
theorem Kp.of_below (h : Below w.heap.size w w') : Kp S w w' := ⟨h.os, h.tape, h.output, h.size, fun k hk _ => h.block k hk⟩
theorem Kp.mono {S' : Nat → Prop} (h : Kp S w w') (hS : ∀ k, S k → S' k) : Kp S' w w' := ⟨h.os, h.tape, h.output, h.size, fun k hk hs => h.block k hk fun hs' => hs (hS k hs')⟩
theorem Kp.drewN (h : Kp S w w') (n : Nat) : Kp S w (w'.drewN n) := ⟨h.os, h.tape, h.output, h.size, h.block⟩
theorem Kp.drew (h : Kp S w w') : Kp S w w'.drew := ⟨h.os, h.tape, h.output, h.size, h.block⟩
theorem Kp.set_ (h : Kp S w w') {p : Addr} (hp : S p.block) (u : Value) : Kp S w (w'.setCell p u) :=
  h.trans ⟨rfl, rfl, rfl, by simp [World.setCell], fun k _ hk => Below.heap_setCell _ _ _ _ (fun e => hk (e ▸ hp))⟩
theorem Kp.grown (h : Kp S w w') {row : Option Nat} (hg : w'.grownBy w'' row) (hr : ∀ k, row = some k → S k) : Kp S w w'' :=
  h.trans ⟨hg.os, hg.tape, hg.output, hg.size, fun k hk hs => hg.block k hk (fun e => hs (hr k e.symm))⟩
theorem Kp.alloc (h : Kp S w w') (o : Obj) : Kp S w (w'.alloc o) :=
  h.trans ⟨rfl, rfl, rfl, by simp, fun k hk _ => Below.heap_alloc _ _ _ hk⟩
end
end Go.Proofs.Ytfihbcpainlpcaa
