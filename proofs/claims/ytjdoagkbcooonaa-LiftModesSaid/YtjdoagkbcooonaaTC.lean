/-
  Rows of rows of the call's own; copies of rows.
-/
import Derived.Test.YtjdoagkbcooonaaProg
import Derived.Test.YtjdoagkbcooonaaTB
namespace Go.Proofs.Ytjdoagkbcooonaa
open Go.RowKit

theorem OwnZ.nilz (w : World) (B : Nat) : OwnZ w B none 0 0 [] := OwnZ.nil w B
theorem OwnZ.other {w w' : World} {B : Nat} {A : Option Addr} {n c : Nat} {l : List Int} (h : OwnZ w B A n c l) (hk : ∀ q, (Value.slice A n c).ownBlock = some q → w'.heap[q]? = w.heap[q]?) : OwnZ w' B A n c l := own_of_block h hk
theorem OwnZ.lt {w : World} {B : Nat} {A : Option Addr} {n c : Nat} {l : List Int} (h : OwnZ w B A n c l) : ∀ q, (Value.slice A n c).ownBlock = some q → B ≤ q ∧ q < w.heap.size := fun q hq => World.ownsRow.lt h q hq
theorem OwnZ.len {w : World} {B : Nat} {A : Option Addr} {n c : Nat} {l : List Int} (h : OwnZ w B A n c l) : l.length = n := own_len h
theorem OwnZ.drewN {w : World} {B : Nat} {A : Option Addr} {n c : Nat} {l : List Int} (h : OwnZ w B A n c l) (m : Nat) : OwnZ (w.drewN m) B A n c l := own_drewN h m

theorem slice_info : (Try.prog.info? 33).map (fun i => (i.zero, i.size, i.bytes)) = some (some (.slice none 0 0), 1, 24) := by kernel_rfl
/-- append of a slice to a row of slices. -/
theorem app_s {ops : Array Oper} {rest : List Oper} {o : Oper} {a : Act} {Q : Exit → Act → World → Prop} (w : World) (hgd : o.guard = none) (s x : Operand)
    (ho : o.op = .call { callee := .builtin .append, args := #[s, x], argTypes := #[22, 22] }) (B : Nat) (A1 : Option Addr) (n c1 : Nat) (vs : List Value) (hs : a.eval s = .slice A1 n c1) (hown : w.ownsRow B 33 1 (.slice A1 n c1) n vs)
    (B1 : Nat) (A : Option Addr) (c : Nat) (v : Value) (hx : a.eval x = .slice A 1 c) (hr : Rd w B1 A [v]) (h1 : v.oneCell' = true) (hsz : n + 1 ≤ 100000) (hB : B ≤ w.heap.size)
    (h : ∀ A' c' w', w'.ownsRow B 33 1 (.slice A' (n + 1) c') (n + 1) (vs ++ [v]) → w.grownBy w' (Value.slice A1 n c1).ownBlock → ((Value.slice A' (n + 1) c').ownBlock = (Value.slice A1 n c1).ownBlock ∨ (Value.slice A' (n + 1) c').ownBlock = some w.heap.size) → wpList Try.prog ops Q rest (a.put o.dst (.slice A' (n + 1) c')) w') : wpList Try.prog ops Q (o :: rest) a w := by
  obtain ⟨i0, hi0, hz0, hz1, hz2⟩ := info_parts slice_info
  exact wpList_app w hgd s x 22 ho B 33 i0 _ 1 24 Try.underlying22 hi0 hz0 hz1 hz2 rfl (by omega) _ n vs hs hown B1 A 1 c [v] hx rfl hr (by intro u hu; simp at hu; subst hu; exact h1) (by simp only [maxLen]; omega) (by omega) hB h

/-- n rows of m numbers of the call's own: all blocks from B on, none twice. -/
structure OwnM (w : World) (B : Nat) (A : Option Addr) (n c m : Nat) (RA : Nat → Option Addr) (RC : Nat → Nat) (R : Nat → List Int) : Prop where
  outer : w.ownsRow B 33 1 (.slice A n c) n ((List.range n).map fun i => Value.slice (RA i) m (RC i))
  inner : ∀ i, i < n → OwnZ w B (RA i) m (RC i) (R i)
  sep : ∀ i j, i < n → j < n → i ≠ j → ∀ q, (Value.slice (RA i) m (RC i)).ownBlock = some q → (Value.slice (RA j) m (RC j)).ownBlock ≠ some q
  osep : ∀ i, i < n → ∀ q, (Value.slice A n c).ownBlock = some q → (Value.slice (RA i) m (RC i)).ownBlock ≠ some q
section
variable {w w' : World} {B n c m : Nat} {A : Option Addr} {RA : Nat → Option Addr} {RC : Nat → Nat} {R : Nat → List Int}
theorem OwnM.other (h : OwnM w B A n c m RA RC R) (hk : ∀ q, ((Value.slice A n c).ownBlock = some q ∨ ∃ i, i < n ∧ (Value.slice (RA i) m (RC i)).ownBlock = some q) → w'.heap[q]? = w.heap[q]?) : OwnM w' B A n c m RA RC R :=
  { h with
    outer := own_of_block h.outer fun q hq => hk q (.inl hq)
    inner := fun i hi => (h.inner i hi).other fun q hq => hk q (.inr ⟨i, hi, hq⟩) }
theorem OwnM.lt (h : OwnM w B A n c m RA RC R) : ∀ q, ((Value.slice A n c).ownBlock = some q ∨ ∃ i, i < n ∧ (Value.slice (RA i) m (RC i)).ownBlock = some q) → B ≤ q ∧ q < w.heap.size := fun q hq => by
  rcases hq with hq | ⟨i, hi, hq⟩
  · exact World.ownsRow.lt h.outer q hq
  · exact (h.inner i hi).lt q hq
theorem OwnM.below {B1 : Nat} (h : OwnM w B A n c m RA RC R) (hb : Below B1 w w') (hB : w.heap.size ≤ B1) : OwnM w' B A n c m RA RC R :=
  h.other fun q hq => hb.block q (Nat.lt_of_lt_of_le (h.lt q hq).2 hB)
theorem OwnM.drewN (h : OwnM w B A n c m RA RC R) (k : Nat) : OwnM (w.drewN k) B A n c m RA RC R := h.other fun _ _ => rfl
theorem OwnM.drew (h : OwnM w B A n c m RA RC R) : OwnM w.drew B A n c m RA RC R := h.other fun _ _ => rfl
theorem OwnM.base {B' : Nat} (h : OwnM w B A n c m RA RC R) (hB : B' ≤ B) : OwnM w B' A n c m RA RC R :=
  { h with outer := own_base h.outer hB, inner := fun i hi => (h.inner i hi).base hB }
theorem OwnM.addr (h : OwnM w B A n c m RA RC R) (hn : 0 < n) : ∃ g, A = some ⟨g, 0, none⟩ ∧ B ≤ g ∧ g < w.heap.size ∧ ∀ i, i < n → w.cell? ⟨g, i, none⟩ = some (.slice (RA i) m (RC i)) := by
  obtain ⟨g, rfl, h1, h2⟩ := own_addr h.outer hn
  refine ⟨g, rfl, h1, h2, fun i hi => ?_⟩
  rw [World.ownsRow.cellAt h.outer i (by omega)]
  simp [hi]
theorem OwnM.len (h : OwnM w B A n c m RA RC R) {i : Nat} (hi : i < n) : (R i).length = m := (h.inner i hi).len
theorem OwnM.rw (h : OwnM w B A n c m RA RC R) (hm : m ≤ 9223372036854775807) : Rw w w.heap.size A n RA RC R :=
  ⟨fun h0 => by
    obtain ⟨g, rfl, h1, h2, h3⟩ := h.addr h0
    exact ⟨g, 0, rfl, h2, fun i hi => by rw [Nat.zero_add, h3 i hi, h.len hi]⟩,
    fun i hi => OwnZ.ints (h.inner i hi), fun i hi => by rw [h.len hi]; exact hm, fun i hi => by rw [h.len hi]; exact (own_cap (h.inner i hi)).1⟩
theorem OwnM.cong {R' : Nat → List Int} (h : OwnM w B A n c m RA RC R) (he : ∀ i, i < n → R' i = R i) : OwnM w B A n c m RA RC R' :=
  { h with inner := fun i hi => by rw [he i hi]; exact h.inner i hi }
/-- a number written into row t. -/
theorem OwnM.set_ {t g : Nat} (h : OwnM w B A n c m RA RC R) (ht : t < n) (hg : RA t = some ⟨g, 0, none⟩) (i : Nat) (x : Int) : OwnM (w.setCell ⟨g, i, none⟩ (.int .i64 x)) B A n c m RA RC (fun j => if j = t then (R t).set i x else R j) := by
  have hob : (Value.slice (RA t) m (RC t)).ownBlock = some g := by rw [hg]; rfl
  refine { h with outer := own_of_block h.outer fun q hq => Below.heap_setCell _ _ _ _ (fun e => h.osep t ht q hq (by rw [e]; exact hob)), inner := fun j hj => ?_ }
  by_cases e : j = t
  · subst e
    rw [if_pos rfl]
    have hin := h.inner j hj
    unfold OwnZ at hin ⊢
    rw [hg] at hin ⊢
    exact own_set hin i x
  · rw [if_neg e]
    exact (h.inner j hj).other fun q hq => Below.heap_setCell _ _ _ _ (fun e' => h.sep j t hj ht e q hq (by rw [e']; exact hob))
end
theorem ownM_nil (w : World) (B m : Nat) (RA : Nat → Option Addr) (RC : Nat → Nat) (R : Nat → List Int) : OwnM w B none 0 0 m RA RC R :=
  ⟨World.ownsRow_nil _ _ _ _, fun i h => by omega, fun i j h => by omega, fun i h => by omega⟩

theorem OwnM.push {w w4 : World} {B n c m c4 : Nat} {A A4 : Option Addr} {RA : Nat → Option Addr} {RC : Nat → Nat} {R : Nat → List Int} {A' : Option Addr} {c' : Nat} {l : List Int} {Z : Nat}
    (h : OwnM w B A n c m RA RC R) (hz : ∀ q, ((Value.slice A n c).ownBlock = some q ∨ ∃ i, i < n ∧ (Value.slice (RA i) m (RC i)).ownBlock = some q) → q < Z) (hn : OwnZ w Z A' m c' l) (hBZ : B ≤ Z) (hl : l = R n)
    (ho : w4.ownsRow B 33 1 (.slice A4 (n + 1) c4) (n + 1) (((List.range n).map fun i => Value.slice (RA i) m (RC i)) ++ [.slice A' m c'])) (hg : w.grownBy w4 (Value.slice A n c).ownBlock)
    (hat : (Value.slice A4 (n + 1) c4).ownBlock = (Value.slice A n c).ownBlock ∨ (Value.slice A4 (n + 1) c4).ownBlock = some w.heap.size) :
    OwnM w4 B A4 (n + 1) c4 m (fun i => if i = n then A' else RA i) (fun i => if i = n then c' else RC i) R := by
  have hout : ∀ q, (Value.slice A' m c').ownBlock = some q → Z ≤ q ∧ q < w.heap.size := hn.lt
  refine ⟨?_, fun i hi => ?_, fun i j hi hj hij q hq => ?_, fun i hi q hq => ?_⟩
  · have e : ((List.range (n + 1)).map fun i => Value.slice (if i = n then A' else RA i) m (if i = n then c' else RC i)) = ((List.range n).map fun i => Value.slice (RA i) m (RC i)) ++ [.slice A' m c'] := by
      rw [List.range_succ, List.map_append]
      congr 1
      · apply List.map_congr_left
        intro i hi
        have : i ≠ n := by simp at hi; omega
        simp [this]
      · simp
    rw [e]; exact ho
  · by_cases e : i = n
    · subst e
      simp only [if_true]
      rw [← hl]
      exact (OwnZ.other hn fun q hq => hg.block q (hout q hq).2 (fun e' => by have := hz q (.inl e'.symm); have := (hout q hq).1; omega)).base hBZ
    · simp only [if_neg e]
      have hi' : i < n := by omega
      exact OwnZ.other (h.inner i hi') fun q hq => hg.block q ((h.inner i hi').lt q hq).2 (fun e' => h.osep i hi' q e'.symm hq)
  · by_cases ei : i = n
    · subst ei
      have ej : j ≠ i := fun e => hij e.symm
      simp only [if_true] at hq
      simp only [if_neg ej]
      intro e'
      have := hz q (.inr ⟨j, by omega, e'⟩)
      have := (hout q hq).1
      omega
    · simp only [if_neg ei] at hq
      by_cases ej : j = n
      · subst ej
        simp only [if_true]
        intro e'
        have := hz q (.inr ⟨i, by omega, hq⟩)
        have := (hout q e').1
        omega
      · simp only [if_neg ej]
        exact h.sep i j (by omega) (by omega) hij q hq
  · by_cases ei : i = n
    · subst ei
      simp only [if_true]
      intro e'
      have h1 := hout q e'
      rcases hat with h2 | h2
      · rw [h2] at hq; have := hz q (.inl hq); omega
      · rw [h2] at hq; simp at hq; omega
    · simp only [if_neg ei]
      intro e'
      have hi' : i < n := by omega
      rcases hat with h2 | h2
      · rw [h2] at hq; exact h.osep i hi' q hq e'
      · rw [h2] at hq; simp at hq; have := ((h.inner i hi').lt q e').2; omega

def SliceZ (xs : List Int) (w : World) (e : Ending) (w' : World) : Prop := ∃ A c, e = .returned (.slice A xs.length c) ∧ OwnZ w' w.heap.size A xs.length c xs ∧ Below w.heap.size w w'
theorem clone_any (xs : List Int) (n : Nat) (hn : n = xs.length) (hm : n ≤ 100000) (A : Option Addr) (c : Nat) (w : World) (ha : Ints .i64 w w.heap.size A xs) :
    Calls Try.prog 45 #[.slice A n c] w (SliceZ xs w) := by
  have Hn := Lib.hid hn
  clear hn
  cases A with
  | none =>
    have hx : xs = [] := by
      cases xs with
      | nil => rfl
      | cons a l => obtain ⟨b, o, h, _⟩ := ha.at_ (i := 0) (by simp); cases h
    subst hx
    have h0 : n = 0 := by have := Hn.out; simpa using this
    subst h0
    have hnil := fun w => Lib.run_eql_slice_nil (P := Try.prog) w 33 3 none 0 c 0 0 Try.underlying33
    go_enter Try.func45, Try.ntmps45
    go_wp2_with fail
    go_ret
    exact ⟨none, 0, rfl, OwnZ.nil _ _, brefl w⟩
  | some ad =>
    have hnil := fun w => Lib.run_eql_slice_nil (P := Try.prog) w 33 3 (some ad) n c 0 0 Try.underlying33
    go_enter Try.func45, Try.ntmps45
    go_wp2_with (at_builtin; refine app_z0 _ rfl (.tmp 5) (.tmp 6) rfl w _ _ rfl (own_emptyZ w) _ _ n c xs rfl Hn.out.symm (ha.below (bal (brefl w) _)) (by omega) (bal (brefl w) _) ?_; intro A1 c1 w1 ho1 hb1)
    go_ret
    have h := Hn.out
    exact ⟨A1, c1, by rw [← h]; rfl, by rw [← h]; exact ho1, hb1⟩

def CopQ (R : Nat → List Int) (r m : Nat) (w : World) (e : Ending) (w' : World) : Prop := ∃ A c RA RC, e = .returned (.slice A r c) ∧ OwnM w' w.heap.size A r c m RA RC R ∧ Below w.heap.size w w'

set_option maxHeartbeats 1000000 in
theorem copiedL_any (R : Nat → List Int) (r m : Nat) (hr1 : r ≤ 1000) (hm : m ≤ 10000) (hR : ∀ i, i < r → (R i).length = m) (RA : Nat → Option Addr) (RC : Nat → Nat) (A : Option Addr) (c : Nat) (w : World) (h : Rw w w.heap.size A r RA RC R) :
    Calls Try.prog 32 #[.slice A r c] w (CopQ R r m w) := by
  have HR := Lib.hid hR
  clear hR
  go_enter Try.func32, Try.ntmps32
  go_wp2_with fail
  go_loopw [3, 5, 8] (fun ov _ iv wr => (∃ (k : Nat) (A' : Option Addr) (c' : Nat) (RA' : Nat → Option Addr) (RC' : Nat → Nat), k ≤ r ∧ iv = .int .i64 k ∧ ov = .slice A' k c' ∧ OwnM wr w.heap.size A' k c' m RA' RC' R) ∧ Below w.heap.size w wr) (fun _ _ iv _ => r - (intOf iv).toNat)
  case atStart => exact ⟨⟨0, none, 0, fun _ => none, fun _ => 0, Nat.zero_le _, rfl, rfl, ownM_nil _ _ _ _ _ _⟩, brefl w⟩
  case round =>
    obtain ⟨⟨k, A2, c2, RA2, RC2, hk, rfl, rfl, ho⟩, hbl⟩ := hrel
    obtain ⟨wo, rfl⟩ : ∃ wo : World, wo = wr := ⟨_, rfl⟩
    have Ho := Lib.hid ho
    have Hb := Lib.hid hbl
    clear ho hbl
    by_cases hlt : k < r
    · obtain ⟨b1, o1, rfl, hc⟩ := (h.below Hb.out).at_ hlt
      have hin := ((h.below Hb.out).more Hb.out.size).ints k hlt
      have Hl : Hid ((R k).length = m) := HR.out k hlt
      rw [Hl.out] at hc
      go_wp2_with fail
      (with_reducible refine (clone_any (R k) m Hl.out.symm (by omega) _ _ _ hin).mono ?_); rintro e w3 ⟨A3, c3, rfl, ho3, b3⟩
      rw [Hl.out] at ho3 ⊢
      have Ho3 := Lib.hid ho3
      have Ho4 := Lib.hid (Ho.out.below b3 (Nat.le_refl _))
      have Hb3 := Lib.hid (bth Hb.out b3)
      have hb3s := b3.size
      have hbs := Hb.out.size
      have Hz : Hid (∀ q, ((Value.slice A2 k c2).ownBlock = some q ∨ ∃ i, i < k ∧ (Value.slice (RA2 i) m (RC2 i)).ownBlock = some q) → q < wo.heap.size) := fun q hq => (Ho.out.lt q hq).2
      clear ho3 b3 Ho
      go_wp2_with (at_builtin; refine app_s _ rfl (.tmp 12) (.tmp 15) rfl w.heap.size _ _ _ _ rfl (World.ownsRow.alloc Ho4.out.outer _) _ _ 1 (.slice A3 m c3) rfl (rd_new1 _ _ _) rfl (by omega) (by simp; omega) ?_; intro A5 c5 w5 ho5 hg5 hat5)
      have Ho5 := Lib.hid (OwnM.push (Z := wo.heap.size) (Ho4.out.below (bal (brefl w3) (.cells #[.slice A3 m c3] 33)) (Nat.le_refl _)) Hz.out (Ho3.out.alloc (.cells #[.slice A3 m c3] 33)) hbs rfl ho5 hg5 hat5)
      have Hb5 : Hid (Below w.heap.size w w5) := (bal Hb3.out (.cells #[.slice A3 m c3] 33)).grown hg5 (by simp; omega) fun q hq => (World.ownsRow.lt Ho4.out.outer q hq).1
      clear ho5 hg5 hat5
      go_roundw
      case rel => exact ⟨⟨k + 1, A5, c5, _, _, by omega, by go_num, rfl, Ho5.out⟩, Hb5.out⟩
      case measure => simp [intOf]; omega
    · have e : k = r := by omega
      subst e
      go_wp2_with fail
      go_ret
      exact ⟨A2, c2, RA2, RC2, rfl, Ho.out, Hb.out⟩

set_option maxHeartbeats 1000000 in
theorem copiedR_any (R : Nat → List Int) (r m : Nat) (hr1 : r ≤ 1000) (hm : m ≤ 10000) (hR : ∀ i, i < r → (R i).length = m) (RA : Nat → Option Addr) (RC : Nat → Nat) (A : Option Addr) (c : Nat) (w : World) (h : Rw w w.heap.size A r RA RC R) :
    Calls Try.prog 35 #[.slice A r c] w (CopQ R r m w) := by
  have HR := Lib.hid hR
  clear hR
  go_enter Try.func35, Try.ntmps35
  go_wp2_with fail
  go_loopw [3, 4] (fun ov iv wr => (∃ (k : Nat) (A' : Option Addr) (c' : Nat) (RA' : Nat → Option Addr) (RC' : Nat → Nat), k ≤ r ∧ iv = .int .i64 k ∧ ov = .slice A' k c' ∧ OwnM wr w.heap.size A' k c' m RA' RC' R) ∧ Below w.heap.size w wr) (fun _ iv _ => r - (intOf iv).toNat)
  case atStart => exact ⟨⟨0, none, 0, fun _ => none, fun _ => 0, Nat.zero_le _, rfl, rfl, ownM_nil _ _ _ _ _ _⟩, brefl w⟩
  case round =>
    obtain ⟨⟨k, A2, c2, RA2, RC2, hk, rfl, rfl, ho⟩, hbl⟩ := hrel
    obtain ⟨wo, rfl⟩ : ∃ wo : World, wo = wr := ⟨_, rfl⟩
    have Ho := Lib.hid ho
    have Hb := Lib.hid hbl
    clear ho hbl
    by_cases hlt : k < r
    · obtain ⟨b1, o1, rfl, hc⟩ := (h.below Hb.out).at_ hlt
      have hin := ((h.below Hb.out).more Hb.out.size).ints k hlt
      have Hl : Hid ((R k).length = m) := HR.out k hlt
      rw [Hl.out] at hc
      have Hin := Lib.hid hin
      clear hin
      have hbs := Hb.out.size
      have nz := World.new_ne wo _ hc
      have hc2 := later (bal (brefl wo) (.cells #[] 3)) hc
      have Hz : Hid (∀ q, ((Value.slice A2 k c2).ownBlock = some q ∨ ∃ i, i < k ∧ (Value.slice (RA2 i) m (RC2 i)).ownBlock = some q) → q < wo.heap.size) := fun q hq => (Ho.out.lt q hq).2
      go_wp2_with (first
        | (at_builtin; refine app_z0 _ rfl (.tmp 12) (.tmp 16) rfl wo _ _ rfl (own_emptyZ wo) _ _ m _ (R k) rfl Hl.out (Hin.out.below (bal (brefl wo) _)) (by omega) (bal (brefl wo) _) ?_; intro A3 c3 w3 ho3 b3)
        | (at_builtin; refine app_s _ rfl (.tmp 11) (.tmp 18) rfl w.heap.size _ _ _ _ rfl (World.ownsRow.alloc (Ho.out.below b3 (Nat.le_refl _)).outer _) _ _ 1 (.slice A3 m c3) rfl (rd_new1 _ _ _) rfl (by omega) (by have := b3.size; simp; omega) ?_; intro A5 c5 w5 ho5 hg5 hat5))
      have Ho3 := Lib.hid ho3
      have Ho4 := Lib.hid (Ho.out.below b3 (Nat.le_refl _))
      have Hb3 := Lib.hid (bth Hb.out b3)
      have hb3s := b3.size
      clear ho3 b3 Ho
      have Ho5 := Lib.hid (OwnM.push (Z := wo.heap.size) (Ho4.out.below (bal (brefl w3) (.cells #[.slice A3 m c3] 33)) (Nat.le_refl _)) Hz.out (Ho3.out.alloc (.cells #[.slice A3 m c3] 33)) hbs rfl ho5 hg5 hat5)
      have Hb5 : Hid (Below w.heap.size w w5) := (bal Hb3.out (.cells #[.slice A3 m c3] 33)).grown hg5 (by simp; omega) fun q hq => (World.ownsRow.lt Ho4.out.outer q hq).1
      clear ho5 hg5 hat5
      go_roundw
      case rel => exact ⟨⟨k + 1, A5, c5, _, _, by omega, by go_num, rfl, Ho5.out⟩, Hb5.out⟩
      case measure => simp [intOf]; omega
    · have e : k = r := by omega
      subst e
      go_wp2_with fail
      go_ret
      exact ⟨A2, c2, RA2, RC2, rfl, Ho.out, Hb.out⟩
end Go.Proofs.Ytjdoagkbcooonaa
