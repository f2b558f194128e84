/-
  A region that draws its order and whose last operation waits for all the others: the others may be walked under a condition on the world that the last operation itself breaks. No program is named here.
-/
import Derived.Test.YtfihbcpainlpcaaProg
import Derived.Test.YtfihbcpainlpcaaK
import Derived.StillTail
namespace Go.Proofs.Ytfihbcpainlpcaa
open Go.RowKit
set_option linter.unusedVariables false
set_option linter.unusedSimpArgs false

section
variable {P : Program} {ops : Array Oper} {Q : Exit → Act → World → Prop} {S : World → Prop} {n : Nat}

theorem wp_exits {o : Oper} {a : Act} {w : World} {K : Act → World → Prop} {Q' : Exit → Act → World → Prop} (hp : ∀ c a w, Q' (.panic c) a w → Q (.panic c) a w) (ho : LetsOut Q' → LetsOut Q) (h : o.wp P a w K Q') : o.wp P a w K Q := by
  unfold Oper.wp at *
  generalize (execOp a.eval o).run P w = r at *
  cases r with
  | ok k w' =>
    cases k with
    | enter f args =>
      refine Calls.mono h fun e w'' he => ?_
      cases e with
      | returned u => exact he
      | panicked c => exact hp _ _ _ he
      | outgrown => exact ho he
    | _ => exact h
  | halt x w' =>
    cases x with
    | panic u => exact hp _ _ _ h
    | _ => exact h

/-- the last operation, then what follows. -/
def popQ (P : Program) (ops : Array Oper) (n : Nat) (Q : Exit → Act → World → Prop) : Exit → Act → World → Prop
  | .normal, a, w => wpOp P ops Q n (Q .normal) a w
  | e, a, w => Q e a w

theorem popQ_step {o : Oper} {a : Act} {w : World} (ho : ops[n]? = some o)
    (h : ∀ K' : Act → World → Prop, (∀ a w, Q .normal a w → K' a w) → if Region.wanted o (yielded ops a.tmps) = true then Oper.wp P o a w K' Q else K' (a.put o.dst undef) w) : popQ P ops n Q .normal a w := wpOp_step ho h

/-- the operations ahead of number n lead to earlier ones alone; number n waits for each of them. -/
def lastB (ops : Array Oper) (n : Nat) : Bool :=
  decide (ops.size = n + 1) &&
  ((List.range (n + 1)).all fun j => match ops[j]? with
    | some o => (o.after.all fun e => !Region.binds .any e || decide (e.on < j)) && (match o.guard with | none => true | some (g, _) => decide (g < n))
    | none => false) &&
  (List.range n).all fun i => Region.waitsFor .any ops n i

theorem lastB_size (h : lastB ops n = true) : ops.size = n + 1 := by
  simp only [lastB, Bool.and_eq_true, decide_eq_true_eq] at h; exact h.1.1
theorem lastB_at (h : lastB ops n = true) {j : Nat} {o : Oper} (hj : j < n + 1) (ho : ops[j]? = some o) : (∀ e ∈ o.after, Region.binds .any e = true → e.on < j) ∧ ∀ g b, o.guard = some (g, b) → g < n := by
  simp only [lastB, Bool.and_eq_true] at h
  have h1 := List.all_eq_true.1 h.1.2 j (List.mem_range.2 hj)
  rw [ho] at h1
  simp only [Bool.and_eq_true] at h1
  refine ⟨fun e he hb => ?_, fun g b hg => ?_⟩
  · have := Array.all_eq_true'.1 h1.1 e he
    simpa [hb] using this
  · have := h1.2
    rw [hg] at this
    simpa using this
theorem lastB_waits (h : lastB ops n = true) {i : Nat} (hi : i < n) : ∃ o, ops[n]? = some o ∧ ∃ e ∈ o.after, Region.binds .any e = true ∧ e.on = i := by
  simp only [lastB, Bool.and_eq_true] at h
  exact Region.waitsFor_spec (List.all_eq_true.1 h.2 i (List.mem_range.2 hi))
theorem pop_at (hs : ops.size = n + 1) {i : Nat} (hi : i < n) : ops.pop[i]? = ops[i]? := by
  rw [Array.getElem?_pop, if_pos (by omega)]
theorem wpOp_pop (h : lastB ops n = true) {i : Nat} (hi : i < n) {K : Act → World → Prop} {a : Act} {w : World} (hh : wpOp P ops.pop (popQ P ops n Q) i K a w) : wpOp P ops Q i K a w := by
  have hs := lastB_size h
  unfold wpOp at *
  rw [pop_at hs hi] at hh
  cases ho : ops[i]? with
  | none => rw [ho] at hh; exact hh
  | some o =>
    rw [ho] at hh
    simp only at hh ⊢
    have hw : Region.wanted o (yielded ops.pop a.tmps) = Region.wanted o (yielded ops a.tmps) := by
      unfold Region.wanted
      cases hg : o.guard with
      | none => rfl
      | some q =>
        obtain ⟨g, b⟩ := q
        have := (lastB_at h (by omega) ho).2 g b hg
        simp only
        unfold yielded
        rw [pop_at hs this]
    rw [hw] at hh
    split
    · rename_i hw'
      rw [if_pos hw'] at hh
      rcases hh with hh | ⟨h1, h2⟩
      · exact .inl (wp_exits (fun _ _ _ h => h) (fun h => h) hh)
      · exact .inr ⟨h1, h2⟩
    · rename_i hw'
      rw [if_neg hw'] at hh
      exact hh

theorem push_get {listed : Array Bool} (hl : listed.size = n) {j : Nat} (hj : j < n) (d : Bool) : (listed.push false).getD j d = listed.getD j d := by
  simp [Array.getD_eq_getD_getElem?, Array.getElem?_push, hl, Nat.ne_of_lt hj]
theorem all_listed (h : lastB ops n = true) {listed : Array Bool} (hl : listed.size = n) (hr : Region.ready .any ops.pop listed = []) : ∀ i, i < n → listed.getD i false = true := by
  have hs := lastB_size h
  intro i
  induction i using Nat.strongRecOn with
  | _ i ih =>
    intro hi
    cases hb : listed.getD i false with
    | true => rfl
    | false =>
      exfalso
      obtain ⟨o, ho⟩ : ∃ o, ops[i]? = some o := ⟨ops[i]'(by omega), Array.getElem?_eq_getElem (by omega)⟩
      have hm : i ∈ Region.ready .any ops.pop listed := mem_ready.2 ⟨getD_in (by omega) hb, o, (pop_at hs hi).trans ho, fun e he hb' => ih e.on ((lastB_at h (by omega) ho).1 e he hb') (by have := (lastB_at h (by omega) ho).1 e he hb'; omega)⟩
      rw [hr] at hm
      cases hm
theorem ready_pop (h : lastB ops n = true) {listed : Array Bool} (hl : listed.size = n) {i : Nat} (hi : i < n) : i ∈ Region.ready .any ops.pop listed ↔ i ∈ Region.ready .any ops (listed.push false) := by
  have hs := lastB_size h
  rw [mem_ready, mem_ready, push_get hl hi, pop_at hs hi]
  refine and_congr Iff.rfl (exists_congr fun o => and_congr_right fun ho => forall_congr' fun e => forall_congr' fun he => forall_congr' fun hb => ?_)
  have := (lastB_at h (by omega) ho).1 e he hb
  rw [push_get hl (by omega)]
theorem wpAny_fin {md : Region.Mode} {listed : Array Bool} {a : Act} {w : World} (hr : Region.ready md ops listed = []) (h : Q .normal a w) : ∀ f, wpAny P md ops Q f listed a w
  | 0 => ⟨hr, h⟩
  | _ + 1 => ⟨fun _ => h, by rw [hr]; simp⟩
/-- all but the last are done. -/
theorem wpAny_last (h : lastB ops n = true) {listed : Array Bool} (hl : listed.size = n) (hr : Region.ready .any ops.pop listed = []) {a : Act} {w : World} (hq : wpOp P ops Q n (Q .normal) a w) (f : Nat) : wpAny P .any ops Q (f + 1) (listed.push false) a w := by
  have hs := lastB_size h
  have hall := all_listed h hl hr
  obtain ⟨o, ho⟩ : ∃ o, ops[n]? = some o := ⟨ops[n]'(by omega), Array.getElem?_eq_getElem (by omega)⟩
  have hn : n ∈ Region.ready .any ops (listed.push false) := mem_ready.2 ⟨by rw [Array.getD_eq_getD_getElem?, ← hl, Array.getElem?_push_size]; rfl, o, ho, fun e he hb => by
    have := (lastB_at h (by omega) ho).1 e he hb
    rw [push_get hl this]; exact hall _ this⟩
  refine ⟨fun h0 => (by rw [h0] at hn; cases hn), fun i hi => ?_⟩
  obtain ⟨hun, oi, hoi, _⟩ := mem_ready.1 hi
  have hin : i < n + 1 := by have := (Array.getElem?_eq_some_iff.1 hoi).1; omega
  have : i = n := by
    rcases Nat.lt_or_ge i n with hlt | hge
    · have h1 := hall i hlt
      rw [push_get hl hlt] at hun
      have := getD_in (listed := listed) (i := i) (by omega) (by
        cases hb : listed.getD i false with
        | false => rfl
        | true => simp [hl, hlt] at hun hb; rw [hun] at hb; cases hb)
      simp [hl, hlt] at h1 hun
      rw [hun] at h1; cases h1
    · omega
  subst this
  refine wpOp_mono (fun a' w' hq' => wpAny_fin ?_ hq' f) hq
  apply List.eq_nil_iff_forall_not_mem.2
  intro k hk
  obtain ⟨hun', ok, hok, _⟩ := mem_ready.1 hk
  have hkn : k < i + 1 := by have := (Array.getElem?_eq_some_iff.1 hok).1; omega
  by_cases e : k = i
  · subst e
    simp [hl] at hun'
  · have hlt : k < i := by omega
    have h1 := hall k hlt
    rw [getD_set_ne true (Ne.symm e), push_get hl hlt] at hun'
    simp [hl, hlt] at h1 hun'
    rw [hun'] at h1; cases h1
theorem wpAny_pop (h : lastB ops n = true) : ∀ (f : Nat) (listed : Array Bool) (a : Act) (w : World), listed.size = n → wpAny P .any ops.pop (popQ P ops n Q) f listed a w → wpAny P .any ops Q (f + 1) (listed.push false) a w
  | 0, listed, a, w, hl, hh => wpAny_last h hl hh.1 hh.2 0
  | f + 1, listed, a, w, hl, hh => by
    by_cases hr : Region.ready .any ops.pop listed = []
    · exact wpAny_last h hl hr (hh.1 hr) (f + 1)
    · obtain ⟨i0, hi0⟩ := List.exists_mem_of_ne_nil _ hr
      have hsz := lastB_size h
      have lt0 : ∀ i, i ∈ Region.ready .any ops.pop listed → i < n := fun i hi => by
        obtain ⟨_, o, ho, _⟩ := mem_ready.1 hi
        have := (Array.getElem?_eq_some_iff.1 ho).1
        simp [hsz] at this; exact this
      refine ⟨fun h0 => ?_, fun i hi => ?_⟩
      · have := (ready_pop h hl (lt0 i0 hi0)).1 hi0
        rw [h0] at this; cases this
      · rcases Nat.lt_or_ge i n with hlt | hge
        · refine wpOp_mono (fun a' w' h3 => ?_) (wpOp_pop h hlt (hh.2 i ((ready_pop h hl hlt).2 hi)))
          have := wpAny_pop h f (listed.setIfInBounds i true) a' w' (by simp [hl]) h3
          have e : (listed.push false).setIfInBounds i true = (listed.setIfInBounds i true).push false := by
            apply Array.ext_getElem?
            intro k
            simp only [Array.getElem?_setIfInBounds, Array.getElem?_push, Array.size_push, Array.size_setIfInBounds, hl]
            by_cases e : i = k
            · subst e; simp [hlt, Nat.ne_of_lt hlt]; omega
            · simp [e]
          rw [e]; exact this
        · exfalso
          obtain ⟨_, oi, hoi, hall⟩ := mem_ready.1 hi
          have hin : i = n := by have := (Array.getElem?_eq_some_iff.1 hoi).1; omega
          subst hin
          have hl0 := lt0 i0 hi0
          obtain ⟨o', ho', e, he, hb, hon⟩ := lastB_waits h hl0
          have : o' = oi := Option.some.inj (ho'.symm.trans hoi)
          subst this
          have h1 := hall e he hb
          rw [hon, push_get hl hl0] at h1
          have h2 := (mem_ready.1 hi0).1
          simp [hl, hl0] at h1 h2
          rw [h1] at h2; cases h2

/-- THE LAW: all but the last under S, then the last. -/
theorem wp_region_last {id : Nat} {a : Act} {w : World} (n : Nat) (S : World → Prop) (hm : P.follows .mixedOrders = true) (h : lastB ops n = true) (hS : S w.drew)
    (hh : S w.drew → wpAnyH P .any ops.pop (popQ P ops n Q) S n (Array.replicate n false) a w.drew) : (Code.region id ops true).wp P Q a w := by
  refine wp_region_any hm ?_
  have := wpAny_pop h n _ a w.drew (by simp) (wpAny_of_held _ _ _ _ (hh hS))
  rw [lastB_size h, Array.replicate_succ]
  exact this
end
end Go.Proofs.Ytfihbcpainlpcaa
