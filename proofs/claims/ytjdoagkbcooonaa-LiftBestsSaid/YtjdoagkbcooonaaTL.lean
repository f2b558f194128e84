/-
  Rows of lifts of the call's own: append.
-/
import Derived.Test.YtjdoagkbcooonaaProg
import Derived.Test.YtjdoagkbcooonaaTC
namespace Go.Proofs.Ytjdoagkbcooonaa
open Go.RowKit

def flatL : List Lft → List Value
  | [] => []
  | s :: ls => .int .i64 s.1 :: .int .i64 s.2.1 :: .int .i64 s.2.2 :: flatL ls
theorem flat_len : ∀ ls : List Lft, (flatL ls).length = ls.length * 3
  | [] => rfl
  | s :: ls => by simp only [flatL, List.length_cons, flat_len ls]; omega
theorem flat_app : ∀ a b : List Lft, flatL (a ++ b) = flatL a ++ flatL b
  | [], b => rfl
  | s :: a, b => by simp [flatL, flat_app a b]
theorem flat_one : ∀ (ls : List Lft), ∀ u ∈ flatL ls, u.oneCell' = true
  | [], u, h => by simp [flatL] at h
  | s :: ls, u, h => by
    simp only [flatL, List.mem_cons] at h
    rcases h with rfl | rfl | rfl | h
    · rfl
    · rfl
    · rfl
    · exact flat_one ls u h
theorem flat_get : ∀ (ls : List Lft) (i : Nat), i < ls.length → (flatL ls)[i * 3]? = some (.int .i64 (lfF ls i)) ∧ (flatL ls)[i * 3 + 1]? = some (.int .i64 (lfT ls i)) ∧ (flatL ls)[i * 3 + 2]? = some (.int .i64 (lfG ls i))
  | [], i, h => by simp at h
  | s :: ls, 0, h => ⟨rfl, rfl, rfl⟩
  | s :: ls, i + 1, h => by
    have := flat_get ls i (by simpa using h)
    have e1 : (i + 1) * 3 = i * 3 + 3 := by omega
    have e2 : (i + 1) * 3 + 1 = i * 3 + 1 + 3 := by omega
    have e3 : (i + 1) * 3 + 2 = i * 3 + 2 + 3 := by omega
    rw [e1]
    exact this
theorem lfts_rd {w : World} {B : Nat} {A : Option Addr} {ls : List Lft} (h : Lfts w B A ls) : Rd w B A (flatL ls) := fun h0 => by
  rw [flat_len] at h0
  obtain ⟨b, off, e, hB, hc⟩ := h (by omega)
  refine ⟨b, off, e, hB, fun j u hu => ?_⟩
  have hj : j < ls.length * 3 := by rw [← flat_len]; exact (List.getElem?_eq_some_iff.1 hu).1
  obtain ⟨i, hi⟩ : ∃ i, i = j / 3 := ⟨_, rfl⟩
  have hi' : i < ls.length := by omega
  obtain ⟨f1, f2, f3⟩ := flat_get ls i hi'
  obtain ⟨g1, g2, g3⟩ := hc i hi'
  have h3 : j = i * 3 ∨ j = i * 3 + 1 ∨ j = i * 3 + 2 := by omega
  rcases h3 with rfl | rfl | rfl
  · rw [f1] at hu; cases hu; exact g1
  · rw [f2] at hu; cases hu; exact g2
  · rw [f3] at hu; cases hu; exact g3
theorem rd_lfts {w : World} {B : Nat} {A : Option Addr} {ls : List Lft} (h : Rd w B A (flatL ls)) : Lfts w B A ls := fun h0 => by
  obtain ⟨b, off, e, hB, hc⟩ := h (by rw [flat_len]; omega)
  refine ⟨b, off, e, hB, fun i hi => ?_⟩
  obtain ⟨f1, f2, f3⟩ := flat_get ls i hi
  exact ⟨hc _ _ f1, hc _ _ f2, hc _ _ f3⟩
theorem own_lfts {w : World} {B n c : Nat} {A : Option Addr} {ls : List Lft} {e : TypeId} (h : w.ownsRow B e 3 (.slice A n c) n (flatL ls)) : Lfts w w.heap.size A ls := rd_lfts (own_rd h)

theorem lift_info : (Try.prog.info? 52).map (fun i => (i.zero, i.size, i.bytes)) = some (some (.agg #[.int .i64 0, .int .i64 0, .int .i64 0]), 3, 24) := by kernel_rfl
/-- append of lifts to a row of lifts of the call's own. -/
theorem app_l {ops : Array Oper} {rest : List Oper} {o : Oper} {a : Act} {Q : Exit → Act → World → Prop} (w : World) (hgd : o.guard = none) (s x : Operand)
    (ho : o.op = .call { callee := .builtin .append, args := #[s, x], argTypes := #[23, 23] }) (B : Nat) (A1 : Option Addr) (n1 c1 : Nat) (l1 : List Lft) (hs : a.eval s = .slice A1 n1 c1) (hown : w.ownsRow B 52 3 (.slice A1 n1 c1) n1 (flatL l1))
    (B1 : Nat) (A : Option Addr) (n c : Nat) (l2 : List Lft) (hx : a.eval x = .slice A n c) (hn : n = l2.length) (hr : Lfts w B1 A l2) (hsz : n1 + n ≤ 100000) (hB : B ≤ w.heap.size)
    (h : ∀ A' c' w', w'.ownsRow B 52 3 (.slice A' (n1 + n) c') (n1 + n) (flatL (l1 ++ l2)) → w.grownBy w' (Value.slice A1 n1 c1).ownBlock → ((Value.slice A' (n1 + n) c').ownBlock = (Value.slice A1 n1 c1).ownBlock ∨ (Value.slice A' (n1 + n) c').ownBlock = some w.heap.size) → wpList Try.prog ops Q rest (a.put o.dst (.slice A' (n1 + n) c')) w') : wpList Try.prog ops Q (o :: rest) a w := by
  obtain ⟨i0, hi0, hz0, hz1, hz2⟩ := info_parts lift_info
  refine wpList_app w hgd s x 23 ho B 52 i0 _ 3 24 Try.underlying23 hi0 hz0 hz1 hz2 rfl (by omega) _ n1 _ hs hown B1 A n c (flatL l2) hx (by rw [flat_len, hn]) (lfts_rd hr) (flat_one _) (by simp only [maxLen]; omega) (by omega) hB ?_
  intro A' c' w' h1 h2 h3
  rw [← flat_app] at h1
  exact h A' c' w' h1 h2 h3
end Go.Proofs.Ytjdoagkbcooonaa
