/-
  Named of both, with the place of its memory.
-/
import Derived.Test.YtjdoagkbcooonaaProg
import Derived.Test.YtjdoagkbcooonaaTN
namespace Go.Proofs.Ytjdoagkbcooonaa
open Go.RowKit

def NamedA (ls : List Lft) (w : World) (e : Ending) (w' : World) : Prop := ∃ A c, e = .returned (.slice A ls.length c) ∧ Lfts w' w'.heap.size A ls ∧ Below w.heap.size w w' ∧ ∀ p, A = some p → w.heap.size ≤ p.block
theorem Lfts.other {w w' : World} {B B2 : Nat} {A : Option Addr} {ls : List Lft} (h : Lfts w B A ls) (hB : B ≤ B2) (hk : ∀ p, A = some p → p.block < B → w'.heap[p.block]? = w.heap[p.block]?) : Lfts w' B2 A ls := fun h0 => by
  obtain ⟨b, off, e, hb, hc⟩ := h h0
  have hblk := hk _ e hb
  exact ⟨b, off, e, by omega, fun i hi => ⟨(World.cell?_of_block (a := ⟨b, off + i * 3, none⟩) hblk).trans (hc i hi).1, (World.cell?_of_block (a := ⟨b, off + i * 3 + 1, none⟩) hblk).trans (hc i hi).2.1, (World.cell?_of_block (a := ⟨b, off + i * 3 + 2, none⟩) hblk).trans (hc i hi).2.2⟩⟩

theorem namedL_at (mode : Int) (w : World) : Calls Try.prog 19 #[.int .i64 mode] w (NamedA (namedP mode) w) := by
  by_cases h1 : mode = 1
  · subst h1
    go_enter Try.func19, Try.ntmps19
    go_wp2
    go_ret
    refine ⟨_, _, rfl, lfts_lit w (namedP 1) _ _ fun i hi => ?_, bal (brefl w) _, fun p hp => by cases hp; exact Nat.le_refl _⟩
    rw [show namedP 1 = [(0, 1, -256)] from rfl] at hi ⊢
    simp at hi
    rcases i with _ | i
    · exact ⟨rfl, rfl, rfl⟩
    · omega
  by_cases h2 : mode = 2
  · subst h2
    go_enter Try.func19, Try.ntmps19
    go_wp2
    go_ret
    refine ⟨_, _, rfl, lfts_lit w (namedP 2) _ _ fun i hi => ?_, bal (brefl w) _, fun p hp => by cases hp; exact Nat.le_refl _⟩
    rw [show namedP 2 = [(1, 0, -256)] from rfl] at hi ⊢
    simp at hi
    rcases i with _ | i
    · exact ⟨rfl, rfl, rfl⟩
    · omega
  by_cases h3 : mode = 3
  · subst h3
    go_enter Try.func19, Try.ntmps19
    go_wp2
    go_ret
    refine ⟨_, _, rfl, lfts_lit w (namedP 3) _ _ fun i hi => ?_, bal (brefl w) _, fun p hp => by cases hp; exact Nat.le_refl _⟩
    rw [show namedP 3 = [(1, 0, -256), (0, 1, 128)] from rfl] at hi ⊢
    simp at hi
    rcases i with _ | _ | i
    · exact ⟨rfl, rfl, rfl⟩
    · exact ⟨rfl, rfl, rfl⟩
    · omega
  by_cases h4 : mode = 4
  · subst h4
    go_enter Try.func19, Try.ntmps19
    go_wp2
    go_ret
    refine ⟨_, _, rfl, lfts_lit w (namedP 4) _ _ fun i hi => ?_, bal (brefl w) _, fun p hp => by cases hp; exact Nat.le_refl _⟩
    rw [show namedP 4 = [(1, 0, -106), (0, 1, 181), (1, 0, -106)] from rfl] at hi ⊢
    simp at hi
    rcases i with _ | _ | _ | i
    · exact ⟨rfl, rfl, rfl⟩
    · exact ⟨rfl, rfl, rfl⟩
    · exact ⟨rfl, rfl, rfl⟩
    · omega
  have e1 : (mode == 1) = false := by simp [h1]
  have e2 : (mode == 2) = false := by simp [h2]
  have e3 : (mode == 3) = false := by simp [h3]
  have e4 : (mode == 4) = false := by simp [h4]
  have hn := Lib.hid (named_nil h1 h2 h3 h4)
  clear h1 h2 h3 h4
  go_enter Try.func19, Try.ntmps19
  go_wp2
  go_ret
  rw [hn.out]
  exact ⟨none, 0, rfl, Lfts.nil, brefl w, fun p hp => by cases hp⟩

theorem namedR_at (mode : Int) (w : World) : Calls Try.prog 24 #[.int .i64 mode] w (NamedA (namedP mode) w) := by
  by_cases h1 : mode = 1
  · subst h1
    go_enter Try.func24, Try.ntmps24
    go_wp2
    go_ret
    refine ⟨_, _, rfl, lfts_lit w (namedP 1) _ _ fun i hi => ?_, bal (brefl w) _, fun p hp => by cases hp; exact Nat.le_refl _⟩
    rw [show namedP 1 = [(0, 1, -256)] from rfl] at hi ⊢
    simp at hi
    rcases i with _ | i
    · exact ⟨rfl, rfl, rfl⟩
    · omega
  by_cases h2 : mode = 2
  · subst h2
    go_enter Try.func24, Try.ntmps24
    go_wp2
    go_ret
    refine ⟨_, _, rfl, lfts_lit w (namedP 2) _ _ fun i hi => ?_, bal (brefl w) _, fun p hp => by cases hp; exact Nat.le_refl _⟩
    rw [show namedP 2 = [(1, 0, -256)] from rfl] at hi ⊢
    simp at hi
    rcases i with _ | i
    · exact ⟨rfl, rfl, rfl⟩
    · omega
  by_cases h3 : mode = 3
  · subst h3
    go_enter Try.func24, Try.ntmps24
    go_wp2
    go_ret
    refine ⟨_, _, rfl, lfts_lit w (namedP 3) _ _ fun i hi => ?_, bal (brefl w) _, fun p hp => by cases hp; exact Nat.le_refl _⟩
    rw [show namedP 3 = [(1, 0, -256), (0, 1, 128)] from rfl] at hi ⊢
    simp at hi
    rcases i with _ | _ | i
    · exact ⟨rfl, rfl, rfl⟩
    · exact ⟨rfl, rfl, rfl⟩
    · omega
  by_cases h4 : mode = 4
  · subst h4
    go_enter Try.func24, Try.ntmps24
    go_wp2
    go_ret
    refine ⟨_, _, rfl, lfts_lit w (namedP 4) _ _ fun i hi => ?_, bal (brefl w) _, fun p hp => by cases hp; exact Nat.le_refl _⟩
    rw [show namedP 4 = [(1, 0, -106), (0, 1, 181), (1, 0, -106)] from rfl] at hi ⊢
    simp at hi
    rcases i with _ | _ | _ | i
    · exact ⟨rfl, rfl, rfl⟩
    · exact ⟨rfl, rfl, rfl⟩
    · exact ⟨rfl, rfl, rfl⟩
    · omega
  have e1 : (mode == 1) = false := by simp [h1]
  have e2 : (mode == 2) = false := by simp [h2]
  have e3 : (mode == 3) = false := by simp [h3]
  have e4 : (mode == 4) = false := by simp [h4]
  have hn := Lib.hid (named_nil h1 h2 h3 h4)
  clear h1 h2 h3 h4
  go_enter Try.func24, Try.ntmps24
  go_wp2
  go_ret
  rw [hn.out]
  exact ⟨none, 0, rfl, Lfts.nil, brefl w, fun p hp => by cases hp⟩

end Go.Proofs.Ytjdoagkbcooonaa
