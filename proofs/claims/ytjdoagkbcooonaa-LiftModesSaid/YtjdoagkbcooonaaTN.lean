/-
  Named of both; SameRows of equal rows; the laws' Small, small, sameLifts.
-/
import Derived.Test.YtjdoagkbcooonaaProg
import Derived.Test.YtjdoagkbcooonaaTF
import Derived.Test.YtjdoagkbcooonaaR2
namespace Go.Proofs.Ytjdoagkbcooonaa
open Go.RowKit

def namedP (mode : Int) : List Lft := if mode = 1 then [(0, 1, -256)] else if mode = 2 then [(1, 0, -256)] else if mode = 3 then [(1, 0, -256), (0, 1, 128)] else if mode = 4 then [(1, 0, -106), (0, 1, 181), (1, 0, -106)] else []
theorem named_nil {mode : Int} (h1 : mode ≠ 1) (h2 : mode ≠ 2) (h3 : mode ≠ 3) (h4 : mode ≠ 4) : namedP mode = [] := by simp [namedP, h1, h2, h3, h4]
theorem named_len (mode : Int) : (namedP mode).length ≤ 3 := by
  unfold namedP
  split
  · simp
  split
  · simp
  split
  · simp
  split <;> simp
def NamedQ (ls : List Lft) (w : World) (e : Ending) (w' : World) : Prop := ∃ A c, e = .returned (.slice A ls.length c) ∧ Lfts w' w'.heap.size A ls ∧ Below w.heap.size w w'
theorem lfts_lit (w : World) (ls : List Lft) (arr : Array Value) (t : TypeId) (h : ∀ i, i < ls.length → arr[i * 3]? = some (.int .i64 (lfF ls i)) ∧ arr[i * 3 + 1]? = some (.int .i64 (lfT ls i)) ∧ arr[i * 3 + 2]? = some (.int .i64 (lfG ls i))) :
    Lfts (w.alloc (.cells arr t)) (w.alloc (.cells arr t)).heap.size (some ⟨w.heap.size, 0, none⟩) ls := fun _ => by
  refine ⟨w.heap.size, 0, rfl, by simp, fun i hi => ?_⟩
  obtain ⟨h1, h2, h3⟩ := h i hi
  rw [Nat.zero_add]
  exact ⟨(cell_of_row _ _ _ _ _ _ (heap_alloc_new w _)).trans h1, (cell_of_row _ _ _ _ _ _ (heap_alloc_new w _)).trans h2, (cell_of_row _ _ _ _ _ _ (heap_alloc_new w _)).trans h3⟩

theorem namedL_any (mode : Int) (w : World) : Calls Try.prog 19 #[.int .i64 mode] w (NamedQ (namedP mode) w) := by
  by_cases h1 : mode = 1
  · subst h1
    go_enter Try.func19, Try.ntmps19
    go_wp2
    go_ret
    refine ⟨_, _, rfl, lfts_lit w (namedP 1) _ _ fun i hi => ?_, bal (brefl w) _⟩
    rw [show namedP 1 = [(0, 1, -256)] from rfl] at hi ⊢
    simp at hi
    rcases i with _ | i
    · exact ⟨rfl, rfl, rfl⟩
    · omega
  by_cases h2 : mode = 2
  · subst h2
    go_enter Try.func19, Try.ntmps19
    go_wp2
    go_ret
    refine ⟨_, _, rfl, lfts_lit w (namedP 2) _ _ fun i hi => ?_, bal (brefl w) _⟩
    rw [show namedP 2 = [(1, 0, -256)] from rfl] at hi ⊢
    simp at hi
    rcases i with _ | i
    · exact ⟨rfl, rfl, rfl⟩
    · omega
  by_cases h3 : mode = 3
  · subst h3
    go_enter Try.func19, Try.ntmps19
    go_wp2
    go_ret
    refine ⟨_, _, rfl, lfts_lit w (namedP 3) _ _ fun i hi => ?_, bal (brefl w) _⟩
    rw [show namedP 3 = [(1, 0, -256), (0, 1, 128)] from rfl] at hi ⊢
    simp at hi
    rcases i with _ | _ | i
    · exact ⟨rfl, rfl, rfl⟩
    · exact ⟨rfl, rfl, rfl⟩
    · omega
  by_cases h4 : mode = 4
  · subst h4
    go_enter Try.func19, Try.ntmps19
    go_wp2
    go_ret
    refine ⟨_, _, rfl, lfts_lit w (namedP 4) _ _ fun i hi => ?_, bal (brefl w) _⟩
    rw [show namedP 4 = [(1, 0, -106), (0, 1, 181), (1, 0, -106)] from rfl] at hi ⊢
    simp at hi
    rcases i with _ | _ | _ | i
    · exact ⟨rfl, rfl, rfl⟩
    · exact ⟨rfl, rfl, rfl⟩
    · exact ⟨rfl, rfl, rfl⟩
    · omega
  have e1 : (mode == 1) = false := by simp [h1]
  have e2 : (mode == 2) = false := by simp [h2]
  have e3 : (mode == 3) = false := by simp [h3]
  have e4 : (mode == 4) = false := by simp [h4]
  have hn := Lib.hid (named_nil h1 h2 h3 h4)
  clear h1 h2 h3 h4
  go_enter Try.func19, Try.ntmps19
  go_wp2
  go_ret
  rw [hn.out]
  exact ⟨none, 0, rfl, Lfts.nil, brefl w⟩

theorem namedR_any (mode : Int) (w : World) : Calls Try.prog 24 #[.int .i64 mode] w (NamedQ (namedP mode) w) := by
  by_cases h1 : mode = 1
  · subst h1
    go_enter Try.func24, Try.ntmps24
    go_wp2
    go_ret
    refine ⟨_, _, rfl, lfts_lit w (namedP 1) _ _ fun i hi => ?_, bal (brefl w) _⟩
    rw [show namedP 1 = [(0, 1, -256)] from rfl] at hi ⊢
    simp at hi
    rcases i with _ | i
    · exact ⟨rfl, rfl, rfl⟩
    · omega
  by_cases h2 : mode = 2
  · subst h2
    go_enter Try.func24, Try.ntmps24
    go_wp2
    go_ret
    refine ⟨_, _, rfl, lfts_lit w (namedP 2) _ _ fun i hi => ?_, bal (brefl w) _⟩
    rw [show namedP 2 = [(1, 0, -256)] from rfl] at hi ⊢
    simp at hi
    rcases i with _ | i
    · exact ⟨rfl, rfl, rfl⟩
    · omega
  by_cases h3 : mode = 3
  · subst h3
    go_enter Try.func24, Try.ntmps24
    go_wp2
    go_ret
    refine ⟨_, _, rfl, lfts_lit w (namedP 3) _ _ fun i hi => ?_, bal (brefl w) _⟩
    rw [show namedP 3 = [(1, 0, -256), (0, 1, 128)] from rfl] at hi ⊢
    simp at hi
    rcases i with _ | _ | i
    · exact ⟨rfl, rfl, rfl⟩
    · exact ⟨rfl, rfl, rfl⟩
    · omega
  by_cases h4 : mode = 4
  · subst h4
    go_enter Try.func24, Try.ntmps24
    go_wp2
    go_ret
    refine ⟨_, _, rfl, lfts_lit w (namedP 4) _ _ fun i hi => ?_, bal (brefl w) _⟩
    rw [show namedP 4 = [(1, 0, -106), (0, 1, 181), (1, 0, -106)] from rfl] at hi ⊢
    simp at hi
    rcases i with _ | _ | _ | i
    · exact ⟨rfl, rfl, rfl⟩
    · exact ⟨rfl, rfl, rfl⟩
    · exact ⟨rfl, rfl, rfl⟩
    · omega
  have e1 : (mode == 1) = false := by simp [h1]
  have e2 : (mode == 2) = false := by simp [h2]
  have e3 : (mode == 3) = false := by simp [h3]
  have e4 : (mode == 4) = false := by simp [h4]
  have hn := Lib.hid (named_nil h1 h2 h3 h4)
  clear h1 h2 h3 h4
  go_enter Try.func24, Try.ntmps24
  go_wp2
  go_ret
  rw [hn.out]
  exact ⟨none, 0, rfl, Lfts.nil, brefl w⟩

theorem sameRows_any (R : Nat → List Int) (r : Nat) (hr1 : r ≤ 1000) (hR : ∀ i, i < r → (R i).length ≤ 100000) (RA RA2 : Nat → Option Addr) (RC RC2 : Nat → Nat) (A A2 : Option Addr) (b b2 c c2 : Nat) (w : World) (h : Rw w b A r RA RC R) (h2 : Rw w b2 A2 r RA2 RC2 R) :
    Calls Try.prog 17 #[.slice A r c, .slice A2 r c2] w fun e w' => e = .returned (.bool true) ∧ Below w.heap.size w w' := by
  have HR := Lib.hid hR
  have hne : ((r : Int) != (r : Int)) = false := by simp
  clear hR
  go_enter Try.func17, Try.ntmps17
  go_wp2
  go_loopw [5] (fun iv wr => (∃ k : Nat, k ≤ r ∧ iv = .int .i64 k) ∧ ∃ q, wr = w.drewN q) (fun iv _ => r - (intOf iv).toNat)
  case atStart => exact ⟨⟨0, Nat.zero_le _, rfl⟩, 0, rfl⟩
  case round =>
    obtain ⟨⟨k, hk, rfl⟩, q, rfl⟩ := hrel
    by_cases hlt : k < r
    · obtain ⟨wq, hwq⟩ : ∃ wq, wq = w.drewN q := ⟨_, rfl⟩
      have g1 : Rw wq b A r RA RC R := by rw [hwq]; exact h.drewN q
      have g2 : Rw wq b2 A2 r RA2 RC2 R := by rw [hwq]; exact h2.drewN q
      obtain ⟨b1, o1, rfl, hc1⟩ := g1.at_ hlt
      obtain ⟨b3, o3, rfl, hc2⟩ := g2.at_ hlt
      have i1 := Lib.hid (g1.ints k hlt)
      have i2 := Lib.hid (g2.ints k hlt)
      have Hwq := Lib.hid hwq
      have s1 : (k : Int) < (r : Int) := by omega
      have s2 : (0 : Int) ≤ (k : Int) := by omega
      have hl := HR.out k hlt
      have he : eqI (R k) (R k) = true := eqI_refl _
      rw [← hwq]
      clear hwq g1 g2
      go_wp2
      go_quiet ((go_at_call 20; exact Calls.quiet_of (same_any (R k) (R k) _ _ rfl rfl (by omega) (by omega) _ _ _ _ _ _ _ (i1.out.drewN _) (i2.out.drewN _))))
      rw [he]
      go_wp2
      go_roundw
      case rel => exact ⟨⟨k + 1, by omega, by go_num⟩, q + nq, by rw [Hwq.out, World.drewN_drewN]⟩
      case measure => simp [intOf]; omega
    · go_wp2
      go_ret
      exact ⟨rfl, below_drewN (brefl w) q⟩
end Go.Proofs.Ytjdoagkbcooonaa
