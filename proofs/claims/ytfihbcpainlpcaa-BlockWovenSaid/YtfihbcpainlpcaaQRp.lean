/-
  Blocks laid end to end: weave, pack and print of the whole out of the parts (plain).
-/
import Derived.Test.YtfihbcpainlpcaaQPr
namespace Go.Proofs.Ytfihbcpainlpcaa
open Go.RowKit
set_option linter.unusedVariables false
set_option linter.unusedSimpArgs false

def appR (R R2 : Nat → List Int) : Nat → List Int := fun i => R i ++ R2 i
def takeR (R : Nat → List Int) (a : Nat) : Nat → List Int := fun i => (R i).take a
def dropR (R : Nat → List Int) (a : Nat) : Nat → List Int := fun i => (R i).drop a
theorem take_dropR (R : Nat → List Int) (a : Nat) : appR (takeR R a) (dropR R a) = R := funext fun i => List.take_append_drop a (R i)
theorem weave_app_l {R R2 : Nat → List Int} {r n : Nat} (hl : ∀ i, i < r → (R i).length = n) : ∀ j, j ≤ n → weaveN (appR R R2) r j = weaveN R r j
  | 0, _ => rfl
  | j + 1, h => by
    rw [weaveN, weaveN, weave_app_l hl j (by omega)]
    congr 1
    refine List.map_congr_left fun k hk => ?_
    exact ix_app_l (by rw [hl k (by simpa using hk)]; omega)
theorem weave_app {R R2 : Nat → List Int} {r n : Nat} (hl : ∀ i, i < r → (R i).length = n) : ∀ m, weaveN (appR R R2) r (n + m) = weaveN R r n ++ weaveN R2 r m
  | 0 => by rw [Nat.add_zero, weave_app_l hl n (Nat.le_refl _)]; simp [weaveN]
  | m + 1 => by
    rw [← Nat.add_assoc, weaveN, weave_app hl m, weaveN, List.append_assoc]
    congr 2
    refine List.map_congr_left fun k hk => ?_
    have := ix_app_r (a := R k) (b := R2 k) (i := m)
    rw [hl k (by simpa using hk)] at this
    exact this
theorem may_take {bi : Int} {R : Nat → List Int} {r a : Nat} (h : bmayB bi R r = true) (h0 : 1 ≤ a) (ha : a ≤ (R 0).length) : bmayB bi (takeR R a) r = true := by
  obtain ⟨a1, a2, a3, a4, a5, a6, a7⟩ := bmayB_true.1 h
  have hl : (takeR R a 0).length = a := by unfold takeR; rw [List.length_take]; omega
  refine bmayB_true.2 ⟨a1, a2, a3, a4, by omega, by omega, fun i hi => ⟨?_, ?_⟩⟩
  · rw [hl]; unfold takeR; rw [List.length_take, (a7 i hi).1]; omega
  · have := (a7 i hi).2
    simp only [fitRow, List.all_eq_true] at this ⊢
    exact fun x hx => this x (List.mem_of_mem_take hx)
theorem may_drop {bi : Int} {R : Nat → List Int} {r a : Nat} (h : bmayB bi R r = true) (ha : a < (R 0).length) : bmayB bi (dropR R a) r = true := by
  obtain ⟨a1, a2, a3, a4, a5, a6, a7⟩ := bmayB_true.1 h
  have hl : (dropR R a 0).length = (R 0).length - a := by unfold dropR; rw [List.length_drop]
  refine bmayB_true.2 ⟨a1, a2, a3, a4, by omega, by omega, fun i hi => ⟨?_, ?_⟩⟩
  · rw [hl]; unfold dropR; rw [List.length_drop, (a7 i hi).1]
  · have := (a7 i hi).2
    simp only [fitRow, List.all_eq_true] at this ⊢
    exact fun x hx => this x (List.mem_of_mem_drop hx)
theorem may_app {bi : Int} {R R2 : Nat → List Int} {r : Nat} (h : bmayB bi R r = true) (h2 : bmayB bi R2 r = true) (hs : (R 0).length + (R2 0).length ≤ 4096) : bmayB bi (appR R R2) r = true := by
  obtain ⟨a1, a2, a3, a4, a5, a6, a7⟩ := bmayB_true.1 h
  obtain ⟨_, _, _, _, _, _, c7⟩ := bmayB_true.1 h2
  have hl : (appR R R2 0).length = (R 0).length + (R2 0).length := by unfold appR; rw [List.length_append]
  refine bmayB_true.2 ⟨a1, a2, a3, a4, by omega, by omega, fun i hi => ⟨?_, ?_⟩⟩
  · rw [hl]; unfold appR; rw [List.length_append, (a7 i hi).1, (c7 i hi).1]
  · have := (a7 i hi).2
    have k := (c7 i hi).2
    simp only [fitRow, List.all_eq_true] at this k ⊢
    intro x hx
    rcases List.mem_append.1 hx with hx | hx
    · exact this x hx
    · exact k x hx
theorem weave_apps {bi : Int} {R R2 : Nat → List Int} {r : Nat} (h : bmayB bi R r = true) : weaveN (appR R R2) r ((appR R R2 0).length) = weaveN R r (R 0).length ++ weaveN R2 r (R2 0).length := by
  obtain ⟨_, _, _, _, _, _, a7⟩ := bmayB_true.1 h
  have hl : (appR R R2 0).length = (R 0).length + (R2 0).length := by unfold appR; rw [List.length_append]
  rw [hl]; exact weave_app (fun i hi => (a7 i hi).1) _
theorem pack_app {bi : Int} {R R2 : Nat → List Int} {r : Nat} (h : bmayB bi R r = true) (h2 : bmayB bi R2 r = true) (h3 : bmayB bi (appR R R2) r = true) : packB bi (appR R R2) r = ((packB bi R r).1 ++ (packB bi R2 r).1, 0) := by
  rw [pack_may h, pack_may h2, pack_may h3, weave_apps h, packN_append]
theorem pack_zero {bi : Int} {R : Nat → List Int} {r : Nat} (h : bmayB bi R r = true) : (packB bi R r).2 = 0 := by rw [pack_may h]
theorem print_app {bi : Int} {R R2 : Nat → List Int} {r : Nat} (h : bmayB bi R r = true) (h2 : bmayB bi R2 r = true) (h3 : bmayB bi (appR R R2) r = true) : printB bi (appR R R2) r = joinP (printB bi R r) (printB bi R2 r) (packB bi R2 r).1.length := by
  unfold printB
  rw [if_pos (pack_zero h), if_pos (pack_zero h2), if_pos (pack_zero h3), pack_app h h2 h3, printN_join]
theorem printB_lt (bi : Int) (R : Nat → List Int) (r : Nat) : printB bi R r < 2305843009213693951 := by
  unfold printB
  split
  · exact printN_lt _
  · omega
end Go.Proofs.Ytfihbcpainlpcaa
