/-
  Laws of the differences, in plain lists: closed forms; Back undoes Rest and Rest undoes Back.
-/
import Derived.Test.YtbigocjodclbhaaFP
namespace Go.Proofs.Ytbigocjodclbhaa
open Go.RowKit

/-- the difference of order o at place i. -/
def cf (o : Nat) (l : List Int) (i : Nat) : Int :=
  match o with
  | 0 => ix l i
  | 1 => ix l (i + 1) - ix l i
  | 2 => ix l (i + 2) - 2 * ix l (i + 1) + ix l i
  | 3 => ix l (i + 3) - 3 * ix l (i + 2) + 3 * ix l (i + 1) - ix l i
  | 4 => ix l (i + 4) - 4 * ix l (i + 3) + 6 * ix l (i + 2) - 4 * ix l (i + 1) + ix l i
  | _ => 0
/-- every number of l is at most 2^31 away from 0. -/
def Small (l : List Int) : Prop := ∀ k, k < l.length → -2147483648 ≤ ix l k ∧ ix l k ≤ 2147483648
theorem small_wide {l : List Int} (h : allWideB l = true) : Small l := fun k hk => by have := wideB_true.1 (allWideB_true.1 h k hk); omega
theorem diffN_cf {l : List Int} (h : Small l) : ∀ {o : Nat}, o ≤ 4 → ∀ {i : Nat}, i + o < l.length → ix (diffN l o) i = cf o l i := by
  have h0 : ∀ {i}, i + 0 < l.length → ix (diffN l 0) i = cf 0 l i := fun _ => rfl
  have h1 : ∀ {i}, i + 1 < l.length → ix (diffN l 1) i = cf 1 l i := by
    intro i hi
    rw [diffN, rdiff_ix (by rw [diffN_len]; omega), h0 (by omega), h0 (by omega)]
    have a := h i (by omega); have b := h (i + 1) (by omega)
    simp only [cf]
    rw [IntWalk.wrap64_in _ (by omega)]
  have h2 : ∀ {i}, i + 2 < l.length → ix (diffN l 2) i = cf 2 l i := by
    intro i hi
    rw [diffN, rdiff_ix (by rw [diffN_len]; omega), h1 (by omega), h1 (by omega)]
    have a := h i (by omega); have b := h (i + 1) (by omega); have c := h (i + 2) (by omega)
    simp only [cf]
    rw [show i + 1 + 1 = i + 2 from rfl]
    rw [IntWalk.wrap64_in _ (by omega)]; omega
  have h3 : ∀ {i}, i + 3 < l.length → ix (diffN l 3) i = cf 3 l i := by
    intro i hi
    rw [diffN, rdiff_ix (by rw [diffN_len]; omega), h2 (by omega), h2 (by omega)]
    have a := h i (by omega); have b := h (i + 1) (by omega); have c := h (i + 2) (by omega); have d := h (i + 3) (by omega)
    simp only [cf]
    rw [show i + 1 + 2 = i + 3 from rfl, show i + 1 + 1 = i + 2 from rfl]
    rw [IntWalk.wrap64_in _ (by omega)]; omega
  have h4 : ∀ {i}, i + 4 < l.length → ix (diffN l 4) i = cf 4 l i := by
    intro i hi
    rw [diffN, rdiff_ix (by rw [diffN_len]; omega), h3 (by omega), h3 (by omega)]
    have a := h i (by omega); have b := h (i + 1) (by omega); have c := h (i + 2) (by omega); have d := h (i + 3) (by omega); have e := h (i + 4) (by omega)
    simp only [cf]
    rw [show i + 1 + 3 = i + 4 from rfl, show i + 1 + 2 = i + 3 from rfl, show i + 1 + 1 = i + 2 from rfl]
    rw [IntWalk.wrap64_in _ (by omega)]; omega
  intro o ho i hi
  rcases o with _ | _ | _ | _ | _ | o
  · exact h0 hi
  · exact h1 hi
  · exact h2 hi
  · exact h3 hi
  · exact h4 hi
  · omega

theorem pk_ix {out : List Int} {n j : Nat} (h : out.length = n) : pk out j = ix out (n - j) := by unfold pk; rw [h]
/-- one sample more: what is left at the last place, and the guess. -/
theorem cf_guess {out : List Int} {o k : Nat} (ho : o ≤ 4) (hl : out.length = o + k) (y : Int) : cf o (out ++ [y]) k = y - guessF out o := by
  have hy : ix (out ++ [y]) (o + k) = y := by rw [ix_append_right (by omega), hl, Nat.sub_self]; rfl
  rcases o with _ | _ | _ | _ | _ | o
  · simp only [cf, guessF]; rw [Nat.zero_add] at hy; rw [hy]; omega
  · simp only [cf, guessF, pk_ix hl]
    rw [show k + 1 = 0 + 1 + k from by omega, hy, ix_append_left (by omega), show 0 + 1 + k - 1 = k from by omega]
  · simp only [cf, guessF, pk_ix hl]
    rw [show k + 2 = 0 + 1 + 1 + k from by omega, hy, ix_append_left (by omega), ix_append_left (by omega), show 0 + 1 + 1 + k - 1 = k + 1 from by omega, show 0 + 1 + 1 + k - 2 = k from by omega]
    omega
  · simp only [cf, guessF, pk_ix hl]
    rw [show k + 3 = 0 + 1 + 1 + 1 + k from by omega, hy, ix_append_left (by omega), ix_append_left (by omega), ix_append_left (by omega), show 0 + 1 + 1 + 1 + k - 1 = k + 2 from by omega, show 0 + 1 + 1 + 1 + k - 2 = k + 1 from by omega, show 0 + 1 + 1 + 1 + k - 3 = k from by omega]
    omega
  · simp only [cf, guessF, pk_ix hl]
    rw [show k + 4 = 0 + 1 + 1 + 1 + 1 + k from by omega, hy, ix_append_left (by omega), ix_append_left (by omega), ix_append_left (by omega), ix_append_left (by omega), show 0 + 1 + 1 + 1 + 1 + k - 1 = k + 3 from by omega, show 0 + 1 + 1 + 1 + 1 + k - 2 = k + 2 from by omega, show 0 + 1 + 1 + 1 + 1 + k - 3 = k + 1 from by omega, show 0 + 1 + 1 + 1 + 1 + k - 4 = k from by omega]
    omega
  · omega
theorem cf_left {out t : List Int} {o i : Nat} (ho : o ≤ 4) (hi : i + o < out.length) : cf o (out ++ t) i = cf o out i := by
  rcases o with _ | _ | _ | _ | _ | o
  · simp only [cf]; rw [ix_append_left (by omega)]
  · simp only [cf]; rw [ix_append_left (by omega), ix_append_left (by omega)]
  · simp only [cf]; rw [ix_append_left (by omega), ix_append_left (by omega), ix_append_left (by omega)]
  · simp only [cf]; rw [ix_append_left (by omega), ix_append_left (by omega), ix_append_left (by omega), ix_append_left (by omega)]
  · simp only [cf]; rw [ix_append_left (by omega), ix_append_left (by omega), ix_append_left (by omega), ix_append_left (by omega), ix_append_left (by omega)]
  · omega

/-- Back of the first samples and of what is left is the row. -/
theorem back_rest {l : List Int} {o : Nat} (ho : o ≤ 4) (hol : o ≤ l.length) (hw : allWideB l = true) : backTo o (l.take o) (diffN l o) = some l := by
  have key : ∀ n k, o + k + n = l.length → backTo o (l.take (o + k)) ((diffN l o).drop k) = some l := by
    intro n
    induction n with
    | zero =>
      intro k hk
      rw [List.drop_of_length_le (by rw [diffN_len]; omega), backTo, List.take_of_length_le (by omega)]
    | succ n ih =>
      intro k hk
      have hlt : (l.take (o + k)).length = o + k := by rw [List.length_take]; omega
      rw [drop_ix (by rw [diffN_len]; omega), backTo]
      have hs : l.take (o + k) ++ [ix l (o + k)] = l.take (o + (k + 1)) := (take_succ_ix (by omega)).symm
      have hc : ix (diffN l o) k + guessF (l.take (o + k)) o = ix l (o + k) := by
        rw [diffN_cf (small_wide hw) ho (by omega)]
        have h1 := cf_guess ho hlt (ix l (o + k))
        rw [hs] at h1
        have h2 : cf o l k = cf o (l.take (o + (k + 1))) k := by
          have := cf_left (out := l.take (o + (k + 1))) (t := l.drop (o + (k + 1))) (o := o) (i := k) ho (by rw [List.length_take]; omega)
          rwa [List.take_append_drop] at this
        rw [h2, h1]; omega
      rw [hc, if_pos (allWideB_true.1 hw _ (by omega)), hs]
      exact ih (k + 1) (by omega)
  have := key (l.length - o) 0 (by omega)
  simpa using this

/-- Rest of what Back has made is what it was made of. -/
theorem rest_back {o : Nat} (ho : o ≤ 4) : ∀ {rest out l : List Int} {done : List Int}, allWideB out = true → out.length = o + done.length → diffN out o = done → backTo o out rest = some l →
    allWideB l = true ∧ diffN l o = done ++ rest
  | [], out, l, done, hw, hl, hd, hb => by
    simp [backTo] at hb
    subst hb
    simp [hw, hd]
  | x :: r, out, l, done, hw, hl, hd, hb => by
    rw [backTo] at hb
    split at hb
    · rename_i hy
      have hw' := allWide_snoc hw hy
      have hd' : diffN (out ++ [x + guessF out o]) o = done ++ [x] := by
        refine ix_ext _ _ (by rw [diffN_len]; simp; omega) fun i hi => ?_
        rw [diffN_len] at hi
        simp at hi
        rw [diffN_cf (small_wide hw') ho (by simp; omega)]
        by_cases hik : i < done.length
        · rw [cf_left ho (by omega), ix_append_left hik, ← diffN_cf (small_wide hw) ho (by omega), hd]
        · have e : i = done.length := by omega
          subst e
          rw [cf_guess ho hl, ix_append_right (Nat.le_refl _), Nat.sub_self]
          show _ = x
          omega
      have := rest_back ho hw' (by simp; omega) hd' hb
      rw [List.append_assoc] at this
      exact this
    · cases hb

/-! ### The best order -/
theorem bestL_inv (l : List Int) (hn : ∀ o : Nat, 0 ≤ weightP l o) (k : Nat) :
    (bestLTo l k = (0, -1) ∧ ∀ j : Nat, j < k → (restP l j).2 ≠ 0) ∨
    ∃ b : Nat, b < k ∧ bestLTo l k = (↑b, weightP l b) ∧ (restP l b).2 = 0 ∧ ∀ j : Nat, j < k → (restP l j).2 = 0 → weightP l b ≤ weightP l j ∧ (j < b → weightP l b < weightP l j) := by
  induction k with
  | zero => exact .inl ⟨rfl, fun j hj => absurd hj (by omega)⟩
  | succ k ih =>
    rw [bestLTo]
    unfold bestLS
    rcases ih with ⟨h1, h2⟩ | ⟨b, hb, h1, h2, h3⟩
    · rw [h1]
      by_cases h : (restP l k).2 = 0
      · right
        refine ⟨k, by omega, by simp [h], h, fun j hj hj0 => ?_⟩
        by_cases e : j = k
        · subst e; exact ⟨Int.le_refl _, fun h => absurd h (by omega)⟩
        · exact absurd hj0 (h2 j (by omega))
      · left
        refine ⟨by simp [h], fun j hj => ?_⟩
        by_cases e : j = k
        · subst e; exact h
        · exact h2 j (by omega)
    · right
      rw [h1]
      have hw := hn b
      by_cases h : (restP l k).2 = 0
      · by_cases h4 : weightP l k < weightP l b
        · refine ⟨k, by omega, by simp [h, h4], h, fun j hj hj0 => ?_⟩
          by_cases e : j = k
          · subst e; exact ⟨Int.le_refl _, fun h => absurd h (by omega)⟩
          · have := h3 j (by omega) hj0
            exact ⟨by omega, fun _ => by omega⟩
        · refine ⟨b, by omega, by simp [h, h4]; omega, h2, fun j hj hj0 => ?_⟩
          by_cases e : j = k
          · subst e; exact ⟨by omega, fun h => absurd h (by omega)⟩
          · exact h3 j (by omega) hj0
      · refine ⟨b, by omega, by simp [h], h2, fun j hj hj0 => ?_⟩
        by_cases e : j = k
        · subst e; exact absurd hj0 h
        · exact h3 j (by omega) hj0
end Go.Proofs.Ytbigocjodclbhaa
