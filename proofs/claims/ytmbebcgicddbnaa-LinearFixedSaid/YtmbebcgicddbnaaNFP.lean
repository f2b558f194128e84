/-
  Package linear: plain functions: the fixed predictors are linear ones. No program is named.
-/
import Derived.Test.YtmbebcgicddbnaaNP
import Derived.Test.YtmbebcgicddbnaaNFD
namespace Go.Proofs.Ytmbebcgicddbnaa
open Go.RowKit

theorem w64_al (a b : Int) : wrap64 (wrap64 a + b) = wrap64 (a + b) := by unfold wrap64; omega
theorem w64_ar (a b : Int) : wrap64 (a + wrap64 b) = wrap64 (a + b) := by unfold wrap64; omega
theorem w64_sl (a b : Int) : wrap64 (wrap64 a - b) = wrap64 (a - b) := by unfold wrap64; omega
theorem w64_sr (a b : Int) : wrap64 (a - wrap64 b) = wrap64 (a - b) := by unfold wrap64; omega

theorem diff_1 {l : List Int} {i : Nat} (h : i < l.length - 1) : ix (diffN l 1) i = wrap64 (ix l (i + 1) - ix l i) := rdiff_ix h
theorem diff_2 {l : List Int} {i : Nat} (h : i < l.length - 2) : ix (diffN l 2) i = wrap64 (ix l (i + 2) - 2 * ix l (i + 1) + ix l i) := by
  rw [diffN, rdiff_ix (by rw [diffN_len]; omega), diff_1 (by omega), diff_1 (by omega), w64_sl, w64_sr]; congr 1; show ix l (i + 2) - _ - _ = _; omega
theorem diff_3 {l : List Int} {i : Nat} (h : i < l.length - 3) : ix (diffN l 3) i = wrap64 (ix l (i + 3) - 3 * ix l (i + 2) + 3 * ix l (i + 1) - ix l i) := by
  rw [diffN, rdiff_ix (by rw [diffN_len]; omega), diff_2 (by omega), diff_2 (by omega), w64_sl, w64_sr]; congr 1; show ix l (i + 3) - 2 * ix l (i + 2) + _ - _ = _; omega
theorem diff_4 {l : List Int} {i : Nat} (h : i < l.length - 4) : ix (diffN l 4) i = wrap64 (ix l (i + 4) - 4 * ix l (i + 3) + 6 * ix l (i + 2) - 4 * ix l (i + 1) + ix l i) := by
  rw [diffN, rdiff_ix (by rw [diffN_len]; omega), diff_3 (by omega), diff_3 (by omega), w64_sl, w64_sr]; congr 1; show ix l (i + 4) - 3 * ix l (i + 3) + 3 * ix l (i + 2) - _ - _ = _; omega

def pasc : Nat → List Int
  | 1 => [1]
  | 2 => [2, -1]
  | 3 => [3, -3, 1]
  | 4 => [4, -6, 4, -1]
  | _ => []
theorem rest_1 (l : List Int) : restN l [1] 0 = diffN l 1 := by
  refine ix_ext _ _ (by rw [restN_len, diffN_len]; rfl) fun j hj => ?_
  rw [restN_len] at hj
  have hj' : j < l.length - 1 := hj
  have hlt : (l.take (1 + j)).length = 1 + j := by rw [List.length_take]; omega
  rw [restN_ix hj, diff_1 hj']
  simp only [List.length_cons, List.length_nil, Nat.zero_add]
  have e : predP (l.take (1 + j)) [1] 0 = wrap64 (ix l j) := by
    unfold predP
    rw [hlt, show min [(1 : Int)].length (1 + j) = 1 from by (simp; try omega)]
    simp only [sumTo, hlt, Nat.pow_zero, Int.pow_zero, Int.ediv_one]
    rw [ix_take (by omega), show 1 + j - 1 - 0 = j by omega, w64_ar]
    congr 1; show 0 + 1 * _ = _; omega
  rw [e, w64_sr, Nat.add_comm]
theorem rest_2 (l : List Int) : restN l [2, -1] 0 = diffN l 2 := by
  refine ix_ext _ _ (by rw [restN_len, diffN_len]; rfl) fun j hj => ?_
  rw [restN_len] at hj
  have hj' : j < l.length - 2 := hj
  have hlt : (l.take (2 + j)).length = 2 + j := by rw [List.length_take]; omega
  rw [restN_ix hj, diff_2 hj']
  simp only [List.length_cons, List.length_nil, Nat.zero_add]
  have e : predP (l.take (2 + j)) [2, -1] 0 = wrap64 (2 * ix l (j + 1) - ix l j) := by
    unfold predP
    rw [hlt, show min [(2 : Int), -1].length (2 + j) = 2 from by (simp; try omega)]
    simp only [sumTo, hlt, Nat.pow_zero, Int.pow_zero, Int.ediv_one]
    rw [ix_take (by omega), ix_take (by omega), show 2 + j - 1 - 0 = j + 1 by omega, show 2 + j - 1 - 1 = j by omega]
    simp only [w64_ar, w64_al]
    congr 1; show 0 + 2 * _ + -1 * _ = _; omega
  show wrap64 (ix l (2 + j) - predP (l.take (2 + j)) [2, -1] 0) = _
  rw [e, w64_sr, Nat.add_comm 2 j]
  congr 1; omega
theorem rest_3 (l : List Int) : restN l [3, -3, 1] 0 = diffN l 3 := by
  refine ix_ext _ _ (by rw [restN_len, diffN_len]; rfl) fun j hj => ?_
  rw [restN_len] at hj
  have hj' : j < l.length - 3 := hj
  have hlt : (l.take (3 + j)).length = 3 + j := by rw [List.length_take]; omega
  rw [restN_ix hj, diff_3 hj']
  have e : predP (l.take (3 + j)) [3, -3, 1] 0 = wrap64 (3 * ix l (j + 2) - 3 * ix l (j + 1) + ix l j) := by
    unfold predP
    rw [hlt, show min [(3 : Int), -3, 1].length (3 + j) = 3 from by (simp; try omega)]
    simp only [sumTo, hlt, Nat.pow_zero, Int.pow_zero, Int.ediv_one]
    rw [ix_take (by omega), ix_take (by omega), ix_take (by omega), show 3 + j - 1 - 0 = j + 2 by omega, show 3 + j - 1 - 1 = j + 1 by omega, show 3 + j - 1 - 2 = j by omega]
    simp only [w64_ar, w64_al]
    congr 1; show 0 + 3 * _ + -3 * _ + 1 * _ = _; omega
  show wrap64 (ix l (3 + j) - predP (l.take (3 + j)) [3, -3, 1] 0) = _
  rw [e, w64_sr, Nat.add_comm 3 j]
  congr 1; omega
theorem rest_4 (l : List Int) : restN l [4, -6, 4, -1] 0 = diffN l 4 := by
  refine ix_ext _ _ (by rw [restN_len, diffN_len]; rfl) fun j hj => ?_
  rw [restN_len] at hj
  have hj' : j < l.length - 4 := hj
  have hlt : (l.take (4 + j)).length = 4 + j := by rw [List.length_take]; omega
  rw [restN_ix hj, diff_4 hj']
  have e : predP (l.take (4 + j)) [4, -6, 4, -1] 0 = wrap64 (4 * ix l (j + 3) - 6 * ix l (j + 2) + 4 * ix l (j + 1) - ix l j) := by
    unfold predP
    rw [hlt, show min [(4 : Int), -6, 4, -1].length (4 + j) = 4 from by (simp; try omega)]
    simp only [sumTo, hlt, Nat.pow_zero, Int.pow_zero, Int.ediv_one]
    rw [ix_take (by omega), ix_take (by omega), ix_take (by omega), ix_take (by omega), show 4 + j - 1 - 0 = j + 3 by omega, show 4 + j - 1 - 1 = j + 2 by omega, show 4 + j - 1 - 2 = j + 1 by omega, show 4 + j - 1 - 3 = j by omega]
    simp only [w64_ar, w64_al]
    congr 1; show 0 + 4 * _ + -6 * _ + 4 * _ + -1 * _ = _; omega
  show wrap64 (ix l (4 + j) - predP (l.take (4 + j)) [4, -6, 4, -1] 0) = _
  rw [e, w64_sr, Nat.add_comm 4 j]
  congr 1; omega
theorem lin_fixed (l : List Int) (k : Nat) (h1 : 1 ≤ k) (h4 : k ≤ 4) : lrestP l (pasc k) 0 = restP l (k : Int) ∧ (pasc k).length = k := by
  have key : ∀ cs : List Int, mayN cs 0 = true → cs.length = k → restN l cs 0 = diffN l k → lrestP l cs 0 = restP l (k : Int) := fun cs hm hc hd => by
    have ho : okRest l cs 0 = okOrder l (k : Int) := by
      rw [Bool.eq_iff_iff, okRest_true, okOrder_true]; exact ⟨fun ⟨_, h⟩ => ⟨by omega, by omega, by omega⟩, fun ⟨_, _, h⟩ => ⟨hm, by omega⟩⟩
    unfold lrestP restP
    rw [ho, show (0 : Int).toNat = 0 from rfl, hd, Int.toNat_natCast]
  rcases k with _ | _ | _ | _ | _ | k
  · omega
  · exact ⟨key [1] (by decide) rfl (rest_1 l), rfl⟩
  · exact ⟨key [2, -1] (by decide) rfl (rest_2 l), rfl⟩
  · exact ⟨key [3, -3, 1] (by decide) rfl (rest_3 l), rfl⟩
  · exact ⟨key [4, -6, 4, -1] (by decide) rfl (rest_4 l), rfl⟩
  · omega
end Go.Proofs.Ytmbebcgicddbnaa
