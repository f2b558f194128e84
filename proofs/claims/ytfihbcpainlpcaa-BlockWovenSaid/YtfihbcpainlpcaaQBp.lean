/-
  BlockBack: the plain laws: a block is parted as it was woven, unpacked as it was packed.
-/
import Derived.Test.YtfihbcpainlpcaaProg
import Derived.Test.YtfihbcpainlpcaaQP
namespace Go.Proofs.Ytfihbcpainlpcaa
open Go.RowKit
set_option linter.unusedVariables false
set_option linter.unusedSimpArgs false

theorem fits_more {x : Int} {w u : Nat} (h : fitsB x (w : Int) = true) (hw : w ≤ u) (hu : u < 32) : fitsB x (u : Int) = true := by
  simp only [fitsB, Bool.and_eq_true, decide_eq_true_eq] at h ⊢
  obtain ⟨⟨h1, h2⟩, h3⟩ := h
  have ho := okb_true.1 h1
  have hp : (2 : Nat) ^ (w - 1) ≤ 2 ^ (u - 1) := Nat.pow_le_pow_right (by omega) (by omega)
  have e1 : ((2 ^ (w - 1) : Nat) : Int) = 2 ^ (w - 1) := by simp
  have e2 : ((2 ^ (u - 1) : Nat) : Int) = 2 ^ (u - 1) := by simp
  have hl : lowI (w : Int) = -(2 ^ (w - 1)) := by rw [lowI, if_pos h1, show ((w : Int) - 1).toNat = w - 1 by omega]
  have hh : highI (w : Int) = 2 ^ (w - 1) - 1 := by rw [highI, if_pos h1, show ((w : Int) - 1).toNat = w - 1 by omega]
  have hou : okb (u : Int) = true := okb_true.2 ⟨by omega, by omega⟩
  have hl2 : lowI (u : Int) = -(2 ^ (u - 1)) := by rw [lowI, if_pos hou, show ((u : Int) - 1).toNat = u - 1 by omega]
  have hh2 : highI (u : Int) = 2 ^ (u - 1) - 1 := by rw [highI, if_pos hou, show ((u : Int) - 1).toNat = u - 1 by omega]
  refine ⟨⟨hou, ?_⟩, ?_⟩ <;> omega
theorem ix_app_l {a b : List Int} {i : Nat} (h : i < a.length) : ix (a ++ b) i = ix a i := by simp [ix, List.getElem?_append_left h]
theorem ix_app_r {a b : List Int} {i : Nat} : ix (a ++ b) (a.length + i) = ix b i := by simp [ix, List.getElem?_append_right]
theorem packX_ix (x : Int) : ∀ s i, i < s → ix (packX x s) i = byteX x i
  | s + 1, i, h => by
    by_cases e : i = s
    · subst e
      have := ix_app_r (a := packX x i) (b := [byteX x i]) (i := 0)
      rw [packX_len, Nat.add_zero] at this
      rw [packX, this]; rfl
    · rw [packX, ix_app_l (by rw [packX_len]; omega)]
      exact packX_ix x s i (by omega)
theorem packN_ix (s : Nat) : ∀ (l : List Int) (j i : Nat), j < l.length → i < s → ix (packN s l) (j * s + i) = byteX (ix l j) i
  | x :: l, 0, i, _, hi => by
    rw [packN, Nat.zero_mul, Nat.zero_add, ix_app_l (by rw [packX_len]; exact hi), packX_ix x s i hi]; rfl
  | x :: l, j + 1, i, hj, hi => by
    have e : (j + 1) * s + i = (packX x s).length + (j * s + i) := by rw [packX_len, Nat.add_mul]; omega
    rw [packN, e, ix_app_r, packN_ix s l j i (by simpa using hj) hi]; rfl
theorem hi8 : highI (8 * ((1 : Nat) : Int)) = 127 ∧ highI (8 * ((2 : Nat) : Int)) = 32767 ∧ highI (8 * ((3 : Nat) : Int)) = 8388607 := by decide +kernel
theorem lo8 : lowI (8 * ((1 : Nat) : Int)) = -128 ∧ lowI (8 * ((2 : Nat) : Int)) = -32768 ∧ lowI (8 * ((3 : Nat) : Int)) = -8388608 := by decide +kernel
/-- the bounds of a sample in whole bytes. -/
theorem fit_bytes {x b : Int} (hb : depth b = true) (h : fitsB x b = true) : lowI (8 * (sizeN b : Int)) ≤ x ∧ x ≤ highI (8 * (sizeN b : Int)) := by
  obtain ⟨b4, b24⟩ := depth_true.1 hb
  obtain ⟨n, rfl⟩ := Int.eq_ofNat_of_zero_le (show 0 ≤ b by omega)
  have hs : n ≤ 8 * sizeN (n : Int) := by unfold sizeN; omega
  have hs2 : 8 * sizeN (n : Int) < 32 := by unfold sizeN; omega
  have := fits_more h hs hs2
  simp only [fitsB, Bool.and_eq_true, decide_eq_true_eq] at this
  obtain ⟨⟨_, h2⟩, h3⟩ := this
  rw [show ((8 * sizeN (n : Int) : Nat) : Int) = 8 * (sizeN (n : Int) : Int) by omega] at h2 h3
  exact ⟨h2, h3⟩
theorem sizes {b : Int} (hb : depth b = true) : sizeN b = 1 ∨ sizeN b = 2 ∨ sizeN b = 3 := by
  have := depth_true.1 hb; unfold sizeN; omega
theorem sgn_byte {s : Nat} (hs : s = 1 ∨ s = 2 ∨ s = 3) {P : List Int} {a : Nat} {x : Int} (h0 : lowI (8 * (s : Int)) ≤ x) (h1 : x ≤ highI (8 * (s : Int))) (hP : ∀ i, i < s → ix P (a + i) = byteX x i) : uval s P a = x := by
  obtain ⟨g1, g2, g3⟩ := hi8
  obtain ⟨l1, l2, l3⟩ := lo8
  rcases hs with rfl | rfl | rfl
  · have e0 := hP 0 (by omega)
    rw [g1] at h1; rw [l1] at h0
    simp only [uval, sgn, valN, g1, e0, byteX]
    simp
    split <;> omega
  · have e0 := hP 0 (by omega)
    have e1 := hP 1 (by omega)
    rw [g2] at h1; rw [l2] at h0
    simp only [uval, sgn, valN, g2, e0, e1, byteX]
    simp
    split <;> omega
  · have e0 := hP 0 (by omega)
    have e1 := hP 1 (by omega)
    have e2 := hP 2 (by omega)
    rw [g3] at h1; rw [l3] at h0
    simp only [uval, sgn, valN, g3, e0, e1, e2, byteX]
    simp
    split <;> omega
theorem unpack_pack {l : List Int} {b : Int} (hb : depth b = true) (hf : allFit l b = true) : unpackR (packN (sizeN b) l) b = (l, 0) := by
  have hs := sizes hb
  have hs0 : 0 < sizeN b := by omega
  have hm : (packN (sizeN b) l).length % sizeN b = 0 := by rw [packN_len, Nat.mul_mod_left]
  have hd : (packN (sizeN b) l).length / sizeN b = l.length := by rw [packN_len, Nat.mul_div_cancel _ hs0]
  have hu : uvals (sizeN b) (packN (sizeN b) l) l.length = l := by
    refine ix_ext _ _ (uvals_len ..) fun j hj => ?_
    rw [uvals_len] at hj
    rw [uvals_ix hj]
    have hx : fitsB (ix l j) b = true := List.all_eq_true.1 hf _ (by rw [ix_eq hj]; exact List.getElem_mem _)
    obtain ⟨f0, f1⟩ := fit_bytes hb hx
    exact sgn_byte hs f0 f1 fun i hi => packN_ix _ _ _ _ hj hi
  rw [unpackR, if_pos hb, if_pos hm, hd, hu, if_pos hf]
theorem weave_ix {R : Nat → List Int} {r k : Nat} (hk : k < r) : ∀ (n i : Nat), i < n → ix (weaveN R r n) (i * r + k) = ix (R k) i
  | n + 1, i, h => by
    rw [weaveN]
    by_cases e : i = n
    · subst e
      have := ix_app_r (a := weaveN R r i) (b := (List.range r).map fun k => ix (R k) i) (i := k)
      rw [weaveN_len] at this
      rw [this, ix_map_range _ _ _ hk]
    · have hlt : i < n := by omega
      have h1 : (i + 1) * r ≤ n * r := Nat.mul_le_mul_right _ (by omega)
      rw [Nat.add_mul, Nat.one_mul] at h1
      rw [ix_app_l (by rw [weaveN_len]; omega)]
      exact weave_ix hk n i hlt
theorem weave_fit {R : Nat → List Int} {r : Nat} {b : Int} {m : Nat} (h : ∀ k, k < r → ∀ i, i < m → fitsB (ix (R k) i) b = true) : ∀ n, n ≤ m → allFit (weaveN R r n) b = true
  | 0, _ => rfl
  | n + 1, hn => by
    unfold allFit
    rw [weaveN, List.all_append]
    have h1 := weave_fit h n (by omega)
    unfold allFit at h1
    rw [h1, Bool.true_and]
    refine List.all_eq_true.2 fun x hx => ?_
    obtain ⟨k, hk, rfl⟩ := List.mem_map.1 hx
    exact h k (by simpa using hk) n (by omega)
theorem may_fit {bits : Int} {R : Nat → List Int} {r : Nat} (h : bmayB bits R r = true) : allFit (weaveN R r (R 0).length) bits = true := by
  obtain ⟨_, _, _, _, _, _, h7⟩ := bmayB_true.1 h
  refine weave_fit (m := (R 0).length) (fun k hk i hi => ?_) _ (Nat.le_refl _)
  have := h7 k hk
  exact fitRow_true.1 this.2 i (by rw [this.1]; exact hi)
theorem part_weave {bits rate : Int} {R : Nat → List Int} {r : Nat} (h : bmayB bits R r = true) (h1 : 1 ≤ rate) (h2 : rate ≤ 1048576) :
    partB (weaveN R r (R 0).length) rate (r : Int) bits = ⟨bits, r, partTo (weaveN R r (R 0).length) r ((R 0).length * r), 0⟩ := by
  obtain ⟨a1, a2, a3, a4, a5, a6, _⟩ := bmayB_true.1 h
  have hp : 0 < (R 0).length * r := Nat.mul_pos (by omega) (by omega)
  rw [partB, if_pos (rightB_true.2 ⟨h1, h2, by omega, by omega, a1, a2⟩), weaveN_len, Int.toNat_natCast, if_neg (by omega), if_neg (by rw [Nat.mul_mod_left]; omega), if_neg (by rw [Nat.mul_div_cancel _ (by omega)]; omega), if_pos (may_fit h)]
theorem part_weave_at {bits : Int} {R : Nat → List Int} {r i : Nat} (h : bmayB bits R r = true) (hi : i < r) : partTo (weaveN R r (R 0).length) r ((R 0).length * r) i = R i := by
  obtain ⟨_, _, _, _, _, _, h7⟩ := bmayB_true.1 h
  have hl := (h7 i hi).1
  have hc : cnt r ((R 0).length * r) i = (R 0).length := by
    unfold cnt
    rw [Nat.mul_div_cancel _ (by omega), Nat.mul_mod_left, if_neg (by omega)]; rfl
  refine ix_ext _ _ (by rw [partTo_len, hc, hl]) fun k hk => ?_
  rw [partTo_len, hc] at hk
  unfold partTo
  rw [hc, ix_map_range _ _ _ hk, weave_ix hi _ _ hk]
theorem pack_may {bits : Int} {R : Nat → List Int} {r : Nat} (h : bmayB bits R r = true) : packB bits R r = (packN (sizeN bits) (weaveN R r (R 0).length), 0) := by
  obtain ⟨a1, a2, _⟩ := bmayB_true.1 h
  rw [packB, if_pos h, packR, if_pos (depth_true.2 ⟨a1, a2⟩), if_pos (may_fit h)]
theorem unpack_may {bits rate : Int} {R : Nat → List Int} {r : Nat} (h : bmayB bits R r = true) (h1 : 1 ≤ rate) (h2 : rate ≤ 1048576) :
    unpackB (packN (sizeN bits) (weaveN R r (R 0).length)) rate (r : Int) bits = ⟨bits, r, partTo (weaveN R r (R 0).length) r ((R 0).length * r), 0⟩ := by
  obtain ⟨a1, a2, a3, a4, a5, a6, _⟩ := bmayB_true.1 h
  rw [unpackB, if_pos (rightB_true.2 ⟨h1, h2, by omega, by omega, a1, a2⟩), unpack_pack (depth_true.2 ⟨a1, a2⟩) (may_fit h), if_pos rfl, part_weave h h1 h2]
theorem pack_byt (s : Nat) : ∀ l : List Int, Byt (packN s l)
  | [] => fun x hx => by simp [packN] at hx
  | x :: l => fun y hy => by
    rw [packN] at hy
    rcases List.mem_append.1 hy with hy | hy
    · have : ∀ s, ∀ y ∈ packX x s, 0 ≤ y ∧ y < 256 := by
        intro s
        induction s with
        | zero => intro y hy; simp [packX] at hy
        | succ s ih =>
          intro y hy
          rw [packX] at hy
          rcases List.mem_append.1 hy with hy | hy
          · exact ih y hy
          · simp at hy; subst hy; unfold byteX; omega
      exact this s y hy
    · exact pack_byt s l y hy
end Go.Proofs.Ytfihbcpainlpcaa
