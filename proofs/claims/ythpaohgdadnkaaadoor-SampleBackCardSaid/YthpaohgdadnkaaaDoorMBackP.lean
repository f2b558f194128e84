/-
  SampleBack: the plain laws: what is packed is unpacked as it was, and bytes that are unpacked are packed as they were.
-/
import Derived.Test.YthpaohgdadnkaaaDoorProg
import Derived.Test.YthpaohgdadnkaaaDoorMWide
namespace Go.Proofs.YthpaohgdadnkaaaDoor
open Go.RowKit

theorem ix_app_l {a b : List Int} {i : Nat} (h : i < a.length) : ix (a ++ b) i = ix a i := by simp [ix, List.getElem?_append_left h]
theorem ix_app_r {a b : List Int} {i : Nat} : ix (a ++ b) (a.length + i) = ix b i := by simp [ix, List.getElem?_append_right]
theorem packX_ix (x : Int) : ∀ s i, i < s → ix (packX x s) i = byteX x i
  | s + 1, i, h => by
    by_cases e : i = s
    · subst e
      have := ix_app_r (a := packX x i) (b := [byteX x i]) (i := 0)
      rw [packX_len, Nat.add_zero] at this
      rw [packX, this]; rfl
    · rw [packX, ix_app_l (by rw [packX_len]; omega)]
      exact packX_ix x s i (by omega)
theorem packN_ix (s : Nat) : ∀ (l : List Int) (j i : Nat), j < l.length → i < s → ix (packN s l) (j * s + i) = byteX (ix l j) i
  | x :: l, 0, i, _, hi => by
    rw [packN, Nat.zero_mul, Nat.zero_add, ix_app_l (by rw [packX_len]; exact hi), packX_ix x s i hi]; rfl
  | x :: l, j + 1, i, hj, hi => by
    have e : (j + 1) * s + i = (packX x s).length + (j * s + i) := by rw [packX_len, Nat.add_mul]; omega
    rw [packN, e, ix_app_r, packN_ix s l j i (by simpa using hj) hi]; rfl
theorem hi8 : highI (8 * ((1 : Nat) : Int)) = 127 ∧ highI (8 * ((2 : Nat) : Int)) = 32767 ∧ highI (8 * ((3 : Nat) : Int)) = 8388607 := by decide +kernel
theorem lo8 : lowI (8 * ((1 : Nat) : Int)) = -128 ∧ lowI (8 * ((2 : Nat) : Int)) = -32768 ∧ lowI (8 * ((3 : Nat) : Int)) = -8388608 := by decide +kernel
/-- the bounds of a sample in whole bytes. -/
theorem fit_bytes {x b : Int} (hb : depth b = true) (h : fitsB x b = true) : lowI (8 * (sizeN b : Int)) ≤ x ∧ x ≤ highI (8 * (sizeN b : Int)) := by
  obtain ⟨b4, b24⟩ := depth_true.1 hb
  obtain ⟨n, rfl⟩ := Int.eq_ofNat_of_zero_le (show 0 ≤ b by omega)
  have hs : n ≤ 8 * sizeN (n : Int) := by unfold sizeN; omega
  have hs2 : 8 * sizeN (n : Int) < 32 := by unfold sizeN; omega
  have := fits_more h hs hs2
  simp only [fitsB, Bool.and_eq_true, decide_eq_true_eq] at this
  obtain ⟨⟨_, h2⟩, h3⟩ := this
  rw [show ((8 * sizeN (n : Int) : Nat) : Int) = 8 * (sizeN (n : Int) : Int) by omega] at h2 h3
  exact ⟨h2, h3⟩
theorem sizes {b : Int} (hb : depth b = true) : sizeN b = 1 ∨ sizeN b = 2 ∨ sizeN b = 3 := by
  have := depth_true.1 hb; unfold sizeN; omega
theorem sgn_byte {s : Nat} (hs : s = 1 ∨ s = 2 ∨ s = 3) {P : List Int} {a : Nat} {x : Int} (h0 : lowI (8 * (s : Int)) ≤ x) (h1 : x ≤ highI (8 * (s : Int))) (hP : ∀ i, i < s → ix P (a + i) = byteX x i) : uval s P a = x := by
  obtain ⟨g1, g2, g3⟩ := hi8
  obtain ⟨l1, l2, l3⟩ := lo8
  rcases hs with rfl | rfl | rfl
  · have e0 := hP 0 (by omega)
    rw [g1] at h1; rw [l1] at h0
    simp only [uval, sgn, valN, g1, e0, byteX]
    simp
    split <;> omega
  · have e0 := hP 0 (by omega)
    have e1 := hP 1 (by omega)
    rw [g2] at h1; rw [l2] at h0
    simp only [uval, sgn, valN, g2, e0, e1, byteX]
    simp
    split <;> omega
  · have e0 := hP 0 (by omega)
    have e1 := hP 1 (by omega)
    have e2 := hP 2 (by omega)
    rw [g3] at h1; rw [l3] at h0
    simp only [uval, sgn, valN, g3, e0, e1, e2, byteX]
    simp
    split <;> omega
theorem byte_sgn {s : Nat} (hs : s = 1 ∨ s = 2 ∨ s = 3) {P : List Int} {a : Nat} (hP : ∀ i, i < s → 0 ≤ ix P (a + i) ∧ ix P (a + i) < 256) : ∀ i, i < s → byteX (uval s P a) i = ix P (a + i) := by
  obtain ⟨g1, g2, g3⟩ := hi8
  rcases hs with rfl | rfl | rfl
  · have e0 := hP 0 (by omega)
    intro i hi
    obtain rfl : i = 0 := by omega
    simp only [uval, sgn, valN, g1, byteX]
    simp at *
    split <;> omega
  · have e0 := hP 0 (by omega)
    have e1 := hP 1 (by omega)
    intro i hi
    have : i = 0 ∨ i = 1 := by omega
    rcases this with rfl | rfl <;>
    · simp only [uval, sgn, valN, g2, byteX]
      simp at *
      split <;> omega
  · have e0 := hP 0 (by omega)
    have e1 := hP 1 (by omega)
    have e2 := hP 2 (by omega)
    intro i hi
    have : i = 0 ∨ i = 1 ∨ i = 2 := by omega
    rcases this with rfl | rfl | rfl <;>
    · simp only [uval, sgn, valN, g3, byteX]
      simp at *
      split <;> omega
theorem unpack_pack {l : List Int} {b : Int} (hb : depth b = true) (hf : allFit l b = true) : unpackR (packN (sizeN b) l) b = (l, 0) := by
  have hs := sizes hb
  have hs0 : 0 < sizeN b := by omega
  have hm : (packN (sizeN b) l).length % sizeN b = 0 := by rw [packN_len, Nat.mul_mod_left]
  have hd : (packN (sizeN b) l).length / sizeN b = l.length := by rw [packN_len, Nat.mul_div_cancel _ hs0]
  have hu : uvals (sizeN b) (packN (sizeN b) l) l.length = l := by
    refine ix_ext _ _ (uvals_len ..) fun j hj => ?_
    rw [uvals_len] at hj
    rw [uvals_ix hj]
    have hx : fitsB (ix l j) b = true := List.all_eq_true.1 hf _ (by rw [ix_eq hj]; exact List.getElem_mem _)
    obtain ⟨f0, f1⟩ := fit_bytes hb hx
    exact sgn_byte hs f0 f1 fun i hi => packN_ix _ _ _ _ hj hi
  rw [unpackR, if_pos hb, if_pos hm, hd, hu, if_pos hf]
theorem pack_unpack {P l : List Int} {b : Int} (hb : depth b = true) (hP : Byt P) (h : unpackR P b = (l, 0)) : packR l b = (P, 0) ∧ l.length ≤ P.length := by
  have hs := sizes hb
  have hs0 : 0 < sizeN b := by omega
  rw [unpackR, if_pos hb] at h
  split at h
  · rename_i hm
    split at h
    · rename_i hf
      have hl : uvals (sizeN b) P (P.length / sizeN b) = l := by injection h
      have hlen : P.length = P.length / sizeN b * sizeN b := by have := Nat.div_add_mod P.length (sizeN b); rw [hm] at this; rw [Nat.mul_comm]; omega
      rw [← hl]
      refine ⟨?_, by rw [uvals_len]; exact Nat.div_le_self _ _⟩
      rw [packR, if_pos hb, if_pos hf]
      congr 1
      refine ix_ext _ _ (by rw [packN_len, uvals_len, ← hlen]) fun p hp => ?_
      rw [packN_len, uvals_len] at hp
      have hq : p / sizeN b < P.length / sizeN b := by rw [Nat.div_lt_iff_lt_mul hs0]; exact hp
      have hr : p % sizeN b < sizeN b := Nat.mod_lt _ hs0
      have he : p = p / sizeN b * sizeN b + p % sizeN b := by have := Nat.div_add_mod p (sizeN b); rw [Nat.mul_comm] at this; omega
      have hle : (p / sizeN b + 1) * sizeN b ≤ P.length / sizeN b * sizeN b := Nat.mul_le_mul_right _ (by omega)
      rw [Nat.add_mul] at hle
      conv => lhs; rw [he]
      rw [packN_ix _ _ _ _ (by rw [uvals_len]; exact hq) hr, uvals_ix hq, byte_sgn hs (fun i hi => hP.ix_ (by omega)) _ hr, ← he]
    · cases h
  · cases h
end Go.Proofs.YthpaohgdadnkaaaDoor
