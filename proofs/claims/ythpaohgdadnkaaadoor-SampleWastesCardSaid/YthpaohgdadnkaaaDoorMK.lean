/-
  sample: what the or of a row says of its numbers.
-/
import Derived.Test.YthpaohgdadnkaaaDoorProg
import Derived.Test.YthpaohgdadnkaaaDoorMJ
namespace Go.Proofs.YthpaohgdadnkaaaDoor
open Go.RowKit

theorem bv_mod (a : Int) {k : Nat} (hk : k ≤ 64) : ((BitVec.ofInt 64 a).toNat : Int) % ((2 ^ k : Nat) : Int) = a % ((2 ^ k : Nat) : Int) := by
  have h2 : (((a % ((2 ^ 64 : Nat) : Int)).toNat : Nat) : Int) = a % ((2 ^ 64 : Nat) : Int) := Int.toNat_of_nonneg (Int.emod_nonneg _ (by omega))
  rw [BitVec.toNat_ofInt, h2, Int.emod_emod_of_dvd]
  exact Int.natCast_dvd_natCast.2 (Nat.pow_dvd_pow 2 hk)
theorem wrap_mod (z : Int) {k : Nat} (hk : k ≤ 64) : IntKind.i64.wrap z % ((2 ^ k : Nat) : Int) = z % ((2 ^ k : Nat) : Int) := by
  have hd : ((2 ^ k : Nat) : Int) ∣ ((2 ^ 64 : Nat) : Int) := Int.natCast_dvd_natCast.2 (Nat.pow_dvd_pow 2 hk)
  have h1 : IntKind.i64.wrap z % ((2 ^ 64 : Nat) : Int) = z % ((2 ^ 64 : Nat) : Int) := by
    rw [IntKind.wrap_i64]
    omega
  rw [← Int.emod_emod_of_dvd (IntKind.i64.wrap z) hd, h1, Int.emod_emod_of_dvd z hd]
theorem or_dvd (a x : Int) {k : Nat} (hk : k ≤ 64) : bits .or .i64 a x % ((2 ^ k : Nat) : Int) = 0 ↔ a % ((2 ^ k : Nat) : Int) = 0 ∧ x % ((2 ^ k : Nat) : Int) = 0 := by
  have e : bits .or .i64 a x = IntKind.i64.wrap ((BitVec.ofInt 64 a ||| BitVec.ofInt 64 x).toNat : Int) := rfl
  rw [e, wrap_mod _ hk, ← bv_mod a hk, ← bv_mod x hk, BitVec.toNat_or]
  generalize (BitVec.ofInt 64 a).toNat = u
  generalize (BitVec.ofInt 64 x).toNat = v
  rw [← Int.natCast_emod, ← Int.natCast_emod, ← Int.natCast_emod, Nat.or_mod_two_pow]
  have := @Nat.or_eq_zero_iff (u % 2 ^ k) (v % 2 ^ k)
  omega
theorem orTo_dvd (l : List Int) {k : Nat} (hk : k ≤ 64) : orTo l % ((2 ^ k : Nat) : Int) = 0 ↔ ∀ x ∈ l, x % ((2 ^ k : Nat) : Int) = 0 := by
  have : ∀ (l : List Int) (a : Int), (l.foldl (fun a x => bits .or .i64 a x) a) % ((2 ^ k : Nat) : Int) = 0 ↔ a % ((2 ^ k : Nat) : Int) = 0 ∧ ∀ x ∈ l, x % ((2 ^ k : Nat) : Int) = 0 := by
    intro l
    induction l with
    | nil => intro a; simp
    | cons x l ih =>
      intro a
      rw [List.foldl_cons, ih, or_dvd a x hk]
      simp only [List.mem_cons, forall_eq_or_imp]
      constructor
      · rintro ⟨⟨h1, h2⟩, h3⟩; exact ⟨h1, h2, h3⟩
      · rintro ⟨h1, h2, h3⟩; exact ⟨⟨h1, h2⟩, h3⟩
  have h := this l 0
  rw [show orTo l = l.foldl (fun a x => bits .or .i64 a x) 0 from rfl, h]
  simp
/-- the or of wide numbers is 0 only where all are. -/
theorem orTo_zero {l : List Int} (hw : ∀ x ∈ l, wideB x = true) : orTo l = 0 ↔ ∀ x ∈ l, x = 0 := by
  constructor
  · intro h x hx
    have h1 := (orTo_dvd l (k := 32) (by omega)).1 (by rw [h]; rfl) x hx
    have h2 := wideB_true.1 (hw x hx)
    omega
  · intro h
    have h1 := (orTo_dvd l (k := 64) (by omega)).2 fun x hx => by rw [h x hx]; rfl
    have h2 := or_range l
    omega
/-- how often 2 divides a number that is not 0. -/
theorem waste_dvd {a : Int} (h0 : a ≠ 0) (hr : -9223372036854775808 ≤ a ∧ a < 9223372036854775808) {k : Nat} (hk : k ≤ 30) : (k : Int) ≤ wasteI a ↔ a % ((2 ^ k : Nat) : Int) = 0 := by
  have hX0 : uN a ≠ 0 := by unfold uN; omega
  have hX1 : uN a < 2 ^ 64 := by unfold uN; omega
  obtain ⟨m, hm, hkt⟩ := Lib.ctzFrom_spec 64 (uN a) (by omega) hX1
  have e : Lib.ctz 64 (uN a) = Lib.ctzFrom 64 (uN a) := by simp [Lib.ctz, hX0]
  rw [← e] at hm hkt
  obtain ⟨t, ht⟩ : ∃ t, t = Lib.ctz 64 (uN a) := ⟨_, rfl⟩
  have hwt : wasteI a = if (30 : Int) < (t : Int) then 30 else (t : Int) := by rw [wasteI, if_neg h0, ht]
  rw [← ht] at hm hkt
  have ha : a % ((2 ^ k : Nat) : Int) = ((uN a % 2 ^ k : Nat) : Int) := by
    have h64 : ((uN a : Nat) : Int) = a % ((2 ^ 64 : Nat) : Int) := by unfold uN; omega
    rw [Int.natCast_emod, h64, Int.emod_emod_of_dvd]
    exact Int.natCast_dvd_natCast.2 (Nat.pow_dvd_pow 2 (by omega))
  have hmain : uN a % 2 ^ k = 0 ↔ k ≤ t := by
    constructor
    · intro h
      apply Classical.byContradiction
      intro hlt
      obtain ⟨d, rfl⟩ : ∃ d, k = t + (d + 1) := ⟨k - t - 1, by omega⟩
      obtain ⟨y, hy⟩ := Nat.dvd_of_mod_eq_zero h
      rw [hm, Nat.pow_add, Nat.mul_assoc] at hy
      have := Nat.eq_of_mul_eq_mul_left (Nat.two_pow_pos t) hy
      rw [Nat.pow_succ, Nat.mul_assoc, Nat.mul_comm (2 ^ d), Nat.mul_assoc] at this
      omega
    · intro h
      obtain ⟨d, rfl⟩ : ∃ d, t = k + d := ⟨t - k, by omega⟩
      rw [hm, Nat.pow_add, Nat.mul_assoc]
      exact Nat.mul_mod_right _ _
  rw [ha, hwt]
  constructor
  · intro h
    have : k ≤ t := by split at h <;> omega
    have := hmain.2 this
    omega
  · intro h
    have : k ≤ t := hmain.1 (by omega)
    split <;> omega
end Go.Proofs.YthpaohgdadnkaaaDoor
