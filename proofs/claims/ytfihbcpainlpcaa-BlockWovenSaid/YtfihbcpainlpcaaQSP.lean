/-
  A hash of rows over any modulus and base, in plain numbers. No program is named here.
-/
import Derived.Test.YtfihbcpainlpcaaK
namespace Go.Proofs.Ytfihbcpainlpcaa

/-! hash of rows, over any modulus P and base B -/
section
variable {P B : Nat}
theorem mm (x r f : Nat) : ((x % P) * r + f) % P = (x * r + f) % P := by
  rw [← Nat.mod_add_mod, Nat.mod_mul_mod, Nat.mod_add_mod]
theorem mm2 (x r f : Nat) : (x * (r % P) + f) % P = (x * r + f) % P := by
  rw [Nat.mul_comm, mm, Nat.mul_comm]
def stN (P B h c : Nat) : Nat := (h * B + (c + 1)) % P
def prN (P B : Nat) (l : List Nat) (h : Nat) : Nat := l.foldl (stN P B) h
theorem prN_cons (c : Nat) (l : List Nat) (h : Nat) : prN P B (c :: l) h = prN P B l (stN P B h c) := rfl
theorem prN_snoc (l : List Nat) (c : Nat) : prN P B (l ++ [c]) 0 = (prN P B l 0 * B + (c + 1)) % P := by simp [prN, stN]
theorem prN_lt (hP : 0 < P) (l : List Nat) : ∀ h, h < P → prN P B l h < P := by
  induction l with
  | nil => intro h hh; exact hh
  | cons c l ih => intro h _; exact ih _ (Nat.mod_lt _ hP)
theorem prN_from (hP : 0 < P) (l : List Nat) : ∀ h, h < P → prN P B l h = (h * B ^ l.length + prN P B l 0) % P := by
  induction l with
  | nil => intro h hh; simp [prN]; rw [Nat.mod_eq_of_lt hh]
  | cons c l ih =>
    intro h hh
    have e1 := ih (stN P B h c) (Nat.mod_lt _ hP)
    have e2 := ih (stN P B 0 c) (Nat.mod_lt _ hP)
    rw [prN_cons, prN_cons, e1, e2, Nat.add_mod_mod, List.length_cons]
    unfold stN
    rw [mm, Nat.add_comm (h * B ^ (l.length + 1)), Nat.add_assoc, mm]
    have e : (h * B + (c + 1)) * B ^ l.length + prN P B l 0 = (0 * B + (c + 1)) * B ^ l.length + (prN P B l 0 + h * B ^ (l.length + 1)) := by
      rw [Nat.pow_succ]; generalize B ^ l.length = t; grind
    rw [e]
theorem prN_append (hP : 0 < P) (a b : List Nat) : prN P B (a ++ b) 0 = (prN P B a 0 * B ^ b.length + prN P B b 0) % P := by
  rw [show prN P B (a ++ b) 0 = prN P B b (prN P B a 0) by simp [prN]]
  exact prN_from hP b _ (prN_lt hP a 0 hP)
def pwN (P B n : Nat) : Nat := B ^ n % P
theorem pwN_lt (hP : 0 < P) (n : Nat) : pwN P B n < P := Nat.mod_lt _ hP
theorem pwN_add (m n : Nat) : pwN P B (m + n) = (pwN P B m * pwN P B n + 0) % P := by
  unfold pwN; rw [mm, mm2, Nat.pow_add]; rfl
def joinN (P B a b n : Nat) : Nat := (a * pwN P B n + b) % P
theorem joinN_eq (a b n : Nat) : joinN P B a b n = (a * B ^ n + b) % P := mm2 _ _ _
theorem joinN_lt (hP : 0 < P) (a b n : Nat) : joinN P B a b n < P := Nat.mod_lt _ hP
theorem prN_join (hP : 0 < P) (a b : List Nat) : prN P B (a ++ b) 0 = joinN P B (prN P B a 0) (prN P B b 0) b.length := by rw [joinN_eq, prN_append hP]
theorem joinN_joinN (a b c m n : Nat) : joinN P B (joinN P B a b m) c n = joinN P B a (joinN P B b c n) (m + n) := by
  simp only [joinN_eq]
  rw [mm, Nat.add_mod_mod, Nat.pow_add]
  congr 1; grind
/-- cancel a factor that has an inverse, modulo P. -/
theorem cancel {x y k I : Nat} (hI : B * I % P = 1 % P) (h : (x * B ^ k) % P = (y * B ^ k) % P) : x % P = y % P := by
  have hk : (B ^ k * I ^ k) % P = 1 % P := by
    rw [← Nat.mul_pow, Nat.pow_mod, hI, ← Nat.pow_mod, Nat.one_pow]
  have h2 : (x * B ^ k * I ^ k) % P = (y * B ^ k * I ^ k) % P := by
    rw [Nat.mul_mod, h, ← Nat.mul_mod]
  rw [Nat.mul_assoc, Nat.mul_assoc, Nat.mul_mod, hk, Nat.mul_mod y, hk, ← Nat.mul_mod, ← Nat.mul_mod, Nat.mul_one, Nat.mul_one] at h2
  exact h2
theorem add_cancel {x y z : Nat} (h : (x + z) % P = (y + z) % P) : x % P = y % P := by
  have h1 : ((x : Int) + z) % P = ((y : Int) + z) % P := by exact_mod_cast h
  have h2 := Int.emod_eq_emod_iff_emod_sub_eq_zero.1 h1
  have h3 : ((x : Int) - y) % P = 0 := by rw [← h2]; congr 1; omega
  exact_mod_cast Int.emod_eq_emod_iff_emod_sub_eq_zero.2 h3
/-- one byte turned shows. -/
theorem prN_one (hP : 512 < P) {I : Nat} (hI : B * I % P = 1 % P) (a b : List Nat) (x y : Nat) (hx : x < 256) (hy : y < 256) (h : x ≠ y) : prN P B (a ++ x :: b) 0 ≠ prN P B (a ++ y :: b) 0 := by
  intro e
  have e1 : ∀ x, prN P B (a ++ x :: b) 0 = (stN P B (prN P B a 0) x * B ^ b.length + prN P B b 0) % P := fun x => by
    rw [show a ++ x :: b = (a ++ [x]) ++ b by simp, prN_append (by omega)]
    rw [show prN P B (a ++ [x]) 0 = stN P B (prN P B a 0) x by simp [prN]]
  rw [e1, e1] at e
  have e2 := cancel hI (add_cancel e)
  unfold stN at e2
  rw [Nat.mod_mod, Nat.mod_mod] at e2
  have e3 := add_cancel (x := x + 1) (y := y + 1) (z := prN P B a 0 * B) (P := P) (by rw [Nat.add_comm, e2, Nat.add_comm])
  rw [Nat.mod_eq_of_lt (by omega), Nat.mod_eq_of_lt (by omega)] at e3
  omega
/-- one round of Power. -/
def powTo (P p s n : Nat) : Nat := (p * s ^ n) % P
theorem powTo_half (p s n : Nat) : powTo P (if n % 2 = 1 then (p * s + 0) % P else p) ((s * s + 0) % P) (n / 2) = powTo P p s n := by
  unfold powTo
  rw [Nat.mul_mod, ← Nat.pow_mod, ← Nat.mul_mod]
  have hn : n = 2 * (n / 2) + n % 2 := by omega
  have hs : (s * s + 0) ^ (n / 2) = s ^ (2 * (n / 2)) := by rw [Nat.add_zero, ← Nat.pow_two, ← Nat.pow_mul]
  rw [hs]
  by_cases h : n % 2 = 1
  · rw [if_pos h, Nat.mod_mul_mod]
    have e : (p * s + 0) * s ^ (2 * (n / 2)) = p * s ^ n := by
      generalize hk : n / 2 = k at *
      rw [h] at hn
      rw [hn, Nat.pow_succ]; grind
    rw [e]
  · rw [if_neg h]
    have : n % 2 = 0 := by omega
    rw [this, Nat.add_zero] at hn
    rw [← hn]
theorem powTo_zero (p s : Nat) (h : p < P) : powTo P p s 0 = p := by simp [powTo, Nat.mod_eq_of_lt h]
theorem powTo_start (n : Nat) : powTo P 1 B n = pwN P B n := by simp [powTo, pwN]
end
theorem base_inv : 1000003 * 1229363429801019168 % 2305843009213693951 = 1 % 2305843009213693951 := by decide
end Go.Proofs.Ytfihbcpainlpcaa
