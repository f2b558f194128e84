/-
  Package linear: plain functions: what coefficients guess, what they leave of a row, the row of what they leave. No program is named.
-/
import Derived.Test.YtmbebcgicddbnaaK
import Derived.Test.YtmbebcgicddbnaaR2W
namespace Go.Proofs.Ytmbebcgicddbnaa
open Go.RowKit

theorem w64_b (a : Int) : -9223372036854775808 ≤ wrap64 a ∧ wrap64 a ≤ 9223372036854775807 := by unfold wrap64; omega
theorem w64_w (a : Int) : wrap64 (wrap64 a) = wrap64 a := IntWalk.wrap64_in _ (w64_b a)
theorem w64_back {p x : Int} (h : -9223372036854775808 ≤ x ∧ x ≤ 9223372036854775807) : wrap64 (p + wrap64 (x - p)) = x := by unfold wrap64; omega
theorem w64_rest {p r : Int} (h : -9223372036854775808 ≤ r ∧ r ≤ 9223372036854775807) : wrap64 (wrap64 (p + r) - p) = r := by unfold wrap64; omega

def coefB (c : Int) : Bool := decide (-32768 ≤ c) && decide (c < 32768)
theorem coefB_true {c : Int} : coefB c = true ↔ -32768 ≤ c ∧ c < 32768 := by simp [coefB]
def allCoefB (cs : List Int) : Bool := cs.all coefB
theorem allCoefB_true {xs : List Int} : allCoefB xs = true ↔ ∀ k, k < xs.length → coefB (ix xs k) = true := by
  simp only [allCoefB, List.all_eq_true]
  exact ⟨fun h k hk => h _ (ix_mem hk), fun h x hx => by obtain ⟨k, hk, rfl⟩ := mem_ix hx; exact h k hk⟩
theorem allCoefB_false {xs : List Int} {k : Nat} (hk : k < xs.length) (h : coefB (ix xs k) = false) : allCoefB xs = false := by
  cases e : allCoefB xs with
  | false => rfl
  | true => rw [allCoefB_true.1 e k hk] at h; cases h
def mayN (cs : List Int) (sh : Int) : Bool := decide (1 ≤ cs.length) && decide (cs.length ≤ 32) && decide (0 ≤ sh) && decide (sh ≤ 15) && allCoefB cs
theorem mayN_true {cs : List Int} {sh : Int} : mayN cs sh = true ↔ 1 ≤ cs.length ∧ cs.length ≤ 32 ∧ 0 ≤ sh ∧ sh ≤ 15 ∧ allCoefB cs = true := by
  simp [mayN, and_assoc]
theorem mayN_no {cs : List Int} {sh : Int} (h : ¬ (1 ≤ cs.length ∧ cs.length ≤ 32 ∧ 0 ≤ sh ∧ sh ≤ 15 ∧ allCoefB cs = true)) : mayN cs sh = false := by
  cases e : mayN cs sh with
  | false => rfl
  | true => exact absurd (mayN_true.1 e) h
theorem mayN_last {cs : List Int} {sh : Int} (h1 : 1 ≤ cs.length) (h2 : cs.length ≤ 32) (h3 : 0 ≤ sh) (h4 : sh ≤ 15) : mayN cs sh = allCoefB cs := by
  simp [mayN, h1, h2, h3, h4]

/-- the first k products, the nearest sample first. -/
def sumTo (past cs : List Int) : Nat → Int
  | 0 => 0
  | k + 1 => wrap64 (sumTo past cs k + wrap64 (ix cs k * ix past (past.length - 1 - k)))
theorem sumTo_succ (past cs : List Int) (k : Nat) : sumTo past cs (k + 1) = wrap64 (sumTo past cs k + wrap64 (ix cs k * ix past (past.length - 1 - k))) := rfl
def predP (past cs : List Int) (s : Nat) : Int := sumTo past cs (min cs.length past.length) / 2 ^ s
theorem sumTo_drop {past cs : List Int} {d : Nat} : ∀ {k : Nat}, k ≤ past.length - d → sumTo (past.drop d) cs k = sumTo past cs k
  | 0, _ => rfl
  | k + 1, h => by
    rw [sumTo, sumTo, sumTo_drop (k := k) (by omega), ix_drop, List.length_drop, show d + (past.length - d - 1 - k) = past.length - 1 - k by omega]
theorem predP_drop (past cs : List Int) (s : Nat) : predP (past.drop (past.length - cs.length)) cs s = predP past cs s := by
  unfold predP
  rw [List.length_drop, show min cs.length (past.length - (past.length - cs.length)) = min cs.length past.length by omega, sumTo_drop (by omega)]
theorem sumTo_b (past cs : List Int) (k : Nat) : -9223372036854775808 ≤ sumTo past cs k ∧ sumTo past cs k ≤ 9223372036854775807 := by
  cases k with
  | zero => simp [sumTo]
  | succ k => exact w64_b _

def restN (l cs : List Int) (s : Nat) : List Int := (List.range (l.length - cs.length)).map fun j => wrap64 (ix l (cs.length + j) - predP (l.take (cs.length + j)) cs s)
theorem restN_len (l cs : List Int) (s : Nat) : (restN l cs s).length = l.length - cs.length := by simp [restN]
theorem restN_ix {l cs : List Int} {s j : Nat} (h : j < l.length - cs.length) : ix (restN l cs s) j = wrap64 (ix l (cs.length + j) - predP (l.take (cs.length + j)) cs s) := by
  unfold restN; rw [ix_map_range _ _ _ h]
def okRest (l cs : List Int) (sh : Int) : Bool := mayN cs sh && decide (cs.length ≤ l.length)
def lrestP (l cs : List Int) (sh : Int) : List Int × Int :=
  if okRest l cs sh = false then ([], 1) else if allWideB l = false then ([], 6) else if allWideB (restN l cs sh.toNat) = false then ([], 6) else (restN l cs sh.toNat, 0)
theorem lrestP_bad {l cs : List Int} {sh : Int} (h : okRest l cs sh = false) : lrestP l cs sh = ([], 1) := by unfold lrestP; rw [if_pos h]
theorem lrestP_far {l cs : List Int} {sh : Int} (h : okRest l cs sh = true) (h2 : allWideB l = false) : lrestP l cs sh = ([], 6) := by unfold lrestP; rw [if_neg (by rw [h]; simp), if_pos h2]
theorem lrestP_out {l cs : List Int} {sh : Int} (h : okRest l cs sh = true) (h2 : allWideB l = true) (h3 : allWideB (restN l cs sh.toNat) = false) : lrestP l cs sh = ([], 6) := by
  unfold lrestP; rw [if_neg (by rw [h]; simp), if_neg (by rw [h2]; simp), if_pos h3]
theorem lrestP_ok {l cs : List Int} {sh : Int} (h : okRest l cs sh = true) (h2 : allWideB l = true) (h3 : allWideB (restN l cs sh.toNat) = true) : lrestP l cs sh = (restN l cs sh.toNat, 0) := by
  unfold lrestP; rw [if_neg (by rw [h]; simp), if_neg (by rw [h2]; simp), if_neg (by rw [h3]; simp)]
theorem okRest_true {l cs : List Int} {sh : Int} : okRest l cs sh = true ↔ mayN cs sh = true ∧ cs.length ≤ l.length := by simp [okRest]
theorem lrestP_len {l cs : List Int} {sh : Int} : (lrestP l cs sh).1.length ≤ l.length := by
  unfold lrestP
  (repeat' split) <;> simp [restN_len]
theorem lrestP_okc {l cs : List Int} {sh : Int} (h : (lrestP l cs sh).2 = 0) : okRest l cs sh = true ∧ allWideB l = true ∧ allWideB (restN l cs sh.toNat) = true ∧ lrestP l cs sh = (restN l cs sh.toNat, 0) := by
  unfold lrestP at h ⊢
  by_cases h1 : okRest l cs sh = false
  · simp [h1] at h
  · by_cases h2 : allWideB l = false
    · simp [h1, h2] at h
    · by_cases h3 : allWideB (restN l cs sh.toNat) = false
      · simp [h1, h2, h3] at h
      · simp at h1 h2 h3
        simp [h1, h2, h3]

def backN (cs : List Int) (s : Nat) (out : List Int) : List Int → Option (List Int)
  | [] => some out
  | r :: rs => if wideB (wrap64 (predP out cs s + r)) = true then backN cs s (out ++ [wrap64 (predP out cs s + r)]) rs else none
theorem backN_cons (cs : List Int) (s : Nat) (out : List Int) (r : Int) (rs : List Int) : backN cs s out (r :: rs) = if wideB (wrap64 (predP out cs s + r)) = true then backN cs s (out ++ [wrap64 (predP out cs s + r)]) rs else none := rfl
def okBack (warm cs : List Int) (sh : Int) : Bool := mayN cs sh && decide (warm.length = cs.length)
theorem okBack_true {warm cs : List Int} {sh : Int} : okBack warm cs sh = true ↔ mayN cs sh = true ∧ warm.length = cs.length := by simp [okBack]
def lbackP (warm rest cs : List Int) (sh : Int) : List Int × Int :=
  if okBack warm cs sh = false then ([], 1) else if allWideB warm = false then ([], 6) else if allWideB rest = false then ([], 6) else
  match backN cs sh.toNat warm rest with
  | none => ([], 6)
  | some l => (l, 0)
section
variable {warm rest cs l : List Int} {sh : Int}
theorem lbackP_bad (h : okBack warm cs sh = false) : lbackP warm rest cs sh = ([], 1) := by unfold lbackP; rw [if_pos h]
theorem lbackP_w1 (h : okBack warm cs sh = true) (h2 : allWideB warm = false) : lbackP warm rest cs sh = ([], 6) := by unfold lbackP; rw [if_neg (by rw [h]; simp), if_pos h2]
theorem lbackP_w2 (h : okBack warm cs sh = true) (h2 : allWideB warm = true) (h3 : allWideB rest = false) : lbackP warm rest cs sh = ([], 6) := by
  unfold lbackP; rw [if_neg (by rw [h]; simp), if_neg (by rw [h2]; simp), if_pos h3]
theorem lbackP_none (h : okBack warm cs sh = true) (h2 : allWideB warm = true) (h3 : allWideB rest = true) (h4 : backN cs sh.toNat warm rest = none) : lbackP warm rest cs sh = ([], 6) := by
  unfold lbackP; rw [if_neg (by rw [h]; simp), if_neg (by rw [h2]; simp), if_neg (by rw [h3]; simp), h4]
theorem lbackP_some (h : okBack warm cs sh = true) (h2 : allWideB warm = true) (h3 : allWideB rest = true) (h4 : backN cs sh.toNat warm rest = some l) : lbackP warm rest cs sh = (l, 0) := by
  unfold lbackP; rw [if_neg (by rw [h]; simp), if_neg (by rw [h2]; simp), if_neg (by rw [h3]; simp), h4]
theorem lbackP_okc (h : (lbackP warm rest cs sh).2 = 0) : okBack warm cs sh = true ∧ allWideB warm = true ∧ allWideB rest = true ∧ backN cs sh.toNat warm rest = some (lbackP warm rest cs sh).1 := by
  unfold lbackP at h ⊢
  by_cases h1 : okBack warm cs sh = false
  · simp [h1] at h
  · by_cases h2 : allWideB warm = false
    · simp [h1, h2] at h
    · by_cases h3 : allWideB rest = false
      · simp [h1, h2, h3] at h
      · simp at h1 h2 h3
        cases h4 : backN cs sh.toNat warm rest with
        | none => simp [h1, h2, h3, h4] at h
        | some m => simp [h1, h2, h3]
theorem lback_err (h : (lbackP warm rest cs sh).2 ≠ 0) : (lbackP warm rest cs sh).1 = [] := by
  unfold lbackP at h ⊢
  (repeat' split) <;> simp_all
end
theorem backN_len {cs : List Int} {s : Nat} : ∀ {rest out l : List Int}, backN cs s out rest = some l → l.length = out.length + rest.length
  | [], out, l, h => by simp [backN] at h; subst h; simp
  | x :: r, out, l, h => by
    rw [backN] at h
    split at h
    · have := backN_len h; simp at this ⊢; omega
    · cases h
theorem lbackP_len {warm rest cs : List Int} {sh : Int} : (lbackP warm rest cs sh).1.length ≤ warm.length + rest.length := by
  unfold lbackP
  (repeat' split) <;> simp
  rename_i l h
  have := backN_len h
  omega
theorem drop_ix {xs : List Int} {k : Nat} (h : k < xs.length) : xs.drop k = ix xs k :: xs.drop (k + 1) := by
  rw [List.drop_eq_getElem_cons h, ix_eq h]
theorem allWide_snoc {xs : List Int} {x : Int} (h : allWideB xs = true) (hx : wideB x = true) : allWideB (xs ++ [x]) = true := by
  simp [allWideB] at h ⊢
  exact ⟨h, hx⟩
theorem ints_take {k : IntKind} {w : World} {B : Nat} {A : Option Addr} {l : List Int} (h : Ints k w B A l) (n : Nat) : Ints k w B A (l.take n) := fun hn => by
  obtain ⟨b, off, e, hb, hc⟩ := h (by rw [List.length_map] at hn ⊢; rw [List.length_take] at hn; omega)
  refine ⟨b, off, e, hb, fun i u hu => hc i u ?_⟩
  rw [List.map_take, List.getElem?_take] at hu
  split at hu
  · exact hu
  · cases hu

/-! ### Back of Rest, Rest of Back -/
theorem back_rest {l cs : List Int} {s : Nat} (hw : allWideB l = true) (hc : cs.length ≤ l.length) : ∀ {d j : Nat}, j + d = l.length - cs.length → backN cs s (l.take (cs.length + j)) ((restN l cs s).drop j) = some l
  | 0, j, h => by
    rw [List.drop_of_length_le (by rw [restN_len]; omega), List.take_of_length_le (by omega)]; rfl
  | d + 1, j, h => by
    have hx := wideB_true.1 (allWideB_true.1 hw (cs.length + j) (by omega))
    have e : wrap64 (predP (l.take (cs.length + j)) cs s + ix (restN l cs s) j) = ix l (cs.length + j) := by
      rw [restN_ix (by omega)]; exact w64_back (by omega)
    rw [drop_ix (by rw [restN_len]; omega), backN_cons, e, if_pos (wideB_true.2 hx), ← take_succ_ix (by omega)]
    exact back_rest hw hc (d := d) (j := j + 1) (by omega)
theorem rest_back {cs : List Int} {s : Nat} : ∀ {rest out l : List Int}, allWideB out = true → allWideB rest = true → backN cs s out rest = some l →
    allWideB l = true ∧ l.take out.length = out ∧ ∀ j, j < rest.length → wrap64 (ix l (out.length + j) - predP (l.take (out.length + j)) cs s) = ix rest j
  | [], out, l, hw, _, h => by
    simp [backN] at h; subst h; exact ⟨hw, by simp, fun j hj => by simp at hj⟩
  | r :: rs, out, l, hw, hr, h => by
    rw [backN_cons] at h
    split at h
    · rename_i hx
      have hrw : wideB r = true := by simp [allWideB] at hr; exact hr.1
      have hrs : allWideB rs = true := by simp [allWideB] at hr ⊢; exact hr.2
      obtain ⟨h1, h2, h3⟩ := rest_back (allWide_snoc hw hx) hrs h
      have hlen := backN_len h
      have ho : l.take out.length = out := by
        have := congrArg (List.take out.length) h2
        rw [List.take_take, List.length_append, Nat.min_eq_left (by omega), List.take_left] at this
        exact this
      have hi : ix l out.length = wrap64 (predP out cs s + r) := by
        have := congrArg (fun z => ix z out.length) h2
        rw [ix_take (by simp), ix_append_right (Nat.le_refl _)] at this
        rw [this]; simp [ix]
      refine ⟨h1, ho, fun j hj => ?_⟩
      cases j with
      | zero =>
        rw [Nat.add_zero, ho, hi]
        have := wideB_true.1 hrw
        rw [w64_rest (by omega)]; rfl
      | succ j =>
        have := h3 j (by simp at hj; omega)
        rw [List.length_append, show out.length + [wrap64 (predP out cs s + r)].length + j = out.length + (j + 1) by simp; omega] at this
        rw [this]; rfl
    · cases h
theorem round_back {warm rest cs : List Int} {sh : Int} (h : (lbackP warm rest cs sh).2 = 0) : lrestP (lbackP warm rest cs sh).1 cs sh = (rest, 0) ∧ (lbackP warm rest cs sh).1.length = warm.length + rest.length := by
  obtain ⟨h1, h2, h3, h4⟩ := lbackP_okc h
  obtain ⟨m1, m2⟩ := okBack_true.1 h1
  have hlen := backN_len h4
  obtain ⟨a1, _, a3⟩ := rest_back h2 h3 h4
  have e : restN (lbackP warm rest cs sh).1 cs sh.toNat = rest := by
    refine ix_ext _ _ (by rw [restN_len]; omega) fun j hj => ?_
    rw [restN_len] at hj
    rw [restN_ix hj, ← m2]
    exact a3 j (by omega)
  refine ⟨?_, hlen⟩
  rw [lrestP_ok (okRest_true.2 ⟨m1, by omega⟩) a1 (by rw [e]; exact h3), e]
theorem round_rest {l cs : List Int} {sh : Int} (h : (lrestP l cs sh).2 = 0) : cs.length ≤ l.length ∧ (lrestP l cs sh).1.length = l.length - cs.length ∧ lbackP (l.take cs.length) (lrestP l cs sh).1 cs sh = (l, 0) := by
  obtain ⟨h1, h2, h3, h4⟩ := lrestP_okc h
  obtain ⟨m1, m2⟩ := okRest_true.1 h1
  have hlt : (l.take cs.length).length = cs.length := by rw [List.length_take]; omega
  rw [h4]
  refine ⟨m2, restN_len _ _ _, lbackP_some (okBack_true.2 ⟨m1, hlt⟩) (allWideB_true.2 fun k hk => ?_) h3 ?_⟩
  · rw [ix_take (by omega)]
    exact allWideB_true.1 h2 k (by omega)
  · have := back_rest (s := sh.toNat) h2 m2 (d := l.length - cs.length) (j := 0) (by omega)
    simpa using this
end Go.Proofs.Ytmbebcgicddbnaa
