/-
  sample: Pack.
-/
import Derived.Test.YtfihbcpainlpcaaProg
import Derived.Test.YtfihbcpainlpcaaMA
import Derived.Test.YtfihbcpainlpcaaAB
namespace Go.Proofs.Ytfihbcpainlpcaa
open Go.RowKit
set_option linter.unusedVariables false
set_option linter.unusedSimpArgs false

def byteX (x : Int) (i : Nat) : Int := x / 2 ^ (8 * i) % 256
def packX (x : Int) : Nat → List Int
  | 0 => []
  | s + 1 => packX x s ++ [byteX x s]
def packN (s : Nat) : List Int → List Int
  | [] => []
  | x :: l => packX x s ++ packN s l
def packTo (s : Nat) (l : List Int) (k : Nat) : List Int := packN s (l.take k)
theorem packX_len (x : Int) (s : Nat) : (packX x s).length = s := by
  induction s with
  | zero => rfl
  | succ s ih => simp [packX, ih]
theorem packN_append (s : Nat) (a b : List Int) : packN s (a ++ b) = packN s a ++ packN s b := by
  induction a with
  | nil => rfl
  | cons x a ih => simp [packN, ih]
theorem packN_len (s : Nat) (l : List Int) : (packN s l).length = l.length * s := by
  induction l with
  | nil => simp [packN]
  | cons x l ih => simp only [packN, List.length_append, packX_len, ih, List.length_cons, Nat.add_mul]; omega
theorem packTo_step {s : Nat} {l : List Int} {k : Nat} (h : k < l.length) : packTo s l (k + 1) = packTo s l k ++ packX (ix l k) s := by
  unfold packTo
  rw [List.take_add_one, List.getElem?_eq_getElem h, ← ix_eq h, packN_append]
  simp [packN]
theorem packTo_len {s : Nat} {l : List Int} {k : Nat} (h : k ≤ l.length) : (packTo s l k).length = k * s := by
  rw [packTo, packN_len, List.length_take, Nat.min_eq_left h]
def sizeN (b : Int) : Nat := ((b + 7) / 8).toNat
def allFit (l : List Int) (b : Int) : Bool := l.all fun x => fitsB x b
def depth (b : Int) : Bool := decide (4 ≤ b) && decide (b ≤ 24)
theorem depth_true {b : Int} : depth b = true ↔ 4 ≤ b ∧ b ≤ 24 := by simp [depth]
theorem depth_no {b : Int} (h : ¬ (4 ≤ b ∧ b ≤ 24)) : depth b = false := by
  cases e : depth b with
  | false => rfl
  | true => exact absurd (depth_true.1 e) h
def packR (l : List Int) (b : Int) : List Int × Int := if depth b = true then (if allFit l b = true then (packN (sizeN b) l, 0) else ([], 6)) else ([], 1)
def BytesQ (r : List Int × Int) (w : World) (e : Ending) (w' : World) : Prop := ∃ A c, e = .returned (.tuple #[.slice A r.1.length c, .int .i64 r.2]) ∧ OwnB w' w.heap.size A r.1.length c r.1 ∧ Below w.heap.size w w'
theorem bytes_none {x : Int} {w w' : World} (h : Below w.heap.size w w') : BytesQ ([], x) w (.returned (.tuple #[.slice none 0 0, .int .i64 x])) w' := ⟨none, 0, rfl, OwnB.nil _ _, h⟩
theorem and255 (n : Int) : bits .and .i64 n 255 = n % 256 := i64_mask n 8 (by omega) 255 (by decide)
theorem fit_upto {l : List Int} {b : Int} {k : Nat} (hk : k < l.length) (h : fitsB (ix l k) b = false) : allFit l b = false := by
  cases e : allFit l b with
  | false => rfl
  | true =>
    have := List.all_eq_true.1 e (ix l k) (by rw [ix_eq hk]; exact List.getElem_mem _)
    rw [h] at this; cases this

set_option maxHeartbeats 1000000 in
theorem packL_any (l : List Int) (n : Nat) (hn : n = l.length) (hm : n ≤ 20000) (b : Int) (A : Option Addr) (c : Nat) (w : World) (ha : Ints .i64 w w.heap.size A l) :
    Calls Try.prog 46 #[.slice A n c, .int .i64 b] w (BytesQ (packR l b) w) := by
  by_cases h1 : b < 4
  · have hn := Lib.hid (show packR l b = ([], 1) by rw [packR, depth_no (by omega)]; rfl)
    go_enter Try.func46, Try.ntmps46
    go_wp2
    go_ret2
    rw [hn.out]
    exact bytes_none (brefl w)
  by_cases h2 : 24 < b
  · have hn := Lib.hid (show packR l b = ([], 1) by rw [packR, depth_no (by omega)]; rfl)
    go_enter Try.func46, Try.ntmps46
    go_wp2
    go_ret2
    rw [hn.out]
    exact bytes_none (brefl w)
  obtain ⟨s, hs⟩ : ∃ s : Nat, (b + 7) / 8 = (s : Int) := ⟨((b + 7) / 8).toNat, by omega⟩
  have s1 : (1 : Int) ≤ (s : Int) := by omega
  have s3 : (s : Int) ≤ 3 := by omega
  have hd : Hid (packR l b = if allFit l b = true then (packN s l, 0) else ([], 6)) := by
    show _ = _
    rw [packR, if_pos (depth_true.2 ⟨by omega, by omega⟩), show sizeN b = s by unfold sizeN; omega]
  have Hn := Lib.hid hn
  clear hn
  go_enter Try.func46, Try.ntmps46
  go_wp2
  clear hs
  go_loopw [7, 22] (fun v i wr => (∃ (k : Nat) (A' : Option Addr) (c' : Nat), k ≤ n ∧ i = .int .i64 k ∧ v = .slice A' (k * s) c' ∧ OwnB wr w.heap.size A' (k * s) c' (packTo s l k) ∧ ∀ j, j < k → fitsB (ix l j) b = true) ∧ Below w.heap.size w wr) (fun _ i _ => n - (intOf i).toNat)
  case atStart => exact ⟨⟨0, none, 0, Nat.zero_le _, rfl, by simp, by simpa [packTo, packN] using OwnB.nil _ _, fun j h => absurd h (by omega)⟩, brefl w⟩
  case round =>
    obtain ⟨⟨k, A2, c2, hk, rfl, rfl, ho, hj⟩, hb⟩ := hrel
    obtain ⟨wo, rfl⟩ : ∃ wo : World, wo = wr := ⟨_, rfl⟩
    have ho' := Lib.hid ho
    have hb' := Lib.hid hb
    have Hj := Lib.hid hj
    clear ho hb hj
    by_cases hlt : k < n
    · have hkl : k < l.length := by have := Hn.out; omega
      obtain ⟨b1, o1, rfl, hc1⟩ := (ha.below hb'.out).at_ hkl
      cases hf : fitsB (ix l k) b with
      | false =>
        have hr : Hid (packR l b = ([], 6)) := by show _ = _; rw [hd.out, fit_upto hkl hf]; rfl
        go_wp2_with ((with_reducible refine (fitsL_any _ _ _).mono ?_); rintro e w' ⟨rfl, rfl⟩)
        go_ret2
        rw [hr.out]
        exact bytes_none hb'.out
      | true =>
        go_wp2_with ((with_reducible refine (fitsL_any _ _ _).mono ?_); rintro e w' ⟨rfl, rfl⟩)
        have Hf := Lib.hid hf
        have Hf0 := Lib.hid hf
        clear hf hc1
        obtain ⟨x, hx⟩ : ∃ x, x = ix l k := ⟨_, rfl⟩
        rw [← hx]
        have hst := Lib.hid (packTo_step (s := s) hkl)
        rw [← hx] at hst Hf
        clear hx
        have hks : k * s ≤ 60000 := by
          have : k * s ≤ 20000 * 3 := Nat.mul_le_mul (by omega) (by omega)
          omega
        obtain ⟨m0, hm0⟩ : ∃ m, m = k * s := ⟨_, rfl⟩
        have Hm0 := Lib.hid hm0
        rw [← hm0] at ho' hks ⊢
        clear hm0
        obtain ⟨X, hX⟩ : ∃ X, X = packTo s l k := ⟨_, rfl⟩
        have HX := Lib.hid hX
        rw [← hX] at ho' hst
        clear hX
        go_loopw [7, 31] (fun v i wr => (∃ (j : Nat) (A' : Option Addr) (c' : Nat), j ≤ s ∧ i = .int .i64 j ∧ v = .slice A' (m0 + j) c' ∧ OwnB wr w.heap.size A' (m0 + j) c' (X ++ packX x j)) ∧ Below w.heap.size w wr) (fun _ i _ => s - (intOf i).toNat)
        case atStart => exact ⟨⟨0, A2, c2, Nat.zero_le _, rfl, rfl, by simpa [packX] using ho'.out⟩, hb'.out⟩
        case round =>
          obtain ⟨⟨j, A3, c3, hj, rfl, rfl, ho3⟩, hb3⟩ := hrel
          obtain ⟨wp, rfl⟩ : ∃ wp : World, wp = wr := ⟨_, rfl⟩
          have ho3' := Lib.hid ho3
          have hb3' := Lib.hid hb3
          clear ho3 hb3
          by_cases hjs : j < s
          · obtain ⟨q, hq⟩ : ∃ q, q = 8 * j := ⟨_, rfl⟩
            have h8 : (8 : Int) * (j : Int) = (q : Int) := by omega
            have hbx := and255 (x / 2 ^ q)
            have hv : Hid (byteX x j = x / 2 ^ q % 256) := by show _ = _; rw [byteX, hq]
            clear hq
            go_wp2_with (at_builtin; refine app_b _ rfl (.tmp 34) (.tmp 41) rfl w _ _ _ _ rfl (ho3'.out.alloc _) _ _ 1 1 [x / 2 ^ q % 256] rfl rfl (rd_new1 _ _ _) (by omega) (bal hb3'.out _) ?_; intro A4 c4 w4 ho4 hb4)
            have ho4' := Lib.hid ho4
            have hb4' := Lib.hid hb4
            clear ho4 hb4
            go_roundw
            case rel =>
              refine ⟨⟨j + 1, A4, c4, by omega, by go_num, rfl, ?_⟩, hb4'.out⟩
              rw [packX, hv.out, ← List.append_assoc]
              exact ho4'.out
            case measure => simp [intOf]; omega
          · have e : j = s := by omega
            subst e
            have e2 : m0 + j = (k + 1) * j := by rw [Hm0.out, Nat.add_mul]; omega
            have E2 := Lib.hid e2
            clear e2
            go_wp2_with fail
            constructor
            · refine ⟨⟨k + 1, A3, c3, by omega, by go_num, by rw [E2.out], ?_, fun i hi => ?_⟩, hb3'.out⟩
              · rw [hst.out, ← E2.out]; exact ho3'.out
              · by_cases e : i = k
                · subst e; exact Hf0.out
                · exact Hj.out i (by omega)
            · simp [intOf]; omega
    · have e : k = n := by omega
      subst e
      have hr : Hid (packR l b = (packN s l, 0)) := by
        show _ = _
        rw [hd.out, if_pos]
        refine List.all_eq_true.2 fun x hx => ?_
        obtain ⟨i, hi, rfl⟩ := mem_ix hx
        exact Hj.out i (by have := Hn.out; omega)
      have hL : Hid ((packN s l).length = k * s ∧ packTo s l k = packN s l) := by
        show _ ∧ _
        rw [packN_len, packTo, Hn.out, List.take_length]
        exact ⟨rfl, rfl⟩
      go_wp2_with fail
      go_ret2
      rw [hr.out]
      refine ⟨A2, c2, ?_, ?_, hb'.out⟩
      · rw [hL.out.1]; rfl
      · have := ho'.out
        rw [hL.out.2] at this
        rw [hL.out.1]; exact this
end Go.Proofs.Ytfihbcpainlpcaa
