/-
  The reference's Small and Pack.
-/
import Derived.Test.YtfihbcpainlpcaaProg
import Derived.Test.YtfihbcpainlpcaaMC
import Derived.Test.YtfihbcpainlpcaaQF
namespace Go.Proofs.Ytfihbcpainlpcaa
open Go.RowKit
set_option linter.unusedVariables false
set_option linter.unusedSimpArgs false

def SmQ (X : Int) (s : Nat) (w : World) (e : Ending) (w' : World) : Prop := ∃ A c, e = .returned (.slice A s c) ∧ OwnB w' w.heap.size A s c (packX X s) ∧ Below w.heap.size w w'
set_option maxHeartbeats 1000000 in
theorem smallR_any (X : Int) (h0 : 0 ≤ X) (h1 : X < 18446744073709551616) (s : Nat) (hs : s ≤ 3) (w : World) :
    Calls Try.prog 62 #[.int .u64 X, .int .i64 s] w (SmQ X s w) := by
  go_enter Try.func62, Try.ntmps62
  go_wp2_with fail
  go_loopw [5, 6] (fun v i wr => (∃ (j : Nat) (A' : Option Addr) (c' : Nat), j ≤ s ∧ i = .int .i64 j ∧ v = .slice A' j c' ∧ OwnB wr w.heap.size A' j c' (packX X j)) ∧ Below w.heap.size w wr) (fun _ i _ => s - (intOf i).toNat)
  case atStart => exact ⟨⟨0, none, 0, Nat.zero_le _, rfl, rfl, by simpa [packX] using OwnB.nil _ _⟩, brefl w⟩
  case round =>
    obtain ⟨⟨j, A3, c3, hj, rfl, rfl, ho3⟩, hb3⟩ := hrel
    obtain ⟨wp, rfl⟩ : ∃ wp : World, wp = wr := ⟨_, rfl⟩
    have ho3' := Lib.hid ho3
    have hb3' := Lib.hid hb3
    clear ho3 hb3
    by_cases hjs : j < s
    · have hj1 : (j : Int) < (s : Int) := by omega
      have hj2 : (j : Int) < 8 := by omega
      obtain ⟨q, hq⟩ : ∃ q, q = 8 * j := ⟨_, rfl⟩
      have h8 : (8 : Int) * (j : Int) = (q : Int) := by omega
      have hv : Hid (byteX X j = X / 2 ^ q % 256) := by show _ = _; rw [byteX, hq]
      clear hq
      go_wp2_with (at_builtin; refine app_b _ rfl (.tmp 16) (.tmp 23) rfl w _ _ _ _ rfl (ho3'.out.alloc _) _ _ 1 1 [X / 2 ^ q % 256] rfl rfl (rd_new1 _ _ _) (by omega) (bal hb3'.out _) ?_; intro A4 c4 w4 ho4 hb4)
      have ho4' := Lib.hid ho4
      have hb4' := Lib.hid hb4
      clear ho4 hb4
      go_roundw
      case rel =>
        refine ⟨⟨j + 1, A4, c4, by omega, by go_num, rfl, ?_⟩, hb4'.out⟩
        rw [packX, hv.out]
        exact ho4'.out
      case measure => simp [intOf]; omega
    · have e : j = s := by omega
      subst e
      go_wp2_with fail
      go_ret
      exact ⟨A3, c3, rfl, ho3'.out, hb3'.out⟩

theorem byteX_wrap (x : Int) {i : Nat} (hi : i < 3) : byteX (x % 18446744073709551616) i = byteX x i := by
  unfold byteX
  have h3 : i = 0 ∨ i = 1 ∨ i = 2 := by omega
  rcases h3 with rfl | rfl | rfl <;> simp only [Nat.mul_zero, Nat.mul_one, Nat.reduceMul, Int.pow_zero, Int.reducePow] <;> omega
theorem packX_wrap (x : Int) : ∀ s : Nat, s ≤ 3 → packX (x % 18446744073709551616) s = packX x s
  | 0, _ => rfl
  | s + 1, h => by rw [packX, packX, packX_wrap x s (by omega), byteX_wrap x (by omega)]

set_option maxHeartbeats 1000000 in
theorem packR_any (l : List Int) (n : Nat) (hn : n = l.length) (hm : n ≤ 20000) (b : Int) (A : Option Addr) (c : Nat) (w : World) (ha : Ints .i64 w w.heap.size A l) :
    Calls Try.prog 48 #[.slice A n c, .int .i64 b] w (BytesQ (packR l b) w) := by
  cases hdp : depth b with
  | false =>
    have hr := Lib.hid (show packR l b = ([], 1) by rw [packR, hdp]; rfl)
    have Hd := Lib.hid hdp
    clear hdp
    go_enter Try.func48, Try.ntmps48
    go_wp2_with fail
    (with_reducible refine (depthR_any _ _).mono ?_); rintro e w1 ⟨rfl, rfl⟩
    rw [Hd.out]
    go_wp2_with fail
    go_ret2
    rw [hr.out]
    exact bytes_none (brefl w)
  | true =>
    obtain ⟨b4, b24⟩ := depth_true.1 hdp
    obtain ⟨s, hs⟩ : ∃ s : Nat, (b + 7) / 8 = (s : Int) := ⟨((b + 7) / 8).toNat, by omega⟩
    have s1 : (1 : Int) ≤ (s : Int) := by omega
    have s3 : (s : Int) ≤ 3 := by omega
    have hd : Hid (packR l b = if allFit l b = true then (packN s l, 0) else ([], 6)) := by
      show _ = _
      rw [packR, if_pos hdp, show sizeN b = s by unfold sizeN; omega]
    have Hn := Lib.hid hn
    have Hd := Lib.hid hdp
    have Hs := Lib.hid hs
    clear hn hdp hs
    go_enter Try.func48, Try.ntmps48
    go_wp2_with fail
    (with_reducible refine (depthR_any _ _).mono ?_); rintro e w1 ⟨rfl, rfl⟩
    rw [Hd.out]
    go_wp2_with fail
    go_loopw [6, 7] (fun v i wr => (∃ (k : Nat) (A' : Option Addr) (c' : Nat), k ≤ n ∧ i = .int .i64 k ∧ v = .slice A' (k * s) c' ∧ OwnB wr w.heap.size A' (k * s) c' (packTo s l k) ∧ ∀ j, j < k → fitsB (ix l j) b = true) ∧ Below w.heap.size w wr) (fun _ i _ => n - (intOf i).toNat)
    case atStart => exact ⟨⟨0, none, 0, Nat.zero_le _, rfl, by simp, by simpa [packTo, packN] using OwnB.nil _ _, fun j h => absurd h (by omega)⟩, brefl w⟩
    case round =>
      obtain ⟨⟨k, A2, c2, hk, rfl, rfl, ho, hj⟩, hb⟩ := hrel
      obtain ⟨wo, rfl⟩ : ∃ wo : World, wo = wr := ⟨_, rfl⟩
      have ho' := Lib.hid ho
      have hb' := Lib.hid hb
      have Hj := Lib.hid hj
      clear ho hb hj
      by_cases hlt : k < n
      · have hkl : k < l.length := by have := Hn.out; omega
        obtain ⟨b1, o1, rfl, hc1⟩ := (ha.below hb'.out).at_ hkl
        have hs := Hs.out
        cases hf : fitsB (ix l k) b with
        | false =>
          have hr : Hid (packR l b = ([], 6)) := by show _ = _; rw [hd.out, fit_upto hkl hf]; rfl
          have Hf := Lib.hid hf
          clear hf
          go_wp2_with fail
          (with_reducible refine (fitsR_any _ _ _).mono ?_); rintro e w' ⟨rfl, hww⟩
          obtain rfl := hww.symm
          rw [Hf.out]
          go_wp2_with fail
          go_ret2
          rw [hr.out]
          exact bytes_none hb'.out
        | true =>
          have Hf := Lib.hid hf
          clear hf
          go_wp2_with fail
          (with_reducible refine (fitsR_any _ _ _).mono ?_); rintro e w' ⟨rfl, hww⟩
          obtain rfl := hww.symm
          rw [Hf.out]
          have hst := Lib.hid (packTo_step (s := s) hkl)
          have hks : k * s ≤ 60000 := by
            have : k * s ≤ 20000 * 3 := Nat.mul_le_mul (by omega) (by omega)
            omega
          obtain ⟨m0, hm0⟩ : ∃ m, m = k * s := ⟨_, rfl⟩
          have e2 : m0 + s = (k + 1) * s := by rw [hm0, Nat.add_mul]; omega
          have E2 := Lib.hid e2
          rw [← hm0] at ho' hks ⊢
          obtain ⟨x, hx⟩ : ∃ x, x = ix l k := ⟨_, rfl⟩
          rw [← hx] at hst hc1 ⊢
          have hX : IntKind.u64.wrap x = x % 18446744073709551616 := by rw [IntKind.wrap_u64]
          clear hm0 e2 hx hkl
          go_wp2_with fail
          (with_reducible refine (smallR_any (x % 18446744073709551616) (by omega) (by omega) s (by omega) wo).mono ?_); rintro e w4 ⟨A4, c4, rfl, ho4, b4'⟩
          rw [packX_wrap x s (by omega)] at ho4
          have B4 := Lib.hid (bth hb'.out b4')
          have ho2 := Lib.hid (OwnB.below ho'.out b4' (Nat.le_refl _))
          have z4 := Lib.hid (OwnB.ints ho4)
          have hxl : (packX x s).length = s := packX_len x s
          have Hj2 : Hid (∀ j, j < k + 1 → fitsB (ix l j) b = true) := fun j hj => by
            by_cases e : j = k
            · subst e; exact Hf.out
            · exact Hj.out j (by omega)
          clear ho4 b4' hX hc1
          go_wp2_with (at_builtin; refine app_b _ rfl (.tmp 24) (.tmp 33) rfl w _ _ _ _ rfl ho2.out _ _ s c4 (packX x s) rfl hxl z4.out (by omega) B4.out ?_; intro A5 c5 w5 ho5 hb5)
          have ho5' := Lib.hid ho5
          have hb5' := Lib.hid hb5
          clear ho5 hb5 hxl
          go_roundw
          case rel =>
            refine ⟨⟨k + 1, A5, c5, by omega, by go_num, by rw [E2.out], ?_, Hj2.out⟩, hb5'.out⟩
            rw [hst.out, ← E2.out]; exact ho5'.out
          case measure => simp [intOf]; omega
      · have e : k = n := by omega
        subst e
        have hr : Hid (packR l b = (packN s l, 0)) := by
          show _ = _
          rw [hd.out, if_pos]
          refine List.all_eq_true.2 fun x hx => ?_
          obtain ⟨i, hi, rfl⟩ := mem_ix hx
          exact Hj.out i (by have := Hn.out; omega)
        have hL : Hid ((packN s l).length = k * s ∧ packTo s l k = packN s l) := by
          show _ ∧ _
          rw [packN_len, packTo, Hn.out, List.take_length]
          exact ⟨rfl, rfl⟩
        clear hlt
        go_wp2_with fail
        go_ret2
        rw [hr.out]
        refine ⟨A2, c2, ?_, ?_, hb'.out⟩
        · rw [hL.out.1]; rfl
        · have := ho'.out
          rw [hL.out.2] at this
          rw [hL.out.1]; exact this
end Go.Proofs.Ytfihbcpainlpcaa
