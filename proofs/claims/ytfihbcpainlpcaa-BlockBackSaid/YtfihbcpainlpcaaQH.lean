/-
  Unpack of the reference's samples.
-/
import Derived.Test.YtfihbcpainlpcaaProg
import Derived.Test.YtfihbcpainlpcaaQF
namespace Go.Proofs.Ytfihbcpainlpcaa
open Go.RowKit
set_option linter.unusedVariables false
set_option linter.unusedSimpArgs false

/-- what the loop of Unpack keeps. -/
def UnpR (wx : World) (g : Nat) (l : List Int) (b : Int) (A : Option Addr) (n c s k : Nat) (ov : Value) (wr : World) : Prop :=
  (∃ A' c', ov = .slice A' k c' ∧ OwnZ wr wx.heap.size A' k c' (uvals s l k)) ∧ OctS wr g A n c (k * s) ∧ Kp (fun q => q = g) wx wr ∧ ∀ j, j < k → fitsB (uval s l (j * s)) b = true

theorem kp_app {S : Nat → Prop} {wx w w4 : World} {B : Nat} {e : TypeId} {size n : Nat} {v : Value} {xs : List Value} (hk : Kp S wx w) (hown : w.ownsRow B e size v n xs) (hB : wx.heap.size ≤ B) (hg : w.grownBy w4 v.ownBlock) : Kp S wx w4 :=
  ⟨hg.os.trans hk.os, hg.tape.trans hk.tape, hg.output.trans hk.output, Nat.le_trans hk.size hg.size, fun q hq hS =>
    (hg.block q (Nat.lt_of_lt_of_le hq hk.size) (fun e' => by have := (hown.lt q e'.symm).1; omega)).trans (hk.block q hq hS)⟩

set_option maxHeartbeats 4000000 in
theorem unpackR_any (l : List Int) (hby : Byt l) (n : Nat) (hn : n = l.length) (hm : n ≤ 20000) (b : Int) (A : Option Addr) (c : Nat) (hc : n ≤ c) (hc63 : c ≤ 9223372036854775807) (w : World) (ha : Ints .u8 w w.heap.size A l) :
    Calls Try.prog 45 #[.slice A n c, .int .i64 b] w (IntsQ (unpackR l b) w) := by
  cases hdp : depth b with
  | false =>
    have hr : Hid (unpackR l b = ([], 1)) := by show _ = _; rw [unpackR, hdp]; rfl
    have Hdp := Lib.hid hdp
    clear hdp
    go_enter Try.func45, Try.ntmps45
    go_wp2_with fail
    (with_reducible refine (depthR_any _ _).mono ?_); rintro e w' ⟨rfl, rfl⟩
    rw [Hdp.out]
    go_wp2_with fail
    go_ret2
    rw [hr.out]
    exact ints_none (brefl w)
  | true =>
  obtain ⟨b4, b24⟩ := depth_true.1 hdp
  obtain ⟨s, hs⟩ : ∃ s : Nat, (b + 7) / 8 = (s : Int) := ⟨((b + 7) / 8).toNat, by omega⟩
  have s1 : 1 ≤ s := by omega
  have s3 : s ≤ 3 := by omega
  have hd : Hid (unpackR l b = if n % s = 0 then (if allFit (uvals s l (n / s)) b = true then (uvals s l (n / s), 0) else ([], 6)) else ([], 3)) := by
    show _ = _
    rw [unpackR, if_pos hdp, show sizeN b = s by unfold sizeN; omega, ← hn]
  have Hdp := Lib.hid hdp
  have Hn := Lib.hid hn
  have Hb := Lib.hid hby
  clear hn hby hdp
  have hr0 : (n : Int) % (s : Int) = ((n % s : Nat) : Int) := by rw [Int.natCast_emod]
  have hsz : ((s : Int) == 0) = false := by simp; omega
  by_cases h3 : n % s = 0
  · have hz : ((n % s : Nat) : Int) = 0 := by omega
    rw [hz] at hr0
    obtain ⟨m, hm'⟩ : ∃ m, n = m * s := ⟨n / s, by have := Nat.div_add_mod n s; rw [h3] at this; rw [Nat.mul_comm]; omega⟩
    have hd2 : Hid (unpackR l b = (if allFit (uvals s l m) b = true then (uvals s l m, 0) else ([], 6))) := by
      show _ = _
      rw [hd.out, if_pos h3, hm', Nat.mul_div_cancel _ (by omega)]
    have Hm := Lib.hid hm'
    clear hm' h3 hz hd
    go_enter Try.func45, Try.ntmps45
    go_wp2_with fail
    (with_reducible refine (depthR_any _ _).mono ?_); rintro e w' ⟨rfl, rfl⟩
    rw [Hdp.out]
    go_wp2_with fail
    (with_reducible refine (newOctets_any A n c w).mono ?_); rintro e wx ⟨rfl, hwx⟩
    have bx : Below w.heap.size w wx := by rw [hwx]; exact bal (brefl w) _
    have hsx : w.heap.size < wx.heap.size := by rw [hwx]; simp
    have Ho0 : Hid (OctS wx w.heap.size A n c 0) := by show OctS _ _ _ _ _ _; rw [hwx]; exact octS_new w A n c
    have Hbx := Lib.hid bx
    clear hwx bx hr0
    go_wp2_with fail
    clear hs
    go_loopg [7, 9] m (fun fu ov _ wr => ∃ k : Nat, k + fu = m ∧ UnpR wx w.heap.size l b A n c s k ov wr)
    case atStart => exact ⟨0, by omega, ⟨none, 0, rfl, OwnZ.nil _ _⟩, by rw [Nat.zero_mul]; exact Ho0.out, Kp.refl _ _, fun j h => absurd h (by omega)⟩
    case round =>
      obtain ⟨k, hk, ⟨A2, c2, rfl, hov⟩, ho, hkp, hft⟩ := hrel
      obtain ⟨wo, rfl⟩ : ∃ wo : World, wo = wr := ⟨_, rfl⟩
      have hkm : k * s ≤ n := by rw [Hm.out]; exact Nat.mul_le_mul_right _ (by omega)
      have hkk : k ≤ 20000 := by have := Nat.le_mul_of_pos_right k (show 0 < s by omega); omega
      have Hft := Lib.hid hft
      have Hov := Lib.hid hov
      clear hft hov
      go_wp2_with fail
      (with_reducible refine (left_any w.heap.size A n c (k * s) (by omega) (by omega) _ ho).mono ?_); rintro e w2 ⟨rfl, q, hw2⟩
      have O2 : OctS w2 w.heap.size A n c (k * s) := by rw [hw2]; exact ho
      have K2 : Kp (fun q => q = w.heap.size) wx w2 := by rw [hw2]; exact hkp.drewN q
      have Z2 : Hid (OwnZ w2 wx.heap.size A2 k c2 (uvals s l k)) := by show OwnZ _ _ _ _ _ _; rw [hw2]; exact own_drewN Hov.out q
      clear hw2 ho hkp Hov
      by_cases hlt : k < m
      · have hks : k * s + s ≤ n := by
          have h1 : (k + 1) * s ≤ m * s := Nat.mul_le_mul_right _ (by omega)
          rw [← Hm.out, Nat.add_mul, Nat.one_mul] at h1; exact h1
        obtain ⟨p, hp⟩ : ∃ p, p = k * s := ⟨_, rfl⟩
        have Hp := Lib.hid hp
        rw [← hp] at O2 hks hkm ⊢
        clear hp
        have B2 : Below w.heap.size w w2 := Hbx.out.trans (K2.below (fun q e => by omega) (by omega))
        have e0 : (0 : Int) < (n : Int) - (p : Int) := by omega
        have HO2 := Lib.hid O2
        have HK2 := Lib.hid K2
        have t1 := smallO_any l Hb.out n Hn.out (by omega) A c hc hc63 p s s1 s3 hks w.heap.size w2 O2 ((ha.below B2).more B2.size)
        rw [top_val s1 s3] at t1
        obtain ⟨v0, v1⟩ := valN_b Hb.out (a := p) s (by have := Hn.out; omega)
        obtain ⟨v, hv⟩ : ∃ v, v = valN l p s := ⟨_, rfl⟩
        have Hv : Hid (sgn s v = uval s l p) := by show _ = _; rw [hv]; rfl
        rw [← hv] at t1 v0 v1
        obtain ⟨q8, hq8⟩ : ∃ q8, q8 = 8 * s := ⟨_, rfl⟩
        obtain ⟨sh, hsh⟩ : ∃ sh, sh = 64 - 8 * s := ⟨_, rfl⟩
        obtain ⟨f1, f2⟩ := shift_sgn s1 s3 v0 v1 hsh
        have h8 : (8 : Int) * (s : Int) = (q8 : Int) := by omega
        have h64 : (64 : Int) - (q8 : Int) = (sh : Int) := by omega
        have hshb : sh < 64 := by omega
        obtain ⟨y, hy⟩ : ∃ y, y = v * 2 ^ sh := ⟨_, rfl⟩
        rw [← hy] at f1 f2
        obtain ⟨z, hz⟩ : ∃ z, z = IntKind.i64.wrap y := ⟨_, rfl⟩
        rw [← hz] at f2
        obtain ⟨x, hx⟩ : ∃ x, x = sgn s v := ⟨_, rfl⟩
        rw [← hx] at f2 Hv
        have hy' := hy.symm
        have hz' := hz.symm
        have T1 := Lib.hid t1
        clear t1 hv v0 v1 hq8 hsh hy hz hx B2 O2 K2
        go_wp2_with fail
        (with_reducible refine T1.out.mono ?_); rintro e w3 ⟨rfl, O3, K3⟩
        have HO3 := Lib.hid O3
        have HK3 := Lib.hid K3
        clear O3 K3
        go_wp2_with fail
        have HK4 := Lib.hid (HK2.out.trans HK3.out)
        have Z3 : Hid (OwnZ w3 wx.heap.size A2 k c2 (uvals s l k)) := OwnZ.other Z2.out fun q hq => HK3.out.block q (OwnZ.lt Z2.out q hq).2 (fun e => by have := (OwnZ.lt Z2.out q hq).1; omega)
        have B3 := Lib.hid (Hbx.out.trans (HK4.out.below (B := w.heap.size) (fun q e => by omega) (by omega)))
        have hxs : wx.heap.size ≤ w3.heap.size := HK4.out.size
        cases hf : fitsB x b with
        | false =>
          have hr : Hid (unpackR l b = ([], 6)) := by
            show _ = _
            rw [hd2.out, fit_upto (l := uvals s l m) (k := k) (by rw [uvals_len]; exact hlt) (by rw [uvals_ix hlt, ← Hp.out, ← Hv.out]; exact hf)]; rfl
          have Hf := Lib.hid hf
          clear hf
          (with_reducible refine (fitsR_any _ _ _).mono ?_); rintro e w' ⟨rfl, hww⟩
          obtain rfl := hww.symm
          rw [Hf.out]
          go_wp2_with fail
          go_ret2
          rw [hr.out]
          exact ints_none B3.out
        | true =>
          have Hf := Lib.hid hf
          clear hf
          (with_reducible refine (fitsR_any _ _ _).mono ?_); rintro e w' ⟨rfl, hww⟩
          obtain rfl := hww.symm
          rw [Hf.out]
          obtain ⟨i0, hi0, hz0, hz1, hz2⟩ := info_parts intInfo
          go_wp2_with (at_builtin; refine wpList_app _ rfl (.tmp 44) (.tmp 46) 22 rfl wx.heap.size 3 i0 _ 1 8 Try.underlying22 hi0 hz0 hz1 hz2 rfl (by omega) (.slice A2 k c2) k _ rfl (World.ownsRow.alloc Z3.out _) _ _ 1 1 [.int .i64 x] rfl rfl (rd_new1 _ _ _) (by simp [Value.oneCell']) (by simp only [maxLen]; omega) (by omega) (by simp; omega) ?_; intro A4 c4 w4 ho4 hg4 hat4)
          have HK5 := Lib.hid (kp_app (HK4.out.alloc _) (World.ownsRow.alloc Z3.out _) (Nat.le_refl _) hg4)
          have HO5 : Hid (OctS w4 w.heap.size A n c (p + s)) := HO3.out.of_block ((hg4.block _ (by simp; omega) (fun e => by have := (OwnZ.lt Z3.out _ e.symm).1; omega)).trans (Below.heap_alloc _ _ _ (by omega)))
          have Z4 : Hid (OwnZ w4 wx.heap.size A4 (k + 1) c4 (uvals s l k ++ [x])) := by show OwnZ _ _ _ _ _ _; unfold OwnZ; rw [List.map_append]; exact ho4
          have hpk : Hid (p + s = (k + 1) * s) := by show _ = _; rw [Hp.out, Nat.add_mul, Nat.one_mul]
          clear ho4 hg4 hat4
          go_roundg (m - (k + 1))
          case measure => omega
          case rel =>
            refine ⟨k + 1, by omega, ⟨A4, c4, rfl, ?_⟩, ?_, HK5.out, fun j hj => ?_⟩
            · rw [uvals_step, ← Hp.out, ← Hv.out]; exact Z4.out
            · rw [← hpk.out]; exact HO5.out
            · by_cases e : j = k
              · subst e; rw [← Hp.out, ← Hv.out]; exact Hf.out
              · exact Hft.out j (by omega)
      · have e : k = m := by omega
        subst e
        have e0 : (n : Int) - ((k * s : Nat) : Int) = 0 := by have := Hm.out; omega
        have B2 := Lib.hid (Hbx.out.trans (K2.below (B := w.heap.size) (fun q e => by omega) (by omega)))
        have hr : Hid (unpackR l b = (uvals s l k, 0)) := by
          show _ = _
          rw [hd2.out, if_pos]
          refine List.all_eq_true.2 fun x hx => ?_
          obtain ⟨i, hi, rfl⟩ := mem_ix hx
          rw [uvals_len] at hi
          rw [uvals_ix hi]; exact Hft.out i hi
        rw [e0]
        clear e0 O2 K2
        go_wp2_with fail
        go_ret2
        rw [hr.out]
        refine ⟨A2, c2, by rw [uvals_len]; rfl, ?_, B2.out⟩
        rw [uvals_len]
        exact Z2.out.base (by omega)
  · obtain ⟨z, hz⟩ : ∃ z, z = n % s := ⟨_, rfl⟩
    have hr : Hid (unpackR l b = ([], 3)) := by show _ = _; rw [hd.out, if_neg h3]
    rw [← hz] at hr0 h3
    have hne : ((z : Int) != 0) = true := by rw [bne_iff_ne]; omega
    clear h3 Hn hz hd
    go_enter Try.func45, Try.ntmps45
    go_wp2_with fail
    (with_reducible refine (depthR_any _ _).mono ?_); rintro e w' ⟨rfl, rfl⟩
    rw [Hdp.out]
    go_wp2_with fail
    go_ret2
    rw [hr.out]
    exact ints_none (brefl w)
end Go.Proofs.Ytfihbcpainlpcaa
