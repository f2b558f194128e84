/-
  linear.Rest, linear.Back, and the reference's LinearGuess, LinearBack.
-/
import Derived.Test.YtmbebcgicddbnaaProg
import Derived.Test.YtmbebcgicddbnaaNA
import Derived.Test.YtmbebcgicddbnaaR2W
import Derived.Test.YtmbebcgicddbnaaR2
import Derived.Deep.LoopGhost
import Derived.Deep.DeepCutAuto
import Derived.Deep.CutBlock
namespace Go.Proofs.Ytmbebcgicddbnaa
open Go.RowKit

def zobj (n : Nat) : Obj := .cells (madeCells #[.int .i64 0] (n * 1)) 3
theorem run_mk (n : Nat) (hn : n ≤ 65536) (w : World) : (Instr.makeSlice 22 (.int .i64 (n : Int)) (.int .i64 (n : Int))).run Try.prog w = .ok (.slice (some ⟨w.heap.size, 0, none⟩) n n) (w.alloc (zobj n)) := by
  obtain ⟨i0, hi0, hz0, hz1, hz2⟩ := info_parts intInfo
  have h := run_make (P := Try.prog) w 22 3 i0 _ Try.underlying22 hi0 hz0 .i64 .i64 (n : Int) (n : Int) (by omega) (Int.le_refl _) (by rw [hz2]; omega) (by omega)
  rw [hz1, Int.toNat_natCast] at h
  exact h
theorem run_mk0 (n : Nat) (hn : n ≤ 65536) (w : World) : (Instr.makeSlice 22 (.int .i64 0) (.int .i64 (n : Int))).run Try.prog w = .ok (.slice (some ⟨w.heap.size, 0, none⟩) 0 n) (w.alloc (zobj n)) := by
  obtain ⟨i0, hi0, hz0, hz1, hz2⟩ := info_parts intInfo
  have h := run_make (P := Try.prog) w 22 3 i0 _ Try.underlying22 hi0 hz0 .i64 .i64 0 (n : Int) (by omega) (by omega) (by rw [hz2]; omega) (by omega)
  rw [hz1, Int.toNat_natCast] at h
  exact h
theorem own_mk0 (w : World) (n : Nat) (hn : n ≤ 65536) : OwnZ (w.alloc (zobj n)) w.heap.size (some ⟨w.heap.size, 0, none⟩) 0 n [] :=
  World.ownsRow_made w _ n (Nat.le_refl _) (by simp only [maxLen]; omega) (size_madeCells _ _)
theorem zobj_eq (n : Nat) : zobj n = .cells ((List.replicate n (0 : Int)).map (Value.int .i64)).toArray 3 (0, 0) := by
  unfold zobj
  congr 1
  apply Array.toList_inj.1
  rw [toList_madeCells_one]
  simp
theorem own_mk (w : World) (n : Nat) (hn : n ≤ 65536) : OwnZ (w.alloc (zobj n)) w.heap.size (some ⟨w.heap.size, 0, none⟩) n n (List.replicate n 0) := by
  have h := heap_alloc_new w (zobj n)
  rw [zobj_eq] at h
  unfold OwnZ
  rw [zobj_eq]
  exact own_shut h (by simp) (Nat.le_refl _) (by simp only [maxLen]; omega) (by simp) (Nat.le_refl _)

def IntsQ (r : List Int × Int) (w : World) (e : Ending) (w' : World) : Prop := ∃ A c, e = .returned (.tuple #[.slice A r.1.length c, .int .i64 r.2]) ∧ OwnZ w' w.heap.size A r.1.length c r.1 ∧ Below w.heap.size w w'
theorem ints_none {x : Int} {w w' : World} (h : Below w.heap.size w w') : IntsQ ([], x) w (.returned (.tuple #[.slice none 0 0, .int .i64 x])) w' := ⟨none, 0, rfl, OwnZ.nil _ _, h⟩
theorem OwnZ.len {w : World} {B : Nat} {A : Option Addr} {n c : Nat} {l : List Int} (h : OwnZ w B A n c l) : l.length = n := own_len h
theorem ints_of {x : Int} {l : List Int} {n c : Nat} {A : Option Addr} {w w' : World} (ho : OwnZ w' w.heap.size A n c l) (h : Below w.heap.size w w') : IntsQ (l, x) w (.returned (.tuple #[.slice A n c, .int .i64 x])) w' := by
  have e := ho.len
  subst e
  exact ⟨A, c, rfl, ho, h⟩
theorem OwnZ.drewN {w : World} {B : Nat} {A : Option Addr} {n c : Nat} {l : List Int} (h : OwnZ w B A n c l) (m : Nat) : OwnZ (w.drewN m) B A n c l := own_drewN h m

theorem guessR_any (past cs : List Int) (n m : Nat) (hn : n = past.length) (hm : m = cs.length) (hn1 : n ≤ 1000000) (hm1 : m ≤ 1000000) (hw : allWideB past = true) (sh : Int) (A B : Option Addr) (b1 b2 c d : Nat) (w : World) (ha : Ints .i64 w b1 A past) (hb : Ints .i64 w b2 B cs) :
    Calls Try.prog 31 #[.slice A n c, .slice B m d, .int .i64 sh] w fun e w' => e = .returned (.int .i64 (guessP past cs sh)) ∧ w = w' := by
  have Hn := Lib.hid hn
  have Hmm := Lib.hid hm
  have Hw := Lib.hid hw
  clear hn hm hw
  cases hmay : mayN cs sh with
  | false =>
    have hr := Lib.hid (guessP_no (past := past) hmay)
    have Hm := Lib.hid hmay
    clear hmay
    go_enter Try.func31, Try.ntmps31
    go_wp2_with fail
    (with_reducible refine (mayR_any cs _ Hmm.out (by omega) _ _ _ _ _ hb).mono ?_); rintro e w' ⟨rfl, rfl⟩
    rw [Hm.out]
    go_wp2_with fail
    go_ret
    exact ⟨ret_int hr.out.symm, rfl⟩
  | true =>
    obtain ⟨m1, m2, m3, m4, _⟩ := mayN_true.1 hmay
    obtain ⟨s, rfl⟩ := Int.eq_ofNat_of_zero_le m3
    have hr := Lib.hid (guessP_yes (past := past) hmay)
    have Hm := Lib.hid hmay
    have hs15 : (s : Int) ≤ 15 := by omega
    have hu : IntKind.u64.wrap (s : Int) = (s : Int) := by rw [IntKind.wrap_u64]; omega
    clear hmay m3 m1 m2 m4
    go_enter Try.func31, Try.ntmps31
    go_wp2_with fail
    (with_reducible refine (mayR_any cs _ Hmm.out (by omega) _ _ _ _ _ hb).mono ?_); rintro e w' ⟨rfl, rfl⟩
    rw [Hm.out]
    go_wp2_with fail
    go_loop [7, 8, 9] (fun sv i _ => ∃ k : Nat, k ≤ m ∧ k ≤ n ∧ i = .int .i64 k ∧ sv = .int .i64 (sumTo past cs k)) (fun _ i _ => m - (intOf i).toNat)
    case atStart => exact ⟨0, Nat.zero_le _, Nat.zero_le _, rfl, rfl⟩
    case round =>
      obtain ⟨k, hk, hkn, rfl, rfl⟩ := hrel
      by_cases hlt : k < m
      · by_cases hlt2 : k < n
        · obtain ⟨g1, o1, rfl, hc1⟩ := hb.at_ (i := k) (by rw [← Hmm.out]; exact hlt)
          obtain ⟨g2, o2, rfl, hc2⟩ := ha.at_ (i := n - 1 - k) (by rw [← Hn.out]; omega)
          have hx := Lib.hid (allWideB_true.1 Hw.out (n - 1 - k) (by rw [← Hn.out]; omega))
          have t1 : (n : Int) - 1 - (k : Int) < (n : Int) := by omega
          have t2 : ((n : Int) - 1 - (k : Int)).toNat = n - 1 - k := by omega
          have t3 : (k : Int) ≤ (n : Int) - 1 := by omega
          have hsu := Lib.hid (sumTo_succ past cs k)
          go_wp2_with fail
          (with_reducible refine (wide2_any _ _).mono ?_); rintro e w' ⟨rfl, rfl⟩
          rw [hx.out]
          go_wp2_with fail
          go_round
          case rel => exact ⟨k + 1, by omega, by omega, by go_num, by rw [hsu.out, ← Hn.out]⟩
          case measure => simp [intOf]; omega
        · have e : k = n := by omega
          subst e
          have hp : Hid (predP past cs s = sumTo past cs k / 2 ^ s) := by show _ = _; unfold predP; rw [← Hn.out, ← Hmm.out, show min m k = k by omega]
          go_wp2_with fail
          go_ret
          exact ⟨ret_int (by rw [hr.out, hp.out]), rfl⟩
      · have e : k = m := by omega
        subst e
        have hp : Hid (predP past cs s = sumTo past cs k / 2 ^ s) := by show _ = _; unfold predP; rw [← Hn.out, ← Hmm.out, show min k n = k by omega]
        go_wp2_with fail
        go_ret
        exact ⟨ret_int (by rw [hr.out, hp.out]), rfl⟩

theorem restL_bad (l cs : List Int) (n m : Nat) (hn : n = l.length) (hm : m = cs.length) (hn1 : n ≤ 60000) (hm1 : m ≤ 60000) (sh : Int) (h : okRest l cs sh = false) (A B : Option Addr) (c d : Nat) (w : World) (ha : Ints .i64 w w.heap.size A l) (hb : Ints .i64 w w.heap.size B cs) :
    Calls Try.prog 15 #[.slice A n c, .slice B m d, .int .i64 sh] w (IntsQ (lrestP l cs sh) w) := by
  have hr := Lib.hid (lrestP_bad h)
  have Hmm := Lib.hid hm
  cases hmay : mayN cs sh with
  | false =>
    have Hm := Lib.hid hmay
    clear hmay h hn hm
    go_enter Try.func15, Try.ntmps15
    go_wp2_with fail
    (with_reducible refine (mayL_any cs _ Hmm.out (by omega) _ _ _ _ _ hb).mono ?_); rintro e w' ⟨rfl, rfl⟩
    rw [Hm.out]
    go_wp2_with fail
    go_ret2
    rw [hr.out]
    exact ints_none (brefl w)
  | true =>
    have Hm := Lib.hid hmay
    have hI : (n : Int) < (m : Int) := by
      have : ¬ cs.length ≤ l.length := fun h' => by rw [okRest_true.2 ⟨hmay, h'⟩] at h; cases h
      omega
    clear hmay h hn hm
    go_enter Try.func15, Try.ntmps15
    go_wp2_with fail
    (with_reducible refine (mayL_any cs _ Hmm.out (by omega) _ _ _ _ _ hb).mono ?_); rintro e w' ⟨rfl, rfl⟩
    rw [Hm.out]
    go_wp2_with fail
    go_ret2
    rw [hr.out]
    exact ints_none (brefl w)

set_option maxHeartbeats 1000000 in
theorem restL_ok (l cs : List Int) (n m : Nat) (hn : n = l.length) (hm : m = cs.length) (hn1 : n ≤ 60000) (hm1 : m ≤ 60000) (sh : Int) (hok : okRest l cs sh = true) (A B : Option Addr) (c d : Nat) (hnc : n ≤ c) (w : World) (ha : Ints .i64 w w.heap.size A l) (hb : Ints .i64 w w.heap.size B cs) :
    Calls Try.prog 15 #[.slice A n c, .slice B m d, .int .i64 sh] w (IntsQ (lrestP l cs sh) w) := by
  obtain ⟨hmay, hml⟩ := okRest_true.1 hok
  obtain ⟨m1, m2, m3, m4, _⟩ := mayN_true.1 hmay
  obtain ⟨s, rfl⟩ := Int.eq_ofNat_of_zero_le m3
  have hs15 : s ≤ 15 := by omega
  have hmI : (m : Int) ≤ (n : Int) := by omega
  have hmn : m ≤ n := by omega
  have Hok := Lib.hid hok
  have Hm := Lib.hid hmay
  have Hn := Lib.hid hn
  have Hmm := Lib.hid hm
  clear hok hmay hn hm hml m1 m2 m3 m4
  cases hw : allWideB l with
  | false =>
    have Hw := Lib.hid hw
    clear hw
    go_enter Try.func15, Try.ntmps15
    go_wp2_with fail
    (with_reducible refine (mayL_any cs _ Hmm.out (by omega) _ _ _ _ _ hb).mono ?_); rintro e w' ⟨rfl, rfl⟩
    rw [Hm.out]
    go_wp2_with fail
    (with_reducible refine (allWideN_any l _ Hn.out (by omega) _ _ _ _ ha).mono ?_); rintro e w' ⟨rfl, rfl⟩
    rw [Hw.out]
    go_wp2_with fail
    go_ret2
    rw [lrestP_far Hok.out Hw.out]
    exact ints_none (brefl w)
  | true =>
    have Hw := Lib.hid hw
    clear hw
    obtain ⟨q, hq⟩ : ∃ q : Nat, q = n - m := ⟨_, rfl⟩
    have Hq := Lib.hid hq
    have e1 : (n : Int) - (m : Int) = (q : Int) := by omega
    have hq2 : q ≤ 60000 := by omega
    have hmk := run_mk0 q (by omega)
    obtain ⟨ys, hys⟩ : ∃ ys, ys = restN l cs s := ⟨_, rfl⟩
    have Hys := Lib.hid hys
    have hyl : Hid (ys.length = q) := by show _ = _; rw [hys, restN_len, hq, Hn.out, Hmm.out]
    clear hq hys
    go_enter Try.func15, Try.ntmps15
    go_wp2_with fail
    (with_reducible refine (mayL_any cs _ Hmm.out (by omega) _ _ _ _ _ hb).mono ?_); rintro e w' ⟨rfl, rfl⟩
    rw [Hm.out]
    go_wp2_with fail
    (with_reducible refine (allWideN_any l _ Hn.out (by omega) _ _ _ _ ha).mono ?_); rintro e w' ⟨rfl, rfl⟩
    rw [Hw.out]
    go_wp2_with fail
    have ho1 := Lib.hid (own_mk0 w q (by omega))
    have hb1 := Lib.hid (bal (brefl w) (zobj q))
    clear hmk e1
    go_loopw [8, 9, 10] (fun ov nv _ wr => (∃ (k : Nat) (A' : Option Addr) (c' : Nat), k ≤ q ∧ nv = .int .i64 ((m + k : Nat) : Int) ∧ ov = .slice A' k c' ∧ OwnZ wr w.heap.size A' k c' (ys.take k) ∧ ∀ j, j < k → wideB (ix ys j) = true) ∧ Below w.heap.size w wr) (fun _ nv _ _ => n - (intOf nv).toNat)
    case atStart => exact ⟨⟨0, _, _, Nat.zero_le _, rfl, rfl, ho1.out, fun j h => absurd h (by omega)⟩, hb1.out⟩
    case round =>
      obtain ⟨⟨k, A2, c2, hk, rfl, rfl, ho, hj⟩, hbl⟩ := hrel
      obtain ⟨wo, rfl⟩ : ∃ wo : World, wo = wr := ⟨_, rfl⟩
      have ho' := Lib.hid ho
      have hb' := Lib.hid hbl
      have Hj := Lib.hid hj
      clear ho hbl hj
      by_cases hlt : k < q
      · have hmk : m + k < n := by have := Hq.out; omega
        obtain ⟨p, hp⟩ : ∃ p : Nat, p = m + k := ⟨_, rfl⟩
        have Hp := Lib.hid hp
        rw [← hp] at hmk ⊢
        clear hp
        have ha' := ha.below hb'.out
        have hcs' := hb.below hb'.out
        obtain ⟨b1, o1, rfl, hc1⟩ := ha'.at_ (i := p) (by rw [← Hn.out]; exact hmk)
        have hlt1 : Hid ((l.take p).length = p) := by show _ = _; rw [List.length_take, ← Hn.out]; omega
        obtain ⟨x, hx⟩ : ∃ x, x = ix ys k := ⟨_, rfl⟩
        have Hx := Lib.hid hx
        have hts : Hid (ys.take (k + 1) = ys.take k ++ [x]) := by show _ = _; rw [hx]; exact take_succ_ix (by rw [hyl.out]; exact hlt)
        obtain ⟨gv, hgv⟩ : ∃ gv, gv = predP (l.take p) cs s := ⟨_, rfl⟩
        have Hgv := Lib.hid hgv
        have hxe : IntKind.i64.wrap (ix l p - gv) = x := by
          rw [IntWalk.i64_left, hx, hgv, Hys.out, restN_ix (by rw [← Hn.out, ← Hmm.out]; have := Hq.out; omega), ← Hmm.out, Hp.out]
        have hpr : ∀ w', Ints .i64 w' w.heap.size (some ⟨b1, o1, none⟩) (l.take p) → Ints .i64 w' w.heap.size B cs → Calls Try.prog 28 #[.slice (some ⟨b1, o1, none⟩) p c, .slice B m d, .int .i64 (s : Int)] w' fun e w'' => e = .returned (.int .i64 gv) ∧ w'' = w' := fun w' h1 h2 => by
          rw [Hgv.out]; exact (predict_any _ _ _ _ hlt1.out.symm Hmm.out (by omega) (by omega) s hs15 _ rfl _ _ _ _ _ _ _ h1 h2).mono fun _ _ ⟨h1, h2⟩ => ⟨h1, h2.symm⟩
        have Hpr := Lib.hid hpr
        have Hxe := Lib.hid hxe
        have pI : (p : Int) < (n : Int) := by omega
        have pI0 : (0 : Int) ≤ (p : Int) := by omega
        have g1 : p ≤ c := by omega
        clear hx hgv hxe hpr
        go_wp2_with fail
        have t1 := Hxe.out
        go_quiet ((go_at_call 28; exact Calls.quiet_of_same (Hpr.out _ ((ints_take ha' p).drewN _) (hcs'.drewN _))))
        clear t1
        go_wp2_with fail
        (with_reducible refine (wideN_any _ _).mono ?_); rintro e w' ⟨rfl, rfl⟩
        cases hy : wideB x with
        | false =>
          have hr : Hid (lrestP l cs (s : Int) = ([], 6)) := lrestP_out Hok.out Hw.out (by rw [Int.toNat_natCast, ← Hys.out]; exact allWideB_false (by rw [hyl.out]; exact hlt) (by rw [← Hx.out]; exact hy))
          have Hy := Lib.hid hy
          clear hy
          go_wp2_with fail
          go_ret2
          rw [hr.out]
          exact ints_none (below_drewN hb'.out _)
        | true =>
          have Hy := Lib.hid hy
          clear hy
          go_wp2_with (at_builtin; refine app_z _ rfl (.tmp 53) (.tmp 55) rfl w _ _ _ _ rfl ((ho'.out.drewN _).alloc _) _ _ 1 1 [x] rfl rfl (rd_new1 _ _ _) (by omega) (bal (below_drewN hb'.out _) _) ?_; intro A4 c4 w4 ho4 hb4)
          have ho4' := Lib.hid ho4
          have hb4' := Lib.hid hb4
          clear ho4 hb4
          go_roundw
          case rel =>
            refine ⟨⟨k + 1, A4, c4, by omega, ?_, rfl, ?_, fun i hi => ?_⟩, hb4'.out⟩
            · rw [show m + (k + 1) = p + 1 by rw [Hp.out]; omega]; go_num
            · rw [hts.out]; exact ho4'.out
            · by_cases e : i = k
              · subst e; rw [← Hx.out]; exact Hy.out
              · exact Hj.out i (by omega)
          case measure => simp [intOf]; omega
      · have e : k = q := by omega
        subst e
        have hI : (n : Int) ≤ ((m + k : Nat) : Int) := by have := Hq.out; omega
        have hL : Hid (ys.take k = ys) := by show _ = _; rw [← hyl.out, List.take_length]
        have hr : Hid (lrestP l cs (s : Int) = (ys, 0)) := by show _ = _; rw [Hys.out]; exact lrestP_ok Hok.out Hw.out (allWideB_true.2 fun j hj => by rw [Int.toNat_natCast, ← Hys.out] at hj ⊢; exact Hj.out j (by rw [← hyl.out]; exact hj))
        go_wp2_with fail
        go_ret2
        rw [hr.out]
        exact ints_of (by have := ho'.out; rw [hL.out] at this; exact this) hb'.out
theorem restL_any (l cs : List Int) (n m : Nat) (hn : n = l.length) (hm : m = cs.length) (hn1 : n ≤ 60000) (hm1 : m ≤ 60000) (sh : Int) (A B : Option Addr) (c d : Nat) (hnc : n ≤ c) (w : World) (ha : Ints .i64 w w.heap.size A l) (hb : Ints .i64 w w.heap.size B cs) :
    Calls Try.prog 15 #[.slice A n c, .slice B m d, .int .i64 sh] w (IntsQ (lrestP l cs sh) w) := by
  cases h : okRest l cs sh with
  | false => exact restL_bad l cs n m hn hm hn1 hm1 sh h A B c d w ha hb
  | true => exact restL_ok l cs n m hn hm hn1 hm1 sh h A B c d hnc w ha hb
end Go.Proofs.Ytmbebcgicddbnaa
