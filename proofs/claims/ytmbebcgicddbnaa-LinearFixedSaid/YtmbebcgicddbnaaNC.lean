/-
  linear.Back and the reference's LinearBack.
-/
import Derived.Test.YtmbebcgicddbnaaProg
import Derived.Test.YtmbebcgicddbnaaNB
namespace Go.Proofs.Ytmbebcgicddbnaa
open Go.RowKit

theorem backL_bad (warm rest cs : List Int) (n r m : Nat) (hn : n = warm.length) (hm : m = cs.length) (hn1 : n ≤ 60000) (hm1 : m ≤ 60000) (sh : Int) (h : okBack warm cs sh = false) (A B C : Option Addr) (c d e : Nat) (w : World) (hb : Ints .i64 w w.heap.size C cs) :
    Calls Try.prog 12 #[.slice A n c, .slice B r d, .slice C m e, .int .i64 sh] w (IntsQ (lbackP warm rest cs sh) w) := by
  have hr := Lib.hid (lbackP_bad (rest := rest) h)
  have Hmm := Lib.hid hm
  cases hmay : mayN cs sh with
  | false =>
    have Hm := Lib.hid hmay
    clear hmay h hn hm
    go_enter Try.func12, Try.ntmps12
    go_wp2_with fail
    (with_reducible refine (mayL_any cs _ Hmm.out (by omega) _ _ _ _ _ hb).mono ?_); rintro e w' ⟨rfl, rfl⟩
    rw [Hm.out]
    go_wp2_with fail
    go_ret2
    rw [hr.out]
    exact ints_none (brefl w)
  | true =>
    have Hm := Lib.hid hmay
    have hI : ((n : Int) != (m : Int)) = true := by
      have : ¬ warm.length = cs.length := fun h' => by rw [okBack_true.2 ⟨hmay, h'⟩] at h; cases h
      simp; omega
    clear hmay h hn hm
    go_enter Try.func12, Try.ntmps12
    go_wp2_with fail
    (with_reducible refine (mayL_any cs _ Hmm.out (by omega) _ _ _ _ _ hb).mono ?_); rintro e w' ⟨rfl, rfl⟩
    rw [Hm.out]
    go_wp2_with fail
    go_ret2
    rw [hr.out]
    exact ints_none (brefl w)

theorem backR_bad (warm rest cs : List Int) (n r m : Nat) (hn : n = warm.length) (hm : m = cs.length) (hn1 : n ≤ 60000) (hm1 : m ≤ 60000) (sh : Int) (h : okBack warm cs sh = false) (A B C : Option Addr) (c d e : Nat) (w : World) (hb : Ints .i64 w w.heap.size C cs) :
    Calls Try.prog 13 #[.slice A n c, .slice B r d, .slice C m e, .int .i64 sh] w (IntsQ (lbackP warm rest cs sh) w) := by
  have hr := Lib.hid (lbackP_bad (rest := rest) h)
  have Hmm := Lib.hid hm
  cases hmay : mayN cs sh with
  | false =>
    have Hm := Lib.hid hmay
    clear hmay h hn hm
    go_enter Try.func13, Try.ntmps13
    go_wp2_with fail
    (with_reducible refine (mayR_any cs _ Hmm.out (by omega) _ _ _ _ _ hb).mono ?_); rintro e w' ⟨rfl, rfl⟩
    rw [Hm.out]
    go_wp2_with fail
    go_ret2
    rw [hr.out]
    exact ints_none (brefl w)
  | true =>
    have Hm := Lib.hid hmay
    have hI : ((n : Int) != (m : Int)) = true := by
      have : ¬ warm.length = cs.length := fun h' => by rw [okBack_true.2 ⟨hmay, h'⟩] at h; cases h
      simp; omega
    clear hmay h hn hm
    go_enter Try.func13, Try.ntmps13
    go_wp2_with fail
    (with_reducible refine (mayR_any cs _ Hmm.out (by omega) _ _ _ _ _ hb).mono ?_); rintro e w' ⟨rfl, rfl⟩
    rw [Hm.out]
    go_wp2_with fail
    go_ret2
    rw [hr.out]
    exact ints_none (brefl w)

set_option maxHeartbeats 1000000 in
theorem backL_ok (warm rest cs : List Int) (n r m : Nat) (hn : n = warm.length) (hrl : r = rest.length) (hm : m = cs.length) (hn1 : n ≤ 20000) (hr1 : r ≤ 20000) (hm1 : m ≤ 20000) (sh : Int) (hok : okBack warm cs sh = true) (A B C : Option Addr) (c d e : Nat) (w : World)
    (ha : Ints .i64 w w.heap.size A warm) (hb : Ints .i64 w w.heap.size B rest) (hc : Ints .i64 w w.heap.size C cs) :
    Calls Try.prog 12 #[.slice A n c, .slice B r d, .slice C m e, .int .i64 sh] w (IntsQ (lbackP warm rest cs sh) w) := by
  obtain ⟨hmay, hml⟩ := okBack_true.1 hok
  obtain ⟨m1, m2, m3, m4, _⟩ := mayN_true.1 hmay
  obtain ⟨s, rfl⟩ := Int.eq_ofNat_of_zero_le m3
  have hs15 : s ≤ 15 := by omega
  have hmI : ((n : Int) != (m : Int)) = false := by simp; omega
  have Hok := Lib.hid hok
  have Hm := Lib.hid hmay
  have Hn := Lib.hid hn
  have Hr := Lib.hid hrl
  have Hmm := Lib.hid hm
  clear hok hmay hn hm hml hrl m1 m2 m3 m4
  cases hw : allWideB warm with
  | false =>
    have Hw := Lib.hid hw
    clear hw
    go_enter Try.func12, Try.ntmps12
    go_wp2_with fail
    (with_reducible refine (mayL_any cs _ Hmm.out (by omega) _ _ _ _ _ hc).mono ?_); rintro e w' ⟨rfl, rfl⟩
    rw [Hm.out]
    go_wp2_with fail
    (with_reducible refine (allWideN_any warm _ Hn.out (by omega) _ _ _ _ ha).mono ?_); rintro e w' ⟨rfl, rfl⟩
    rw [Hw.out]
    go_wp2_with fail
    go_ret2
    rw [lbackP_w1 Hok.out Hw.out]
    exact ints_none (brefl w)
  | true =>
    have Hw := Lib.hid hw
    clear hw
    cases hw2 : allWideB rest with
    | false =>
      have Hw2 := Lib.hid hw2
      clear hw2
      go_enter Try.func12, Try.ntmps12
      go_wp2_with fail
      (with_reducible refine (mayL_any cs _ Hmm.out (by omega) _ _ _ _ _ hc).mono ?_); rintro e w' ⟨rfl, rfl⟩
      rw [Hm.out]
      go_wp2_with fail
      (with_reducible refine (allWideN_any warm _ Hn.out (by omega) _ _ _ _ ha).mono ?_); rintro e w' ⟨rfl, rfl⟩
      rw [Hw.out]
      go_wp2_with fail
      (with_reducible refine (allWideN_any rest _ Hr.out (by omega) _ _ _ _ hb).mono ?_); rintro e w' ⟨rfl, rfl⟩
      rw [Hw2.out]
      go_wp2_with fail
      go_ret2
      rw [lbackP_w2 Hok.out Hw.out Hw2.out]
      exact ints_none (brefl w)
    | true =>
      have Hw2 := Lib.hid hw2
      clear hw2
      obtain ⟨q, hq⟩ : ∃ q : Nat, q = n + r := ⟨_, rfl⟩
      have e1 : (n : Int) + (r : Int) = (q : Int) := by omega
      have hq1 : q ≤ 65536 := by omega
      have hmk := run_mk0 q hq1
      clear hq
      go_enter Try.func12, Try.ntmps12
      go_wp2_with fail
      (with_reducible refine (mayL_any cs _ Hmm.out (by omega) _ _ _ _ _ hc).mono ?_); rintro e w' ⟨rfl, rfl⟩
      rw [Hm.out]
      go_wp2_with fail
      (with_reducible refine (allWideN_any warm _ Hn.out (by omega) _ _ _ _ ha).mono ?_); rintro e w' ⟨rfl, rfl⟩
      rw [Hw.out]
      go_wp2_with fail
      (with_reducible refine (allWideN_any rest _ Hr.out (by omega) _ _ _ _ hb).mono ?_); rintro e w' ⟨rfl, rfl⟩
      rw [Hw2.out]
      have ho1 := Lib.hid (own_mk0 w q hq1)
      have hb1 := Lib.hid (bal (brefl w) (zobj q))
      go_wp2_with (at_builtin; refine app_z0 _ rfl (.tmp 39) (.tmp 40) rfl w _ _ rfl ho1.out _ _ n c warm rfl Hn.out.symm (ha.below hb1.out) (by omega) hb1.out ?_; intro A1 c1 w1 ho2 hb2)
      have ho2' := Lib.hid ho2
      have hb2' := Lib.hid hb2
      clear hmk e1 ho2 hb2
      go_loopw [10, 12, 13, 44] (fun ov _ _ iv wr => (∃ (k : Nat) (out : List Int) (A' : Option Addr) (c' : Nat), k ≤ r ∧ iv = .int .i64 k ∧ ov = .slice A' (n + k) c' ∧ OwnZ wr w.heap.size A' (n + k) c' out ∧ backN cs s out (rest.drop k) = backN cs s warm rest) ∧ Below w.heap.size w wr) (fun _ _ _ iv _ => r - (intOf iv).toNat)
      case atStart => exact ⟨⟨0, warm, A1, c1, Nat.zero_le _, rfl, rfl, ho2'.out, rfl⟩, hb2'.out⟩
      case round =>
        obtain ⟨⟨k, out, A2, c2, hk, rfl, rfl, ho, hbk⟩, hbl⟩ := hrel
        obtain ⟨wo, rfl⟩ : ∃ wo : World, wo = wr := ⟨_, rfl⟩
        have ho' := Lib.hid ho
        have hb' := Lib.hid hbl
        have Hbk := Lib.hid hbk
        have hlo := Lib.hid ho.len
        clear ho hbl hbk
        by_cases hlt : k < r
        · have hr' := hb.below hb'.out
          have hc' := hc.below hb'.out
          obtain ⟨b1, o1, rfl, hc1⟩ := hr'.at_ (i := k) (by rw [← Hr.out]; exact hlt)
          obtain ⟨x, hx⟩ : ∃ x, x = wrap64 (predP out cs s + ix rest k) := ⟨_, rfl⟩
          have Hx := Lib.hid hx
          have hdr := Lib.hid (drop_ix (xs := rest) (k := k) (by rw [← Hr.out]; exact hlt))
          clear hx
          go_wp2_with fail
          (with_reducible refine (predict_any out cs _ _ hlo.out.symm Hmm.out (by omega) (by omega) s hs15 _ rfl _ _ _ _ _ _ _ (OwnZ.ints ho'.out) hc').mono ?_); rintro e w' ⟨rfl, rfl⟩
          go_wp2_with fail
          rw [← Hx.out]
          (with_reducible refine (wideN_any _ _).mono ?_); rintro e w' ⟨rfl, rfl⟩
          cases hy : wideB x with
          | false =>
            have Hy := Lib.hid hy
            clear hy
            have hr : Hid (lbackP warm rest cs (s : Int) = ([], 6)) := lbackP_none Hok.out Hw.out Hw2.out (by rw [Int.toNat_natCast, ← Hbk.out, hdr.out, backN_cons, ← Hx.out, if_neg (by rw [Hy.out]; simp)])
            go_wp2_with fail
            go_ret2
            rw [hr.out]
            exact ints_none hb'.out
          | true =>
            have Hy := Lib.hid hy
            clear hy
            go_wp2_with (at_builtin; refine app_z _ rfl (.tmp 57) (.tmp 59) rfl w _ _ _ _ rfl (ho'.out.alloc _) _ _ 1 1 [x] rfl rfl (rd_new1 _ _ _) (by omega) (bal hb'.out _) ?_; intro A4 c4 w4 ho4 hb4)
            have ho4' := Lib.hid ho4
            have hb4' := Lib.hid hb4
            clear ho4 hb4
            go_roundw
            case rel =>
              refine ⟨⟨k + 1, out ++ [x], A4, c4, by omega, by go_num, rfl, ho4'.out, ?_⟩, hb4'.out⟩
              rw [← Hbk.out, hdr.out, backN_cons, ← Hx.out, if_pos Hy.out]
            case measure => simp [intOf]; omega
        · have e : k = r := by omega
          subst e
          have hr : Hid (lbackP warm rest cs (s : Int) = (out, 0)) := lbackP_some Hok.out Hw.out Hw2.out (by rw [Int.toNat_natCast, ← Hbk.out, Hr.out, List.drop_length]; rfl)
          go_wp2_with fail
          go_ret2
          rw [hr.out]
          exact ints_of ho'.out hb'.out

set_option maxHeartbeats 1000000 in
theorem backR_ok (warm rest cs : List Int) (n r m : Nat) (hn : n = warm.length) (hrl : r = rest.length) (hm : m = cs.length) (hn1 : n ≤ 20000) (hr1 : r ≤ 20000) (hm1 : m ≤ 20000) (sh : Int) (hok : okBack warm cs sh = true) (A B C : Option Addr) (c d e : Nat) (w : World)
    (ha : Ints .i64 w w.heap.size A warm) (hb : Ints .i64 w w.heap.size B rest) (hc : Ints .i64 w w.heap.size C cs) :
    Calls Try.prog 13 #[.slice A n c, .slice B r d, .slice C m e, .int .i64 sh] w (IntsQ (lbackP warm rest cs sh) w) := by
  obtain ⟨hmay, hml⟩ := okBack_true.1 hok
  obtain ⟨m1, m2, m3, m4, _⟩ := mayN_true.1 hmay
  obtain ⟨s, rfl⟩ := Int.eq_ofNat_of_zero_le m3
  have hs15 : s ≤ 15 := by omega
  have hmI : ((n : Int) != (m : Int)) = false := by simp; omega
  have Hok := Lib.hid hok
  have Hm := Lib.hid hmay
  have Hn := Lib.hid hn
  have Hr := Lib.hid hrl
  have Hmm := Lib.hid hm
  clear hok hmay hn hm hml hrl m1 m2 m3 m4
  cases hw : allWideB warm with
  | false =>
    have Hw := Lib.hid hw
    clear hw
    go_enter Try.func13, Try.ntmps13
    go_wp2_with fail
    (with_reducible refine (mayR_any cs _ Hmm.out (by omega) _ _ _ _ _ hc).mono ?_); rintro e w' ⟨rfl, rfl⟩
    rw [Hm.out]
    go_wp2_with fail
    (with_reducible refine (allWide2_any warm _ Hn.out (by omega) _ _ _ _ ha).mono ?_); rintro e w' ⟨rfl, rfl⟩
    rw [Hw.out]
    go_wp2_with fail
    go_ret2
    rw [lbackP_w1 Hok.out Hw.out]
    exact ints_none (brefl w)
  | true =>
    have Hw := Lib.hid hw
    clear hw
    cases hw2 : allWideB rest with
    | false =>
      have Hw2 := Lib.hid hw2
      clear hw2
      go_enter Try.func13, Try.ntmps13
      go_wp2_with fail
      (with_reducible refine (mayR_any cs _ Hmm.out (by omega) _ _ _ _ _ hc).mono ?_); rintro e w' ⟨rfl, rfl⟩
      rw [Hm.out]
      go_wp2_with fail
      (with_reducible refine (allWide2_any warm _ Hn.out (by omega) _ _ _ _ ha).mono ?_); rintro e w' ⟨rfl, rfl⟩
      rw [Hw.out]
      go_wp2_with fail
      (with_reducible refine (allWide2_any rest _ Hr.out (by omega) _ _ _ _ hb).mono ?_); rintro e w' ⟨rfl, rfl⟩
      rw [Hw2.out]
      go_wp2_with fail
      go_ret2
      rw [lbackP_w2 Hok.out Hw.out Hw2.out]
      exact ints_none (brefl w)
    | true =>
      have Hw2 := Lib.hid hw2
      clear hw2
      go_enter Try.func13, Try.ntmps13
      go_wp2_with fail
      (with_reducible refine (mayR_any cs _ Hmm.out (by omega) _ _ _ _ _ hc).mono ?_); rintro e w' ⟨rfl, rfl⟩
      rw [Hm.out]
      go_wp2_with fail
      (with_reducible refine (allWide2_any warm _ Hn.out (by omega) _ _ _ _ ha).mono ?_); rintro e w' ⟨rfl, rfl⟩
      rw [Hw.out]
      go_wp2_with fail
      (with_reducible refine (allWide2_any rest _ Hr.out (by omega) _ _ _ _ hb).mono ?_); rintro e w' ⟨rfl, rfl⟩
      rw [Hw2.out]
      have hb1 := Lib.hid (bal (brefl w) (.cells #[] 3))
      go_wp2_with (at_builtin; refine app_z0 _ rfl (.tmp 32) (.tmp 33) rfl w _ _ rfl (own_emptyZ w) _ _ n c warm rfl Hn.out.symm (ha.below hb1.out) (by omega) hb1.out ?_; intro A1 c1 w1 ho2 hb2)
      have ho2' := Lib.hid ho2
      have hb2' := Lib.hid hb2
      clear ho2 hb2
      go_loopw [10, 11, 12] (fun ov iv _ wr => (∃ (k : Nat) (out : List Int) (A' : Option Addr) (c' : Nat), k ≤ r ∧ iv = .int .i64 k ∧ ov = .slice A' (n + k) c' ∧ OwnZ wr w.heap.size A' (n + k) c' out ∧ allWideB out = true ∧ backN cs s out (rest.drop k) = backN cs s warm rest) ∧ Below w.heap.size w wr) (fun _ iv _ _ => r - (intOf iv).toNat)
      case atStart => exact ⟨⟨0, warm, A1, c1, Nat.zero_le _, rfl, rfl, ho2'.out, Hw.out, rfl⟩, hb2'.out⟩
      case round =>
        obtain ⟨⟨k, out, A2, c2, hk, rfl, rfl, ho, hwo, hbk⟩, hbl⟩ := hrel
        obtain ⟨wo, rfl⟩ : ∃ wo : World, wo = wr := ⟨_, rfl⟩
        have ho' := Lib.hid ho
        have hb' := Lib.hid hbl
        have Hbk := Lib.hid hbk
        have hlo := Lib.hid ho.len
        have Hwo := Lib.hid hwo
        clear ho hbl hbk hwo
        by_cases hlt : k < r
        · have hr' := hb.below hb'.out
          have hc' := hc.below hb'.out
          obtain ⟨b1, o1, rfl, hc1⟩ := hr'.at_ (i := k) (by rw [← Hr.out]; exact hlt)
          obtain ⟨x, hx⟩ : ∃ x, x = wrap64 (predP out cs s + ix rest k) := ⟨_, rfl⟩
          have Hx := Lib.hid hx
          have hdr := Lib.hid (drop_ix (xs := rest) (k := k) (by rw [← Hr.out]; exact hlt))
          obtain ⟨gv, hgv⟩ : ∃ gv, gv = predP out cs s := ⟨_, rfl⟩
          have Hgv := Lib.hid hgv
          have hxe : IntKind.i64.wrap (ix rest k + gv) = x := by rw [IntWalk.i64_left, hx, hgv, Int.add_comm]
          have hgu : ∀ w', OwnZ w' w.heap.size A2 (n + k) c2 out → Ints .i64 w' w.heap.size C cs → Calls Try.prog 31 #[.slice A2 (n + k) c2, .slice C m e, .int .i64 (s : Int)] w' fun e w'' => e = .returned (.int .i64 gv) ∧ w'' = w' := fun w' h1 h2 => by
            rw [Hgv.out, ← guessP_yes (past := out) Hm.out]; exact (guessR_any out cs _ _ hlo.out.symm Hmm.out (by omega) (by omega) Hwo.out _ _ _ _ _ _ _ _ (OwnZ.ints h1) h2).mono fun _ _ ⟨h1, h2⟩ => ⟨h1, h2.symm⟩
          have Hgu := Lib.hid hgu
          have Hxe := Lib.hid hxe
          clear hx hgv hxe hgu
          go_wp2_with fail
          have t1 := Hxe.out
          have t2 : (0 : Int) ≤ (k : Int) := by omega
          have t3 : (k : Int) < (r : Int) := by omega
          go_quiet ((go_at_call 31; exact Calls.quiet_of_same (Hgu.out _ (ho'.out.drewN _) (hc'.drewN _))))
          clear t1
          go_wp2_with fail
          (with_reducible refine (wide2_any _ _).mono ?_); rintro e w' ⟨rfl, rfl⟩
          cases hy : wideB x with
          | false =>
            have Hy := Lib.hid hy
            clear hy
            have hr : Hid (lbackP warm rest cs (s : Int) = ([], 6)) := lbackP_none Hok.out Hw.out Hw2.out (by rw [Int.toNat_natCast, ← Hbk.out, hdr.out, backN_cons, ← Hx.out, if_neg (by rw [Hy.out]; simp)])
            go_wp2_with fail
            go_ret2
            rw [hr.out]
            exact ints_none (below_drewN hb'.out _)
          | true =>
            have Hy := Lib.hid hy
            clear hy
            go_wp2_with (at_builtin; refine app_z _ rfl (.tmp 53) (.tmp 55) rfl w _ _ _ _ rfl ((ho'.out.drewN _).alloc _) _ _ 1 1 [x] rfl rfl (rd_new1 _ _ _) (by omega) (bal (below_drewN hb'.out _) _) ?_; intro A4 c4 w4 ho4 hb4)
            have ho4' := Lib.hid ho4
            have hb4' := Lib.hid hb4
            clear ho4 hb4
            go_roundw
            case rel =>
              refine ⟨⟨k + 1, out ++ [x], A4, c4, by omega, by go_num, rfl, ho4'.out, allWide_snoc Hwo.out Hy.out, ?_⟩, hb4'.out⟩
              rw [← Hbk.out, hdr.out, backN_cons, ← Hx.out, if_pos Hy.out]
            case measure => simp [intOf]; omega
        · have e : k = r := by omega
          subst e
          have hr : Hid (lbackP warm rest cs (s : Int) = (out, 0)) := lbackP_some Hok.out Hw.out Hw2.out (by rw [Int.toNat_natCast, ← Hbk.out, Hr.out, List.drop_length]; rfl)
          go_wp2_with fail
          go_ret2
          rw [hr.out]
          exact ints_of ho'.out hb'.out

theorem backL_any (warm rest cs : List Int) (n r m : Nat) (hn : n = warm.length) (hrl : r = rest.length) (hm : m = cs.length) (hn1 : n ≤ 20000) (hr1 : r ≤ 20000) (hm1 : m ≤ 20000) (sh : Int) (A B C : Option Addr) (c d e : Nat) (w : World)
    (ha : Ints .i64 w w.heap.size A warm) (hb : Ints .i64 w w.heap.size B rest) (hc : Ints .i64 w w.heap.size C cs) :
    Calls Try.prog 12 #[.slice A n c, .slice B r d, .slice C m e, .int .i64 sh] w (IntsQ (lbackP warm rest cs sh) w) := by
  cases h : okBack warm cs sh with
  | false => exact backL_bad warm rest cs n r m hn hm (by omega) (by omega) sh h A B C c d e w hc
  | true => exact backL_ok warm rest cs n r m hn hrl hm hn1 hr1 hm1 sh h A B C c d e w ha hb hc
theorem backR_any (warm rest cs : List Int) (n r m : Nat) (hn : n = warm.length) (hrl : r = rest.length) (hm : m = cs.length) (hn1 : n ≤ 20000) (hr1 : r ≤ 20000) (hm1 : m ≤ 20000) (sh : Int) (A B C : Option Addr) (c d e : Nat) (w : World)
    (ha : Ints .i64 w w.heap.size A warm) (hb : Ints .i64 w w.heap.size B rest) (hc : Ints .i64 w w.heap.size C cs) :
    Calls Try.prog 13 #[.slice A n c, .slice B r d, .slice C m e, .int .i64 sh] w (IntsQ (lbackP warm rest cs sh) w) := by
  cases h : okBack warm cs sh with
  | false => exact backR_bad warm rest cs n r m hn hm (by omega) (by omega) sh h A B C c d e w hc
  | true => exact backR_ok warm rest cs n r m hn hrl hm hn1 hr1 hm1 sh h A B C c d e w ha hb hc
end Go.Proofs.Ytmbebcgicddbnaa
