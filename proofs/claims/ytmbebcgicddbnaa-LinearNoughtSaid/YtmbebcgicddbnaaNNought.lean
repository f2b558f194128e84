/-
  LinearNought: the walk of the law.
-/
import Derived.Test.YtmbebcgicddbnaaProg
import Derived.Test.YtmbebcgicddbnaaNK
import Derived.Test.YtmbebcgicddbnaaNF
namespace Go.Proofs.Ytmbebcgicddbnaa
open Go.RowKit

set_option maxHeartbeats 1000000 in
theorem nought_any (ks : List Int) (hm : ks.length ≤ 9223372036854775807) (A : Option Addr) (c : Nat) (past : List Int) (hm2 : past.length ≤ 9223372036854775807) (A2 : Option Addr) (c2 : Nat) (hcap : past.length ≤ c2) (cs : List Int) (hm3 : cs.length ≤ 9223372036854775807) (A3 : Option Addr) (c3 : Nat) (sh : Int) (w : World)
    (ha : Ints .i64 w w.heap.size A ks) (_f1 : Fit .i64 ks) (hb : Ints .i64 w w.heap.size A2 past) (_f2 : Fit .i64 past) (hc : Ints .i64 w w.heap.size A3 cs) (_f3 : Fit .i64 cs) (_f4 : (Lit.int .i64 sh).wf = true) :
    Calls Try.prog 6 #[.slice A ks.length c, .slice A2 past.length c2, .slice A3 cs.length c3, .int .i64 sh] w fun e w' => e = .returned (.bool true) ∧ Below w.heap.size w w' := by
  by_cases q0 : 31 < ks.length
  · have hI : (31 : Int) < (ks.length : Int) := by omega
    go_enter Try.func6, Try.ntmps6
    go_wp2_with fail
    (with_reducible refine (known_any _).mono ?_); rintro e w1 ⟨rfl, b1⟩
    go_wp2_with fail
    go_ret
    exact ⟨rfl, b1⟩
  have q0I : (ks.length : Int) ≤ 31 := by omega
  by_cases q1 : 31 < cs.length
  · have hI : (31 : Int) < (cs.length : Int) := by omega
    go_enter Try.func6, Try.ntmps6
    go_wp2_with fail
    (with_reducible refine (known_any _).mono ?_); rintro e w1 ⟨rfl, b1⟩
    go_wp2_with fail
    go_ret
    exact ⟨rfl, b1⟩
  have q1I : (cs.length : Int) ≤ 31 := by omega
  by_cases q2 : 100 < past.length
  · have hI : (100 : Int) < (past.length : Int) := by omega
    go_enter Try.func6, Try.ntmps6
    go_wp2_with fail
    (with_reducible refine (known_any _).mono ?_); rintro e w1 ⟨rfl, b1⟩
    go_wp2_with fail
    go_ret
    exact ⟨rfl, b1⟩
  have q2I : (past.length : Int) ≤ 100 := by omega
  clear q0 q1 q2
  cases hw : allWideB past with
  | false =>
    have Hw := Lib.hid hw
    clear hw
    go_enter Try.func6, Try.ntmps6
    go_wp2_with fail
    (with_reducible refine (known_any _).mono ?_); rintro e w1 ⟨rfl, b1⟩
    go_wp2_with fail
    (with_reducible refine (allWide2_any past _ rfl (by omega) _ _ _ _ (hb.below b1)).mono ?_); rintro e w' ⟨rfl, rfl⟩
    rw [Hw.out]
    go_wp2_with fail
    go_ret
    exact ⟨rfl, b1⟩
  | true =>
  have Hw := Lib.hid hw
  clear hw
  have hl1 := @climbP_len ks
  by_cases he : (climbP ks).2 = 0
  · have heb : ((climbP ks).2 == 0) = true := by simp [he]
    have hn := climb_nought (by omega) he
    have Hn := Lib.hid hn
    have s1 : eqI ((climbP ks).1 ++ [0]) ((climbP ks).1 ++ [0]) = true := eqI_refl _
    clear he hn
    go_enter Try.func6, Try.ntmps6
    go_wp2_with fail
    (with_reducible refine (known_any _).mono ?_); rintro e w1 ⟨rfl, b1⟩
    go_wp2_with fail
    (with_reducible refine (allWide2_any past _ rfl (by omega) _ _ _ _ (hb.below b1)).mono ?_); rintro e w' ⟨rfl, rfl⟩
    rw [Hw.out]
    go_wp2_with fail
    (with_reducible refine (climbL_any ks _ rfl (by omega) _ _ _ ((ha.below b1).more b1.size)).mono ?_); rintro e w2 ⟨R2, r2, rfl, hr2, b2⟩
    have B2 := bth b1 b2
    have z2 := OwnZ.ints hr2
    have ha2 := ha.below B2
    go_wp2_with (first
      | (at_builtin; refine app_z0 _ rfl (.tmp 39) (.tmp 40) rfl w2 _ _ rfl (own_emptyZ w2) _ _ ks.length _ ks rfl rfl ((ha2.more B2.size).below (bal (brefl w2) _)) (by omega) (bal (brefl w2) _) ?_; intro A4 c4 w4 ho4 hb4)
      | (at_builtin; refine app_z _ rfl (.tmp 41) (.tmp 42) rfl w2 _ _ _ _ rfl (ho4.alloc _) _ _ 1 1 [0] rfl rfl (rd_new1 _ _ _) (by omega) (bal hb4 _) ?_; intro A5 c5 w5 ho5 hb5))
    (with_reducible refine (climbL_any (ks ++ [0]) _ (by simp) (by omega) _ _ _ (OwnZ.ints ho5)).mono ?_); rintro e w6 ⟨R6, r6, rfl, hr6, b6⟩
    have C6 := bth hb5 b6
    have B6 := bth B2 C6
    have z2 := z2.below C6
    have z6 := OwnZ.ints hr6
    rw [Hn.out] at z6 ⊢
    have hll : ((climbP ks).1 ++ [(0 : Int)]).length = (climbP ks).1.length + 1 := by simp
    have Hll := Lib.hid hll
    rw [Hll.out]
    clear hll
    go_wp2_with (first
      | (at_builtin; refine app_zw0 _ (by simp [Region.wanted, yielded]) (.tmp 54) (.tmp 55) rfl w6 _ _ rfl (own_emptyZ w6) _ _ (climbP ks).1.length _ (climbP ks).1 rfl rfl ((z2.more C6.size).below (bal (brefl w6) _)) (by omega) (bal (brefl w6) _) ?_; intro A7 c7 w7 ho7 hb7)
      | (at_builtin; refine app_zw _ (by simp [Region.wanted, yielded]) (.tmp 56) (.tmp 57) rfl w6 _ _ _ _ rfl (ho7.alloc _) _ _ 1 1 [0] rfl rfl (rd_new1 _ _ _) (by omega) (bal hb7 _) ?_; intro A8 c8 w8 ho8 hb8))
    (with_reducible refine (same_q ((climbP ks).1 ++ [0]) ((climbP ks).1 ++ [0]) _ _ Hll.out.symm Hll.out.symm (by omega) (by omega) _ _ _ _ _ _ _ (z6.below hb8) (OwnZ.ints ho8)).mono ?_); rintro e u1 ⟨rfl, v1⟩
    rw [s1]
    have U1 := bth B6 (bth hb8 v1)
    clear hr2 hr6 b1 b2 b6 C6 B2 B6 ho4 hb4 ho5 hb5 z2 z6 ha2 ho7 hb7 ho8 hb8 v1
    go_wp2_with fail
    (with_reducible refine (mayL_any cs _ rfl (by omega) _ _ _ _ _ ((hc.below U1).more U1.size)).mono ?_); rintro e w' ⟨rfl, rfl⟩
    cases hmay : mayN cs sh with
    | false =>
      have hg := Lib.hid (guessP_no (past := past) hmay)
      clear hmay
      go_wp2_with fail
      (with_reducible refine (guessL_any past cs _ _ rfl rfl (by omega) (by omega) Hw.out _ _ _ _ _ _ _ hcap _ ((hb.below U1).more U1.size) ((hc.below U1).more U1.size)).mono ?_); rintro e w' ⟨rfl, rfl⟩
      rw [hg.out]
      go_wp2_with fail
      go_ret
      exact ⟨rfl, U1⟩
    | true =>
      have hg : Hid (guessP past (cs ++ [0]) sh = guessP past cs sh) := by
        show _ = _
        unfold guessP
        rw [if_pos hmay, if_pos (mayN_nought (by omega) hmay), pred_nought]
      clear hmay
      go_wp2_with fail
      (with_reducible refine (guessL_any past cs _ _ rfl rfl (by omega) (by omega) Hw.out _ _ _ _ _ _ _ hcap _ ((hb.below U1).more U1.size) ((hc.below U1).more U1.size)).mono ?_); rintro e w' ⟨rfl, rfl⟩
      go_wp2_with (first
        | (at_builtin; refine app_z0 _ rfl (.tmp 77) (.tmp 78) rfl u1 _ _ rfl (own_emptyZ u1) _ _ cs.length _ cs rfl rfl (((hc.below U1).more U1.size).below (bal (brefl u1) _)) (by omega) (bal (brefl u1) _) ?_; intro A8 c8 w8 ho8 hb8)
        | (at_builtin; refine app_z _ rfl (.tmp 79) (.tmp 80) rfl u1 _ _ _ _ rfl (ho8.alloc _) _ _ 1 1 [0] rfl rfl (rd_new1 _ _ _) (by omega) (bal hb8 _) ?_; intro A9 c9 w9 ho9 hb9))
      have BY := bth U1 hb9
      (with_reducible refine (guessL_any past (cs ++ [0]) _ _ rfl (by simp) (by omega) (by omega) Hw.out _ _ _ _ _ _ _ hcap _ ((hb.below BY).more BY.size) (OwnZ.ints ho9)).mono ?_); rintro e w' ⟨rfl, rfl⟩
      rw [hg.out]
      go_wp2_with fail
      go_ret
      exact ⟨by simp, BY⟩
  · have heb : ((climbP ks).2 == 0) = false := by simp [he]
    clear he
    go_enter Try.func6, Try.ntmps6
    go_wp2_with fail
    (with_reducible refine (known_any _).mono ?_); rintro e w1 ⟨rfl, b1⟩
    go_wp2_with fail
    (with_reducible refine (allWide2_any past _ rfl (by omega) _ _ _ _ (hb.below b1)).mono ?_); rintro e w' ⟨rfl, rfl⟩
    rw [Hw.out]
    go_wp2_with fail
    (with_reducible refine (climbL_any ks _ rfl (by omega) _ _ _ ((ha.below b1).more b1.size)).mono ?_); rintro e w2 ⟨R2, r2, rfl, hr2, b2⟩
    have B2 := bth b1 b2
    have z2 := OwnZ.ints hr2
    have ha2 := ha.below B2
    go_wp2_with (first
      | (at_builtin; refine app_z0 _ rfl (.tmp 39) (.tmp 40) rfl w2 _ _ rfl (own_emptyZ w2) _ _ ks.length _ ks rfl rfl ((ha2.more B2.size).below (bal (brefl w2) _)) (by omega) (bal (brefl w2) _) ?_; intro A4 c4 w4 ho4 hb4)
      | (at_builtin; refine app_z _ rfl (.tmp 41) (.tmp 42) rfl w2 _ _ _ _ rfl (ho4.alloc _) _ _ 1 1 [0] rfl rfl (rd_new1 _ _ _) (by omega) (bal hb4 _) ?_; intro A5 c5 w5 ho5 hb5))
    (with_reducible refine (climbL_any (ks ++ [0]) _ (by simp) (by omega) _ _ _ (OwnZ.ints ho5)).mono ?_); rintro e w6 ⟨R6, r6, rfl, hr6, b6⟩
    have C6 := bth hb5 b6
    have B6 := bth B2 C6
    have z2 := z2.below C6
    have z6 := OwnZ.ints hr6
    obtain ⟨e6, he6⟩ : ∃ e6, e6 = (climbP (ks ++ [0])).2 := ⟨_, rfl⟩
    rw [← he6]
    clear he6 hr2 b1 b2 C6 B2 ho4 hb4 ho5 hb5 z2 z6 ha2
    go_wp2_with fail
    (with_reducible refine (mayL_any cs _ rfl (by omega) _ _ _ _ _ ((hc.below B6).more B6.size)).mono ?_); rintro e w' ⟨rfl, rfl⟩
    cases hmay : mayN cs sh with
    | false =>
      have hg := Lib.hid (guessP_no (past := past) hmay)
      clear hmay
      go_wp2_with fail
      (with_reducible refine (guessL_any past cs _ _ rfl rfl (by omega) (by omega) Hw.out _ _ _ _ _ _ _ hcap _ ((hb.below B6).more B6.size) ((hc.below B6).more B6.size)).mono ?_); rintro e w' ⟨rfl, rfl⟩
      rw [hg.out]
      go_wp2_with fail
      go_ret
      exact ⟨rfl, B6⟩
    | true =>
      have hg : Hid (guessP past (cs ++ [0]) sh = guessP past cs sh) := by
        show _ = _
        unfold guessP
        rw [if_pos hmay, if_pos (mayN_nought (by omega) hmay), pred_nought]
      clear hmay
      go_wp2_with fail
      (with_reducible refine (guessL_any past cs _ _ rfl rfl (by omega) (by omega) Hw.out _ _ _ _ _ _ _ hcap _ ((hb.below B6).more B6.size) ((hc.below B6).more B6.size)).mono ?_); rintro e w' ⟨rfl, rfl⟩
      go_wp2_with (first
        | (at_builtin; refine app_z0 _ rfl (.tmp 77) (.tmp 78) rfl w6 _ _ rfl (own_emptyZ w6) _ _ cs.length _ cs rfl rfl (((hc.below B6).more B6.size).below (bal (brefl w6) _)) (by omega) (bal (brefl w6) _) ?_; intro A8 c8 w8 ho8 hb8)
        | (at_builtin; refine app_z _ rfl (.tmp 79) (.tmp 80) rfl w6 _ _ _ _ rfl (ho8.alloc _) _ _ 1 1 [0] rfl rfl (rd_new1 _ _ _) (by omega) (bal hb8 _) ?_; intro A9 c9 w9 ho9 hb9))
      have BY := bth B6 hb9
      (with_reducible refine (guessL_any past (cs ++ [0]) _ _ rfl (by simp) (by omega) (by omega) Hw.out _ _ _ _ _ _ _ hcap _ ((hb.below BY).more BY.size) (OwnZ.ints ho9)).mono ?_); rintro e w' ⟨rfl, rfl⟩
      rw [hg.out]
      go_wp2_with fail
      go_ret
      exact ⟨by simp, BY⟩
end Go.Proofs.Ytmbebcgicddbnaa
