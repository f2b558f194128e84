/-
  Back, on both sides.
-/
import Derived.Test.YtbigocjodclbhaaProg
import Derived.Test.YtbigocjodclbhaaFC
namespace Go.Proofs.Ytbigocjodclbhaa
open Go.RowKit

theorem at_any (xs : List Int) (n : Nat) (hn : n = xs.length) (hm : n ≤ 140737488355328) (k : Nat) (h1 : 1 ≤ k) (h2 : k ≤ n) (kI : Int) (hkI : kI = (k : Int)) (A : Option Addr) (b c : Nat) (p : Addr) (w : World) (hp : w.cell? p = some (.slice A n c)) (ha : Ints .i64 w b A xs) :
    Calls Try.prog 28 #[.int .i64 kI, .pointer (some p)] w fun e w' => e = .returned (.int .i64 (pk xs k)) ∧ w = w' := by
  subst hkI
  obtain ⟨b1, o1, rfl, hc⟩ := ha.at_ (i := n - k) (by omega)
  have hpk : Hid (pk xs k = ix xs (n - k)) := by show _ = _; unfold pk; rw [hn]
  have hidx : (((n : Int) - (k : Int)).toNat) = n - k := by omega
  have g1 : (k : Int) ≤ (n : Int) := by omega
  have g2 : (n : Int) - (k : Int) < (n : Int) := by omega
  clear hn
  go_enter Try.func28, Try.ntmps28
  go_wp2
  go_ret
  exact ⟨ret_int hpk.out.symm, rfl⟩

set_option maxHeartbeats 1000000 in
theorem guess_any (xs : List Int) (n : Nat) (hn : n = xs.length) (hm : n ≤ 140737488355328) (hw : allWideB xs = true) (o : Nat) (ho : o ≤ 4) (hon : o ≤ n) (A : Option Addr) (c : Nat) (w : World) (ha : Ints .i64 w w.heap.size A xs) :
    Calls Try.prog 24 #[.slice A n c, .int .i64 (o : Int)] w (IntQ (guessF xs o) w) := by
  have hb := bal (brefl w) (.cells #[.slice A n c] 22)
  have hc : (w.alloc (.cells #[.slice A n c] 22)).cell? ⟨w.heap.size, 0, none⟩ = some (.slice A n c) := by simp [World.cell?_alloc_new]
  have ha' := ha.below hb
  have Hw := Lib.hid hw
  have hA1 := fun k h1 h2 kI hk => at_any xs n hn hm k h1 h2 kI hk A _ c _ _ hc ha'
  have HA := Lib.hid hA1
  have Hn := Lib.hid hn
  clear hA1 hw hc ha hn
  rcases o with _ | _ | _ | _ | _ | o
  · go_enter Try.func24, Try.ntmps24
    go_wp2_with fail
    go_ret
    exact ⟨rfl, hb⟩
  · go_enter Try.func24, Try.ntmps24
    go_wp2_with fail
    (with_reducible refine (HA.out 1 (by omega) (by omega) 1 rfl).mono ?_); rintro e w' ⟨rfl, rfl⟩
    go_wp2_with fail
    go_ret
    exact ⟨rfl, hb⟩
  · obtain ⟨p1, p1'⟩ := pk_wide Hw.out (k := 1) (by omega) (by rw [← Hn.out]; omega)
    obtain ⟨p2, p2'⟩ := pk_wide Hw.out (k := 2) (by omega) (by rw [← Hn.out]; omega)
    go_enter Try.func24, Try.ntmps24
    go_wp2_with fail
    (with_reducible refine (HA.out 1 (by omega) (by omega) 1 rfl).mono ?_); rintro e w' ⟨rfl, rfl⟩
    go_wp2_with fail
    (with_reducible refine (HA.out 2 (by omega) (by omega) 2 rfl).mono ?_); rintro e w' ⟨rfl, rfl⟩
    go_wp2_with fail
    go_ret
    exact ⟨rfl, hb⟩
  · obtain ⟨p1, p1'⟩ := pk_wide Hw.out (k := 1) (by omega) (by rw [← Hn.out]; omega)
    obtain ⟨p2, p2'⟩ := pk_wide Hw.out (k := 2) (by omega) (by rw [← Hn.out]; omega)
    obtain ⟨p3, p3'⟩ := pk_wide Hw.out (k := 3) (by omega) (by rw [← Hn.out]; omega)
    go_enter Try.func24, Try.ntmps24
    go_wp2_with fail
    (with_reducible refine (HA.out 1 (by omega) (by omega) 1 rfl).mono ?_); rintro e w' ⟨rfl, rfl⟩
    go_wp2_with fail
    (with_reducible refine (HA.out 2 (by omega) (by omega) 2 rfl).mono ?_); rintro e w' ⟨rfl, rfl⟩
    go_wp2_with fail
    (with_reducible refine (HA.out 3 (by omega) (by omega) 3 rfl).mono ?_); rintro e w' ⟨rfl, rfl⟩
    go_wp2_with fail
    go_ret
    exact ⟨rfl, hb⟩
  · obtain ⟨p1, p1'⟩ := pk_wide Hw.out (k := 1) (by omega) (by rw [← Hn.out]; omega)
    obtain ⟨p2, p2'⟩ := pk_wide Hw.out (k := 2) (by omega) (by rw [← Hn.out]; omega)
    obtain ⟨p3, p3'⟩ := pk_wide Hw.out (k := 3) (by omega) (by rw [← Hn.out]; omega)
    obtain ⟨p4, p4'⟩ := pk_wide Hw.out (k := 4) (by omega) (by rw [← Hn.out]; omega)
    go_enter Try.func24, Try.ntmps24
    go_wp2_with fail
    (with_reducible refine (HA.out 1 (by omega) (by omega) 1 rfl).mono ?_); rintro e w' ⟨rfl, rfl⟩
    go_wp2_with fail
    (with_reducible refine (HA.out 2 (by omega) (by omega) 2 rfl).mono ?_); rintro e w' ⟨rfl, rfl⟩
    go_wp2_with fail
    (with_reducible refine (HA.out 3 (by omega) (by omega) 3 rfl).mono ?_); rintro e w' ⟨rfl, rfl⟩
    go_wp2_with fail
    (with_reducible refine (HA.out 4 (by omega) (by omega) 4 rfl).mono ?_); rintro e w' ⟨rfl, rfl⟩
    go_wp2_with fail
    go_ret
    exact ⟨rfl, hb⟩
  · omega

end Go.Proofs.Ytbigocjodclbhaa
