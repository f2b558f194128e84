/-
  The hash: Join at every argument; known.
-/
import Derived.Test.YtfdkodcnbjmlbaaProg
import Derived.Test.YtfdkodcnbjmlbaaSF
import Derived.Test.YtfdkodcnbjmlbaaO
import Derived.Lib.SlBytesConst
import Derived.Lib.SmallJoins
namespace Go.Proofs.Ytfdkodcnbjmlbaa
open Go.RowKit

theorem ints_take {k : IntKind} {w : World} {B : Nat} {A : Option Addr} {l : List Int} (h : Ints k w B A l) (n : Nat) : Ints k w B A (l.take n) := fun hn => by
  obtain ⟨b, off, e, hb, hc⟩ := h (by rw [List.length_map] at hn ⊢; rw [List.length_take] at hn; omega)
  refine ⟨b, off, e, hb, fun i u hu => hc i u ?_⟩
  rw [List.map_take, List.getElem?_take] at hu
  split at hu
  · exact hu
  · cases hu
theorem ints_drop {k : IntKind} {w : World} {B b off : Nat} {l : List Int} (h : Ints k w B (some ⟨b, off, none⟩) l) (n : Nat) : Ints k w B (some ⟨b, off + n, none⟩) (l.drop n) := fun hn => by
  obtain ⟨b', off', e, hb, hc⟩ := h (by rw [List.length_map] at hn ⊢; rw [List.length_drop] at hn; omega)
  cases e
  refine ⟨b, off + n, rfl, hb, fun i u hu => ?_⟩
  rw [List.map_drop, List.getElem?_drop] at hu
  have := hc (n + i) u hu
  rwa [← Nat.add_assoc] at this
theorem byt_of {l : List Int} (h : Fit .u8 l) : Byt l := fun x hx => by
  have m3 : IntKind.u8.min = 0 := by decide
  have m4 : IntKind.u8.max = 255 := by decide
  have := h x hx
  simp [Lit.wf, m3, m4] at this
  omega
theorem byt_take {l : List Int} (h : Byt l) (n : Nat) : Byt (l.take n) := fun x hx => h x (List.mem_of_mem_take hx)
theorem byt_drop {l : List Int} (h : Byt l) (n : Nat) : Byt (l.drop n) := fun x hx => h x (List.mem_of_mem_drop hx)
theorem byt_append {a b : List Int} (h : Byt a) (h2 : Byt b) : Byt (a ++ b) := fun x hx => by
  rcases List.mem_append.1 hx with h' | h'
  · exact h x h'
  · exact h2 x h'

section
variable (l : List Int) (hf : Byt l) (n : Nat) (hn : n = l.length) (hm : n ≤ 140737488355328) (A : Option Addr) (b c : Nat) (w : World) (ha : Ints .u8 w b A l)
include hf hn hm ha
theorem printL_q : Calls Try.prog 18 #[.slice A n c] w fun e w' => e = .returned (.int .u64 (printN l : Int)) ∧ Below w.heap.size w w' :=
  (printL_any l hf n hn hm A b c w ha).mono fun e w' ⟨h, n, hw⟩ => ⟨h, by rw [hw]; exact below_drewN (brefl w) n⟩
theorem printR_q : Calls Try.prog 19 #[.slice A n c] w fun e w' => e = .returned (.int .u64 (printN l : Int)) ∧ Below w.heap.size w w' :=
  (printR_any l hf n hn hm A b c w ha).mono fun e w' ⟨h, n, hw⟩ => ⟨h, by rw [hw]; exact below_drewN (brefl w) n⟩
end
theorem powerL_q (n : Int) (hn : n ≤ 9223372036854775807) (w : World) : Calls Try.prog 22 #[.int .i64 n] w fun e w' => e = .returned (.int .u64 (powerN n.toNat : Int)) ∧ Below w.heap.size w w' :=
  (powerL_any n hn w).mono fun e w' ⟨h, n, hw⟩ => ⟨h, by rw [hw]; exact below_drewN (brefl w) n⟩

/-- may three numbers be joined? -/
def joinB (a b : Nat) (n : Int) : Bool := decide (a < 2305843009213693951) && decide (b < 2305843009213693951) && decide (0 ≤ n)
def joinV (a b : Nat) (n : Int) : Nat := if joinB a b n = true then joinP a b n.toNat else 0
theorem joinB_true {a b : Nat} {n : Int} : joinB a b n = true ↔ a < 2305843009213693951 ∧ b < 2305843009213693951 ∧ 0 ≤ n := by simp [joinB, and_assoc]
theorem joinV_ok {a b : Nat} {n : Int} (h : joinB a b n = true) : joinV a b n = joinP a b n.toNat := if_pos h
theorem joinV_no {a b : Nat} {n : Int} (h : joinB a b n = false) : joinV a b n = 0 := if_neg (by simp [h])
theorem joinB_no {a b : Nat} {n : Int} (h : ¬ (a < 2305843009213693951 ∧ b < 2305843009213693951 ∧ 0 ≤ n)) : joinB a b n = false := by
  cases e : joinB a b n with
  | false => rfl
  | true => exact absurd (joinB_true.1 e) h

def JoinB (a b : Nat) (n : Int) (w : World) (e : Ending) (w' : World) : Prop := e = .returned (.tuple #[.int .u64 (joinV a b n : Int), .bool (joinB a b n)]) ∧ Below w.heap.size w w'
theorem joinBn {a b : Nat} {n : Int} {w : World} (h : ¬ (a < 2305843009213693951 ∧ b < 2305843009213693951 ∧ 0 ≤ n)) : JoinB a b n w (.returned (.tuple #[.int .u64 0, .bool false])) w := by
  refine ⟨?_, brefl w⟩
  rw [joinV_no (joinB_no h), joinB_no h]; rfl
set_option maxRecDepth 100000 in
theorem joinL_any (a b : Nat) (n : Int) (hn : n ≤ 9223372036854775807) (w : World) : Calls Try.prog 20 #[.int .u64 a, .int .u64 b, .int .i64 n] w (JoinB a b n w) := by
  by_cases ha : a < 2305843009213693951
  · by_cases hb : b < 2305843009213693951
    · by_cases h0 : 0 ≤ n
      · have hj := joinB_true.2 ⟨ha, hb, h0⟩
        refine (joinL_ok a b n ha hb h0 hn w).mono fun e w' ⟨h, q, hw⟩ => ⟨?_, by rw [hw]; exact below_drewN (brefl w) q⟩
        rw [h, joinV_ok hj, hj]
      · have g1 := ge_no ha
        have g2 := ge_no hb
        have hc := Lib.hid (joinBn (a := a) (b := b) (n := n) (w := w) (by omega))
        clear ha hb
        go_enter Try.func20, Try.ntmps20
        go_wp2_with fail
        go_ret2
        exact hc.out
    · have g1 := ge_no ha
      have g2 := ge_yes hb
      have hc := Lib.hid (joinBn (a := a) (b := b) (n := n) (w := w) (by omega))
      clear ha hb
      go_enter Try.func20, Try.ntmps20
      go_wp2_with fail
      go_ret2
      exact hc.out
  · have g1 := ge_yes ha
    have hc := Lib.hid (joinBn (a := a) (b := b) (n := n) (w := w) (by omega))
    clear ha
    go_enter Try.func20, Try.ntmps20
    go_wp2_with fail
    go_ret2
    exact hc.out
set_option maxRecDepth 100000 in
theorem joinR_any (a b : Nat) (n : Int) (hn : n ≤ 9223372036854775807) (w : World) : Calls Try.prog 21 #[.int .u64 a, .int .u64 b, .int .i64 n] w (JoinB a b n w) := by
  by_cases ha : a < 2305843009213693951
  · by_cases hb : b < 2305843009213693951
    · by_cases h0 : 0 ≤ n
      · have hj := joinB_true.2 ⟨ha, hb, h0⟩
        have hc : Hid (JoinB a b n w (.returned (.tuple #[.int .u64 ((joinP a b n.toNat : Nat) : Int), .bool true])) w) := ⟨by rw [joinV_ok hj, hj], brefl w⟩
        have g1 := ge_no ha
        have g2 := ge_no hb
        have hp := powerN_lt n.toNat
        have hend : Hid ((((a * powerN n.toNat % 2305843009213693951 : Nat) : Int) + (b : Int)) % 2305843009213693951 = ((joinP a b n.toNat : Nat) : Int)) := by
          have e : joinP a b n.toNat = (a * powerN n.toNat + b) % 2305843009213693951 := rfl
          show _ = _
          rw [e]
          generalize a * powerN n.toNat = m
          omega
        obtain ⟨p, hpp⟩ : ∃ p, p = powerN n.toNat := ⟨_, rfl⟩
        rw [← hpp] at hp hend
        have hP := Lib.hid hpp
        have ha' := Lib.hid ha
        have hb' := Lib.hid hb
        have hp' := Lib.hid hp
        obtain ⟨m, hm⟩ : ∃ m, m = a * p % 2305843009213693951 := ⟨_, rfl⟩
        rw [← hm] at hend
        have hm' := Lib.hid hm
        have hml : Hid (m < 2305843009213693951) := by show _ < _; rw [hm]; exact Nat.mod_lt _ (by omega)
        clear hpp ha hb hp hm
        go_enter Try.func21, Try.ntmps21
        go_wp2_with fail
        (with_reducible refine (powerR_any _ hn _).mono ?_); rintro e w' ⟨rfl, rfl⟩
        rw [← hP.out]
        go_wp2_with fail
        (with_reducible refine (times_any _ _ ha'.out hp'.out _).mono ?_); rintro e w' ⟨rfl, rfl⟩
        rw [← hm'.out]
        go_wp2_with fail
        (with_reducible refine (plus_any _ _ (by have := hml.out; have := hb'.out; omega) (by have := hml.out; have := hb'.out; omega) _).mono ?_); rintro e w' ⟨rfl, rfl⟩
        rw [hend.out]
        go_wp2_with fail
        go_ret2
        exact hc.out
      · have g1 := ge_no ha
        have g2 := ge_no hb
        have hc := Lib.hid (joinBn (a := a) (b := b) (n := n) (w := w) (by omega))
        clear ha hb
        go_enter Try.func21, Try.ntmps21
        go_wp2_with fail
        go_ret2
        exact hc.out
    · have g1 := ge_no ha
      have g2 := ge_yes hb
      have hc := Lib.hid (joinBn (a := a) (b := b) (n := n) (w := w) (by omega))
      clear ha hb
      go_enter Try.func21, Try.ntmps21
      go_wp2_with fail
      go_ret2
      exact hc.out
  · have g1 := ge_yes ha
    have hc := Lib.hid (joinBn (a := a) (b := b) (n := n) (w := w) (by omega))
    clear ha
    go_enter Try.func21, Try.ntmps21
    go_wp2_with fail
    go_ret2
    exact hc.out

theorem ints_mark (w : World) (k : IntKind) (xs : List Int) (arr : Array Value) (t : TypeId) (fr : Nat × Nat) (h : arr.toList = xs.map (.int k)) : Ints k (w.alloc (.cells arr t fr)) (w.heap.size + 1) (some ⟨w.heap.size, 0, none⟩) xs := fun _ => by
  refine ⟨w.heap.size, 0, rfl, by omega, fun i v hv => ?_⟩
  rw [Nat.zero_add, cell_of_row _ w.heap.size i arr t fr (heap_alloc_new w _), ← hv, ← h]
  simp
def digits : List Int := [49, 50, 51, 52, 53, 54, 55, 56, 57]
theorem byt_digits : Byt digits := by unfold digits Byt; simp
set_option maxHeartbeats 2000000 in
set_option maxRecDepth 100000 in
theorem known_any (w : World) : Calls Try.prog 11 #[] w fun e w' => e = .returned (.bool true) ∧ Below w.heap.size w w' := by
  have e8 : Hid (((crc8 digits).toNat : Int) = 244) := by show _ = _; decide +kernel
  have e16 : Hid (((crc16 digits).toNat : Int) = 65256) := by show _ = _; decide +kernel
  have e32 : Hid (((crc32 digits).toNat : Int) = 3421780262) := by show _ = _; decide +kernel
  have eP : Hid (((printN [0] : Nat) : Int) = 1) := by show _ = _; decide +kernel
  have ePw : Hid (((powerN (1 : Int).toNat : Nat) : Int) = 1000003) := by show _ = _; decide +kernel
  have kc := fun (w : World) (C : Array Value) (n c : Nat) => Lib.run_convert_bytes_const (P := Try.prog) w 22 5 C n c Try.underlying22 Try.underlying5
  have hlit : Hid (∀ w : World, Ints .u8 (w.alloc (.cells #[.int .u8 49, .int .u8 50, .int .u8 51, .int .u8 52, .int .u8 53, .int .u8 54, .int .u8 55, .int .u8 56, .int .u8 57] 5 (9, 10))) (w.heap.size + 1) (some ⟨w.heap.size, 0, none⟩) digits) := fun w => ints_mark w .u8 digits _ _ _ rfl
  go_enter Try.func11, Try.ntmps11
  go_wp2_with fail
  clear kc
  obtain ⟨W, hW⟩ : ∃ W, W = w.alloc (.cells #[.int .u8 49, .int .u8 50, .int .u8 51, .int .u8 52, .int .u8 53, .int .u8 54, .int .u8 55, .int .u8 56, .int .u8 57] 5 (9, 10)) := ⟨_, rfl⟩
  have hl := hlit.out w
  rw [← hW] at hl ⊢
  have BW : Hid (Below w.heap.size w W) := by show Below _ _ _; rw [hW]; exact bal (brefl w) _
  obtain ⟨g, hg⟩ : ∃ g, g = w.heap.size := ⟨_, rfl⟩
  have hl' : Hid (Ints .u8 W (g + 1) (some ⟨g, 0, none⟩) digits) := by show Ints _ _ _ _ _; rw [hg]; exact hl
  rw [show (w.heap.size) = g from hg.symm]
  clear hl hW hlit hg
  obtain ⟨x1, hx1⟩ : ∃ x, x = printN [49, 50, 51, 52] := ⟨_, rfl⟩
  obtain ⟨x2, hx2⟩ : ∃ x, x = printN [53, 54, 55, 56, 57] := ⟨_, rfl⟩
  obtain ⟨x3, hx3⟩ : ∃ x, x = printN digits := ⟨_, rfl⟩
  have c1 : Hid (∀ n, Calls Try.prog 18 #[.slice (some ⟨g, 0, none⟩) 4 9] (W.drewN n) (fun e w' => e = .returned (.int .u64 (x1 : Int)) ∧ ∃ m, w' = (W.drewN n).drewN m)) := fun n => by
    rw [hx1]; exact printL_any [49, 50, 51, 52] (byt_take byt_digits 4) 4 rfl (by omega) _ _ _ _ (ints_take hl'.out 4)
  have c2 : Hid (∀ n, Calls Try.prog 18 #[.slice (some ⟨g, 4, none⟩) 5 5] (W.drewN n) (fun e w' => e = .returned (.int .u64 (x2 : Int)) ∧ ∃ m, w' = (W.drewN n).drewN m)) := fun n => by
    rw [hx2]; exact printL_any [53, 54, 55, 56, 57] (byt_drop byt_digits 4) 5 rfl (by omega) _ _ _ _ (ints_drop hl'.out 4)
  have c3 : Hid (∀ n, Calls Try.prog 20 #[.int .u64 x1, .int .u64 x2, .int .i64 5] (W.drewN n) (fun e w' => e = .returned (.tuple #[.int .u64 (x3 : Int), .bool true]) ∧ ∃ m, w' = (W.drewN n).drewN m)) := fun n => by
    have h := joinL_ok x1 x2 5 (by rw [hx1]; exact printN_lt _) (by rw [hx2]; exact printN_lt _) (by omega) (by omega) (W.drewN n)
    have e : joinP x1 x2 (5 : Int).toNat = x3 := by rw [hx1, hx2, hx3]; exact (printN_join [49, 50, 51, 52] [53, 54, 55, 56, 57]).symm
    rw [e] at h
    exact h
  have hx3' := Lib.hid hx3
  clear hx1 hx2 hx3
  go_quiet ((first | (with_reducible exact Calls.quiet_of (c1.out _)) | (with_reducible exact Calls.quiet_of (c2.out _)) | (with_reducible exact Calls.quiet_of (c3.out _))))
  obtain ⟨W1, hW1⟩ : ∃ W1, W1 = W.drewN nq := ⟨_, rfl⟩
  have hl2 : Hid (Ints .u8 W1 (g + 1) (some ⟨g, 0, none⟩) digits) := by show Ints _ _ _ _ _; rw [hW1]; exact hl'.out
  have B1 : Hid (Below w.heap.size w W1) := by show Below _ _ _; rw [hW1]; exact below_drewN BW.out _
  rw [← hW1]
  clear hW1 c1 c2 c3
  go_wp2_with fail
  (with_reducible refine (eightL_any digits byt_digits 9 rfl (by omega) _ _ _ _ hl2.out).mono ?_); rintro e w' ⟨rfl, rfl⟩
  rw [e8.out]
  go_wp2_with fail
  (with_reducible refine (thirtyL_any digits byt_digits 9 rfl (by omega) _ _ _ _ hl2.out).mono ?_); rintro e w' ⟨rfl, rfl⟩
  rw [e32.out]
  go_wp2_with fail
  (with_reducible refine (sixteenL_any digits byt_digits 9 rfl (by omega) _ _ _ _ hl2.out).mono ?_); rintro e w' ⟨rfl, rfl⟩
  rw [e16.out]
  go_wp2_with fail
  (with_reducible refine (printL_q digits byt_digits 9 rfl (by omega) _ _ _ _ hl2.out).mono ?_); rintro e w2 ⟨rfl, b2⟩
  rw [← hx3'.out]
  have B2 := Lib.hid (bth B1.out b2)
  clear b2
  go_wp2_with fail
  (with_reducible refine (printL_q [0] (by simp [Byt]) 1 rfl (by omega) _ _ _ _ (ints_lit w2 .u8 [0] #[.int .u8 0] 5 rfl)).mono ?_); rintro e w3 ⟨rfl, b3⟩
  rw [eP.out]
  have B3 := Lib.hid (bth (bal B2.out _) b3)
  clear b3
  go_wp2_with fail
  (with_reducible refine (powerL_q 1 (by omega) _).mono ?_); rintro e w4 ⟨rfl, b4⟩
  rw [ePw.out]
  have B4 := Lib.hid (bth B3.out b4)
  clear b4
  go_wp2_with fail
  go_ret
  exact ⟨rfl, B4.out⟩
end Go.Proofs.Ytfdkodcnbjmlbaa
