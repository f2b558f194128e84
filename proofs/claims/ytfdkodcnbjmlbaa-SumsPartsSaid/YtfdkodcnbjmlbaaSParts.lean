/-
  SumsParts: the walk of the law.
-/
import Derived.Test.YtfdkodcnbjmlbaaProg
import Derived.Test.YtfdkodcnbjmlbaaOM
import Derived.Test.YtfdkodcnbjmlbaaSPow
namespace Go.Proofs.Ytfdkodcnbjmlbaa
open Go.RowKit

section
variable (RL : Nat → List Int)
/-- the rows ahead of i, one behind the other; and those from q on. -/
def cat : Nat → List Int
  | 0 => []
  | i + 1 => cat i ++ RL i
def suf (r : Nat) : Nat → List Int
  | 0 => []
  | d + 1 => RL (r - (d + 1)) ++ suf r d
theorem cat_suf (r : Nat) : ∀ d, d ≤ r → cat RL (r - d) ++ suf RL r d = cat RL r
  | 0, _ => by simp [suf]
  | d + 1, h => by
    have e : r - d = (r - (d + 1)) + 1 := by omega
    have ih := cat_suf r d (by omega)
    rw [e, cat, List.append_assoc] at ih
    exact ih
theorem cat_all (r : Nat) : suf RL r r = cat RL r := by
  have := cat_suf RL r r (Nat.le_refl _)
  rwa [Nat.sub_self, cat, List.nil_append] at this
variable {RL}
theorem cat_len {i : Nat} (h : ∀ j, j < i → (RL j).length ≤ 200) : (cat RL i).length ≤ 200 * i := by
  induction i with
  | zero => simp [cat]
  | succ i ih =>
    have h1 := ih fun j hj => h j (by omega)
    have h2 := h i (by omega)
    rw [cat, List.length_append]; omega
theorem suf_len {r d : Nat} (h : ∀ j, j < r → (RL j).length ≤ 200) (hd : d ≤ r) : (suf RL r d).length ≤ 200 * d := by
  induction d with
  | zero => simp [suf]
  | succ d ih =>
    have h1 := ih (by omega)
    have h2 := h (r - (d + 1)) (by omega)
    rw [suf, List.length_append]; omega
theorem cat_byt {i : Nat} (h : ∀ j, j < i → Byt (RL j)) : Byt (cat RL i) := by
  induction i with
  | zero => intro x hx; simp [cat] at hx
  | succ i ih => exact byt_append (ih fun j hj => h j (by omega)) (h i (by omega))
end
theorem OwnB.nil (w : World) (B : Nat) : OwnB w B none 0 0 [] := World.ownsRow_nil _ _ _ _
theorem join_cat (a b : List Int) : joinP (printN a) (printN b) ((b.length : Int)).toNat = printN (a ++ b) := by rw [Int.toNat_natCast]; exact (printN_join a b).symm

set_option maxHeartbeats 2000000 in
set_option maxRecDepth 100000 in
theorem parts_any (A : Option Addr) (c r : Nat) (RA : Nat → Option Addr) (RC : Nat → Nat) (RL : Nat → List Int) (_hr : r ≤ 9223372036854775807) (w : World) (h : RwsK .u8 w w.heap.size A r RA RC RL) :
    Calls Try.prog 5 #[.slice A r c] w fun e w' => e = .returned (.bool true) ∧ Below w.heap.size w w' := by
  by_cases q1 : 8 < r
  · have hI : (8 : Int) < (r : Int) := by omega
    go_enter Try.func5, Try.ntmps5
    go_wp2_with fail
    (with_reducible refine (known_any _).mono ?_); rintro e w1 ⟨rfl, b1⟩
    go_wp2_with fail
    go_ret
    exact ⟨rfl, b1⟩
  have r8 : r ≤ 8 := by omega
  have rI : (r : Int) ≤ 8 := by omega
  have H := Lib.hid h
  clear q1 h
  go_enter Try.func5, Try.ntmps5
  go_wp2_with fail
  (with_reducible refine (known_any _).mono ?_); rintro e w1 ⟨rfl, b1⟩
  have B1 := Lib.hid b1
  clear b1
  go_wp2_with fail
  go_loopw [3, 4, 5, 6] (fun av lv okv iv wr => (∃ (i : Nat) (A' : Option Addr) (c' : Nat), i ≤ r ∧ iv = .int .i64 i ∧ lv = .int .u64 (printN (cat RL i) : Int) ∧ okv = .bool true ∧ av = .slice A' (cat RL i).length c' ∧ OwnB wr w.heap.size A' (cat RL i).length c' (cat RL i) ∧ ∀ j, j < i → (RL j).length ≤ 200) ∧ Below w.heap.size w wr) (fun _ _ _ iv _ => r - (intOf iv).toNat)
  case atStart => exact ⟨⟨0, none, 0, Nat.zero_le _, rfl, rfl, rfl, rfl, OwnB.nil _ _, fun j hj => by omega⟩, B1.out⟩
  case round =>
    obtain ⟨⟨i, A2, c2, hi, rfl, rfl, rfl, rfl, ho, hl2⟩, hbl⟩ := hrel
    obtain ⟨wo, rfl⟩ : ∃ wo : World, wo = wr := ⟨_, rfl⟩
    have ho' := Lib.hid ho
    have hbl' := Lib.hid hbl
    have HR := Lib.hid (H.out.below hbl)
    have Hl := Lib.hid hl2
    clear ho hbl hl2
    by_cases hlt : i < r
    · obtain ⟨b, off, rfl, hbb, hcell⟩ := HR.out.out (by omega)
      have d1 := hcell i hlt
      clear hcell hbb
      by_cases hbig : 200 < (RL i).length
      · have hbI : (200 : Int) < ((RL i).length : Int) := by omega
        go_wp2_with fail
        go_ret
        exact ⟨rfl, hbl'.out⟩
      · have hbI : ((RL i).length : Int) ≤ 200 := by omega
        have hsm : (RL i).length ≤ 200 := by omega
        have hby : Hid (Byt (RL i)) := byt_of (HR.out.fit i hlt)
        have hcl := cat_len Hl.out
        obtain ⟨x1, hx1⟩ : ∃ x, x = printN (cat RL i) := ⟨_, rfl⟩
        obtain ⟨x2, hx2⟩ : ∃ x, x = printN (RL i) := ⟨_, rfl⟩
        obtain ⟨x3, hx3⟩ : ∃ x, x = printN (cat RL (i + 1)) := ⟨_, rfl⟩
        have hx3' := Lib.hid hx3
        have c1 : Hid (∀ n, Calls Try.prog 18 #[.slice (RA i) (RL i).length (RC i)] (wo.drewN n) (fun e w' => e = .returned (.int .u64 (x2 : Int)) ∧ ∃ m, w' = (wo.drewN n).drewN m)) := fun n => by
          rw [hx2]; exact printL_any (RL i) hby.out _ rfl (by omega) _ _ _ _ (HR.out.ints i hlt)
        have c3 : Hid (∀ n, Calls Try.prog 20 #[.int .u64 x1, .int .u64 x2, .int .i64 ((RL i).length : Int)] (wo.drewN n) (fun e w' => e = .returned (.tuple #[.int .u64 (x3 : Int), .bool true]) ∧ ∃ m, w' = (wo.drewN n).drewN m)) := fun n => by
          have h := joinL_ok x1 x2 ((RL i).length : Int) (by rw [hx1]; exact printN_lt _) (by rw [hx2]; exact printN_lt _) (by omega) (by omega) (wo.drewN n)
          have e : joinP x1 x2 ((RL i).length : Int).toNat = x3 := by rw [hx1, hx2, hx3]; exact join_cat _ _
          rw [e] at h
          exact h
        rw [← hx1]
        obtain ⟨L1, hL1⟩ : ∃ L, L = (cat RL i).length := ⟨_, rfl⟩
        have hL1' := Lib.hid hL1
        rw [← hL1]
        have hL1' := Lib.hid hL1
        rw [← hL1] at ho' hcl
        clear hx1 hx2 hx3 hL1
        go_wp2_with fail
        go_quiet ((first | (with_reducible exact Calls.quiet_of (c1.out _)) | (with_reducible exact Calls.quiet_of (c3.out _))))
        obtain ⟨W1, hW1⟩ : ∃ W1, W1 = wo.drewN nq := ⟨_, rfl⟩
        have O1 : Hid (OwnB W1 w.heap.size A2 L1 c2 (cat RL i)) := by show OwnB _ _ _ _ _ _; rw [hW1]; exact ho'.out
        have Bw : Hid (Below w.heap.size w W1) := by show Below _ _ _; rw [hW1]; exact below_drewN hbl'.out _
        have R1 : Hid (RwsK .u8 W1 w.heap.size (some ⟨b, off, none⟩) r RA RC RL) := H.out.below Bw.out
        have d2 : W1.cell? ⟨b, off + i, none⟩ = some (.slice (RA i) (RL i).length (RC i)) := by rw [hW1]; exact d1
        rw [← hW1]
        clear hW1 d1 c1 c3
        go_wp2_with (at_builtin; refine app_b _ rfl (.tmp 51) (.tmp 55) rfl w _ _ _ _ rfl O1.out w.heap.size (RA i) _ (RC i) (RL i) rfl rfl (R1.out.ints i hlt) (by omega) Bw.out ?_; intro A3 c3 w3 ho3 hb3)
        have ho3' := Lib.hid ho3
        have hb3' := Lib.hid hb3
        clear ho3 hb3 d2
        go_roundw
        case rel =>
          have e : L1 + (RL i).length = (cat RL (i + 1)).length := by rw [hL1'.out, cat, List.length_append]
          refine ⟨⟨i + 1, A3, c3, by omega, by go_num, by rw [hx3'.out], rfl, by rw [e], ?_, fun j hj => ?_⟩, hb3'.out⟩
          · rw [← e]; exact ho3'.out
          · by_cases hji : j = i
            · subst hji; exact hsm
            · exact Hl.out j (by omega)
        case measure => simp [intOf]; omega
    · have e : i = r := by omega
      subst e
      go_wp2_with fail
      have Z1 := Lib.hid ho'.out.ints
      go_loopw [5, 9, 10, 11] (fun okv rv nv jv wr => (∃ q d : Nat, q + d = i ∧ jv = .int .i64 ((q : Int) - 1) ∧ rv = .int .u64 (printN (suf RL i d) : Int) ∧ nv = .int .i64 ((suf RL i d).length : Int) ∧ okv = .bool true) ∧ Below wo.heap.size wo wr) (fun _ _ _ jv _ => (intOf jv + 1).toNat)
      case atStart => exact ⟨⟨i, 0, rfl, rfl, rfl, rfl, rfl⟩, brefl wo⟩
      case round =>
        obtain ⟨⟨q, d, hqd, rfl, rfl, rfl, rfl⟩, hbq⟩ := hrel
        obtain ⟨wp, rfl⟩ : ∃ wp : World, wp = wr := ⟨_, rfl⟩
        have hbw := Lib.hid (bth hbl'.out hbq)
        have hbq' := Lib.hid hbq
        clear hbq
        cases q with
        | zero =>
          obtain rfl : d = i := by omega
          have Z2 : Hid (Ints .u8 wp wo.heap.size A2 (cat RL d)) := Z1.out.below hbq'.out
          have hlen := cat_len Hl.out
          have hbyt := Lib.hid (cat_byt fun j hj => byt_of (H.out.fit j hj))
          rw [cat_all]
          go_wp2_with fail
          (with_reducible refine (printL_q (cat RL d) hbyt.out _ rfl (by omega) _ _ _ _ Z2.out).mono ?_); rintro e w5 ⟨rfl, b5⟩
          have B5 := Lib.hid (bth hbw.out b5)
          clear b5
          go_wp2_with fail
          go_ret
          exact ⟨rfl, B5.out⟩
        | succ q =>
          rw [show (((q + 1 : Nat) : Int) - 1) = (q : Int) by omega]
          have hq : q < i := by omega
          obtain ⟨b, off, rfl, hbb, hcell⟩ := (H.out.below hbw.out).out (by omega)
          have d1 := hcell q hq
          clear hcell hbb
          have hsl := suf_len Hl.out (show d ≤ i by omega)
          have hrl := Hl.out q hq
          have hby : Hid (Byt (RL q)) := byt_of (H.out.fit q hq)
          have hin := Lib.hid ((H.out.ints q hq).below hbw.out)
          have hq0 : (0 : Int) ≤ (q : Int) := by omega
          have es : suf RL i (d + 1) = RL q ++ suf RL i d := by rw [suf, show i - (d + 1) = q by omega]
          have cj : Hid (∀ w, Calls Try.prog 20 #[.int .u64 (printN (RL q) : Int), .int .u64 (printN (suf RL i d) : Int), .int .i64 ((suf RL i d).length : Int)] w (fun e w' => e = .returned (.tuple #[.int .u64 (printN (suf RL i (d + 1)) : Int), .bool true]) ∧ ∃ m, w' = w.drewN m)) := fun w => by
            have h := joinL_ok (printN (RL q)) (printN (suf RL i d)) ((suf RL i d).length : Int) (printN_lt _) (printN_lt _) (by omega) (by omega) w
            rw [join_cat, ← es] at h
            exact h
          have Es := Lib.hid es
          clear es
          go_wp2_with fail
          (with_reducible refine (printL_q (RL q) hby.out _ rfl (by omega) _ _ _ _ hin.out).mono ?_); rintro e w5 ⟨rfl, b5⟩
          go_wp2_with fail
          (with_reducible refine (cj.out _).mono ?_); rintro e w6 ⟨rfl, m6, hw6⟩
          have B6 : Hid (Below wp.heap.size wp w6) := by show Below _ _ _; rw [hw6]; exact below_drewN b5 _
          have d2 := (H.out.below (bth hbw.out B6.out))
          clear b5 hw6 d1 cj
          obtain ⟨b', off', e', hbb, hcell⟩ := d2.out (by omega)
          cases e'
          have d1 := hcell q hq
          clear hcell hbb d2
          go_wp2_with fail
          go_quiet (fail)
          have hnn : ((suf RL i d).length : Int) + ((RL q).length : Int) = ((suf RL i (d + 1)).length : Int) := by rw [Es.out, List.length_append]; omega
          have Hn := Lib.hid hnn
          have Bq : Hid (Below wo.heap.size wo (w6.drewN nq)) := below_drewN (bth hbq'.out B6.out) _
          clear hnn
          go_wp2_with fail
          go_roundw
          case rel => exact ⟨⟨q, d + 1, by omega, by go_num, rfl, by first | rw [Hn.out] | (congr 1; have := Hn.out; omega), rfl⟩, Bq.out⟩
          case measure => simp [intOf]
end Go.Proofs.Ytfdkodcnbjmlbaa
