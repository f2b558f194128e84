/-
  Weave of both.
-/
import Derived.Test.YtfihbcpainlpcaaProg
import Derived.Test.YtfihbcpainlpcaaQN
import Derived.Test.YtfihbcpainlpcaaQR
namespace Go.Proofs.Ytfihbcpainlpcaa
open Go.RowKit
set_option linter.unusedVariables false
set_option linter.unusedSimpArgs false

theorem weave_no {bits : Int} {R : Nat → List Int} {r : Nat} (h : bmayB bits R r = false) : weaveB bits R r = [] := by simp [weaveB, h]
theorem sliceZ_of {xs ys : List Int} {w w' : World} {e : Ending} (h : xs = ys) (k : SliceZ ys w e w') : SliceZ xs w e w' := by rw [h]; exact k
theorem sliceZ_none {w w' : World} (h : Below w.heap.size w w') : SliceZ [] w (.returned (.slice none 0 0)) w' := ⟨none, 0, rfl, OwnZ.nil _ _, h⟩

set_option maxHeartbeats 2000000 in
theorem weaveL_any (R : Nat → List Int) (r : Nat) (hr1 : r ≤ 1000) (hR : ∀ i, i < r → (R i).length ≤ 100000) (RA : Nat → Option Addr) (RC : Nat → Nat) (A : Option Addr) (c : Nat) (bits : Int) (w : World) (h : Rw w w.heap.size A r RA RC R) :
    Calls Try.prog 24 #[.agg #[.int .i64 bits, .slice A r c]] w (SliceZ (weaveB bits R r) w) := by
  have hc1 : (w.alloc (.cells #[.int .i64 bits, .slice A r c] 28)).cell? ⟨w.heap.size, 1, none⟩ = some (.slice A r c) := (cell_of_row _ _ _ _ _ _ (heap_alloc_new w _)).trans rfl
  have hc0 : (w.alloc (.cells #[.int .i64 bits, .slice A r c] 28)).cell? ⟨w.heap.size, 0, none⟩ = some (.int .i64 bits) := (cell_of_row _ _ _ _ _ _ (heap_alloc_new w _)).trans rfl
  have HC1 := Lib.hid hc1
  have HC0 := Lib.hid hc0
  have HR := Lib.hid hR
  clear hc1 hc0 hR
  go_enter Try.func24, Try.ntmps24
  go_wp2_with fail
  have B1 := bal (brefl w) (.cells #[.int .i64 bits, .slice A r c] 28)
  obtain ⟨w1, hw1⟩ : ∃ w1, w1 = w.alloc (.cells #[.int .i64 bits, .slice A r c] 28) := ⟨_, rfl⟩
  rw [← hw1] at B1 HC0 HC1 ⊢
  have hz1 : w1.heap.size = w.heap.size + 1 := by rw [hw1]; simp
  clear hw1
  (with_reducible refine (bmayL_any R r hr1 HR.out RA RC _ _ _ _ ((h.below B1).more B1.size)).mono ?_); rintro e w2 ⟨rfl, b2⟩
  have B2 := bth B1 b2
  cases hmay : bmayB bits R r with
  | false =>
    have hr := Lib.hid (weave_no hmay)
    clear hmay
    go_wp2_with fail
    go_ret
    exact sliceZ_of hr.out (sliceZ_none B2)
  | true =>
    obtain ⟨m1, m2, m3, m4, m5, m6, m7⟩ := bmayB_true.1 hmay
    have hl : Hid (lenI R r = ((R 0).length : Int)) := by show _ = _; unfold lenI; rw [if_neg (by omega)]
    obtain ⟨n, hn⟩ : ∃ n, n = (R 0).length := ⟨_, rfl⟩
    have hwe : Hid (weaveB bits R r = weaveN R r n) := by show _ = _; rw [weaveB, if_pos hmay, hn]
    have HL : Hid (∀ i, i < r → (R i).length = n) := fun i hi => by rw [hn]; exact (m7 i hi).1
    rw [← hn] at hl m5 m6
    clear hmay m7 hn
    have c0 := later b2 HC0.out
    have c1 := later b2 HC1.out
    go_wp2_with fail
    (with_reducible refine (len_any R r hr1 RA RC _ _ _ _ ((h.below B2).more B2.size)).mono ?_); rintro e w3 ⟨rfl, b3⟩
    rw [hl.out]
    have b13 := bth b2 b3
    clear b2 b3 c0 c1 B2 hl
    go_wp2_with fail
    go_loopw [3, 4, 6, 12, 18] (fun ov _ _ iv _ wr => (∃ (i : Nat) (A' : Option Addr) (c' : Nat), i ≤ n ∧ iv = .int .i64 i ∧ ov = .slice A' (i * r) c' ∧ OwnZ wr w1.heap.size A' (i * r) c' (weaveN R r i)) ∧ Below w1.heap.size w1 wr) (fun _ _ _ iv _ _ => n - (intOf iv).toNat)
    case atStart => exact ⟨⟨0, none, 0, Nat.zero_le _, rfl, by simp, by simpa [weaveN] using OwnZ.nil _ _⟩, b13⟩
    case round =>
      obtain ⟨⟨i, A2, c2, hi, rfl, rfl, ho⟩, hb⟩ := hrel
      obtain ⟨wo, rfl⟩ : ∃ wo : World, wo = wr := ⟨_, rfl⟩
      have Ho := Lib.hid ho
      have Hb := Lib.hid hb
      have c1 := later hb HC1.out
      clear ho hb
      by_cases hlt : i < n
      · have hbig : i * r + r ≤ 40000 := by
          have h1 : (i + 1) * r ≤ 4096 * 8 := Nat.mul_le_mul (by omega) (by omega)
          rw [Nat.add_mul] at h1; omega
        obtain ⟨m0, hm0⟩ : ∃ m0, m0 = i * r := ⟨_, rfl⟩
        have Hm0 := Lib.hid hm0
        rw [← hm0] at Ho hbig ⊢
        obtain ⟨X, hX⟩ : ∃ X, X = weaveN R r i := ⟨_, rfl⟩
        have HX := Lib.hid hX
        rw [← hX] at Ho
        clear hm0 hX
        go_wp2_with fail
        clear c1
        go_loopw [3, 6, 18] (fun ov _ kv wr => (∃ (k : Nat) (A' : Option Addr) (c' : Nat), k ≤ r ∧ kv = .int .i64 k ∧ ov = .slice A' (m0 + k) c' ∧ OwnZ wr w1.heap.size A' (m0 + k) c' (X ++ (List.range k).map fun k => ix (R k) i)) ∧ Below w1.heap.size w1 wr) (fun _ _ kv _ => r - (intOf kv).toNat)
        case atStart => exact ⟨⟨0, A2, c2, Nat.zero_le _, rfl, rfl, by simpa using Ho.out⟩, Hb.out⟩
        case round =>
          obtain ⟨⟨k, A3, c3, hk, rfl, rfl, ho3⟩, hb3⟩ := hrel
          obtain ⟨wp, rfl⟩ : ∃ wp : World, wp = wr := ⟨_, rfl⟩
          have Ho3 := Lib.hid ho3
          have Hb3 := Lib.hid hb3
          clear ho3 hb3
          by_cases hkr : k < r
          · have Bp := bth B1 Hb3.out
            obtain ⟨b1, o1, rfl, hc⟩ := (h.below Bp).at_ hkr
            have hlk := HL.out k hkr
            rw [hlk] at hc
            obtain ⟨b3, o3, e3, hc3⟩ := ((h.below Bp).ints k hkr).at_ (i := i) (by omega)
            rw [e3] at hc
            obtain ⟨x, hx⟩ : ∃ x, x = ix (R k) i := ⟨_, rfl⟩
            rw [← hx] at hc3
            have Hx := Lib.hid hx
            clear hx hlk e3 Bp
            have i2 : (i : Int) < (n : Int) := by omega
            have i3 : (0 : Int) ≤ (i : Int) := by omega
            go_wp2_with (at_builtin; refine app_z _ rfl (.tmp 22) (.tmp 27) rfl w1 _ _ _ _ rfl (Ho3.out.alloc _) _ _ 1 1 [x] rfl rfl (rd_new1 _ _ _) (by omega) (bal Hb3.out _) ?_; intro A4 c4 w4 ho4 hb4)
            have Ho4 := Lib.hid ho4
            have Hb4 := Lib.hid hb4
            clear ho4 hb4
            go_roundw
            case rel =>
              refine ⟨⟨k + 1, A4, c4, by omega, by go_num, rfl, ?_⟩, Hb4.out⟩
              rw [List.range_succ, List.map_append, ← List.append_assoc]
              simp only [List.map_cons, List.map_nil, ← Hx.out]
              exact Ho4.out
            case measure => simp [intOf]; omega
          · have e : k = r := by omega
            subst e
            have e2 : m0 + k = (i + 1) * k := by rw [Hm0.out, Nat.add_mul]; omega
            have E2 := Lib.hid e2
            clear e2
            go_wp2_with fail
            constructor
            · refine ⟨⟨i + 1, A3, c3, by omega, by go_num, by rw [E2.out], ?_⟩, Hb3.out⟩
              rw [← E2.out, weaveN, ← HX.out]
              exact Ho3.out
            · simp [intOf]; omega
      · have e : i = n := by omega
        subst e
        go_wp2_with fail
        go_ret
        refine sliceZ_of hwe.out ?_
        refine ⟨A2, c2, by rw [weaveN_len]; rfl, ?_, bth B1 Hb.out⟩
        rw [weaveN_len]
        exact Ho.out.base (by omega)

set_option maxHeartbeats 2000000 in
theorem weaveR_any (R : Nat → List Int) (r : Nat) (hr1 : r ≤ 1000) (hR : ∀ i, i < r → (R i).length ≤ 100000) (RA : Nat → Option Addr) (RC : Nat → Nat) (A : Option Addr) (c : Nat) (bits : Int) (w : World) (h : Rw w w.heap.size A r RA RC R) :
    Calls Try.prog 34 #[.agg #[.int .i64 bits, .slice A r c]] w (SliceZ (weaveB bits R r) w) := by
  have hc1 : (w.alloc (.cells #[.int .i64 bits, .slice A r c] 28)).cell? ⟨w.heap.size, 1, none⟩ = some (.slice A r c) := (cell_of_row _ _ _ _ _ _ (heap_alloc_new w _)).trans rfl
  have hc0 : (w.alloc (.cells #[.int .i64 bits, .slice A r c] 28)).cell? ⟨w.heap.size, 0, none⟩ = some (.int .i64 bits) := (cell_of_row _ _ _ _ _ _ (heap_alloc_new w _)).trans rfl
  have HC1 := Lib.hid hc1
  have HC0 := Lib.hid hc0
  have HR := Lib.hid hR
  clear hc1 hc0 hR
  go_enter Try.func34, Try.ntmps34
  go_wp2_with fail
  have B1 := bal (brefl w) (.cells #[.int .i64 bits, .slice A r c] 28)
  obtain ⟨w1, hw1⟩ : ∃ w1, w1 = w.alloc (.cells #[.int .i64 bits, .slice A r c] 28) := ⟨_, rfl⟩
  rw [← hw1] at B1 HC0 HC1 ⊢
  have hz1 : w1.heap.size = w.heap.size + 1 := by rw [hw1]; simp
  clear hw1
  (with_reducible refine (bmayR_any R r hr1 HR.out RA RC _ _ _ _ ((h.below B1).more B1.size)).mono ?_); rintro e w2 ⟨rfl, b2⟩
  have B2 := bth B1 b2
  cases hmay : bmayB bits R r with
  | false =>
    have hr := Lib.hid (weave_no hmay)
    clear hmay
    go_wp2_with fail
    go_ret
    exact sliceZ_of hr.out (sliceZ_none B2)
  | true =>
    obtain ⟨m1, m2, m3, m4, m5, m6, m7⟩ := bmayB_true.1 hmay
    have hl : Hid (lenI R r = ((R 0).length : Int)) := by show _ = _; unfold lenI; rw [if_neg (by omega)]
    obtain ⟨n, hn⟩ : ∃ n, n = (R 0).length := ⟨_, rfl⟩
    have hwe : Hid (weaveB bits R r = weaveN R r n) := by show _ = _; rw [weaveB, if_pos hmay, hn]
    have HL : Hid (∀ i, i < r → (R i).length = n) := fun i hi => by rw [hn]; exact (m7 i hi).1
    rw [← hn] at hl m5 m6
    have Hb2 := Lib.hid b2
    clear hmay m7 hn b2 B2
    go_wp2_with fail
    go_loopw [3, 4, 5] (fun ov iv _ wr => (∃ (i : Nat) (A' : Option Addr) (c' : Nat), i ≤ n ∧ iv = .int .i64 i ∧ ov = .slice A' (i * r) c' ∧ OwnZ wr w1.heap.size A' (i * r) c' (weaveN R r i)) ∧ Below w1.heap.size w1 wr) (fun _ iv _ _ => n - (intOf iv).toNat)
    case atStart => exact ⟨⟨0, none, 0, Nat.zero_le _, rfl, by simp, by simpa [weaveN] using OwnZ.nil _ _⟩, Hb2.out⟩
    case round =>
      obtain ⟨⟨i, A2, c2, hi, rfl, rfl, ho⟩, hb⟩ := hrel
      obtain ⟨wo, rfl⟩ : ∃ wo : World, wo = wr := ⟨_, rfl⟩
      have Ho := Lib.hid ho
      have Hb := Lib.hid hb
      have c0 := later hb HC0.out
      have c1 := later hb HC1.out
      have Bo := bth B1 hb
      clear ho hb
      go_wp2_with fail
      (with_reducible refine (lenR_any R r hr1 RA RC _ _ _ _ ((h.below Bo).more Bo.size)).mono ?_); rintro e w3 ⟨rfl, b3⟩
      rw [hl.out]
      have Hb3 := Lib.hid (bth Hb.out b3)
      have Ho3 := Lib.hid (Ho.out.below b3 (Nat.le_refl _))
      clear b3 Ho Hb Bo c0 c1
      by_cases hlt : i < n
      · have hbig : i * r + r ≤ 40000 := by
          have h1 : (i + 1) * r ≤ 4096 * 8 := Nat.mul_le_mul (by omega) (by omega)
          rw [Nat.add_mul] at h1; omega
        obtain ⟨m0, hm0⟩ : ∃ m0, m0 = i * r := ⟨_, rfl⟩
        have Hm0 := Lib.hid hm0
        rw [← hm0] at Ho3 hbig ⊢
        obtain ⟨X, hX⟩ : ∃ X, X = weaveN R r i := ⟨_, rfl⟩
        have HX := Lib.hid hX
        rw [← hX] at Ho3
        clear hm0 hX
        go_wp2_with fail
        go_loopw [3, 5] (fun ov kv wr => (∃ (k : Nat) (A' : Option Addr) (c' : Nat), k ≤ r ∧ kv = .int .i64 k ∧ ov = .slice A' (m0 + k) c' ∧ OwnZ wr w1.heap.size A' (m0 + k) c' (X ++ (List.range k).map fun k => ix (R k) i)) ∧ Below w1.heap.size w1 wr) (fun _ kv _ => r - (intOf kv).toNat)
        case atStart => exact ⟨⟨0, A2, c2, Nat.zero_le _, rfl, rfl, by simpa using Ho3.out⟩, Hb3.out⟩
        case round =>
          obtain ⟨⟨k, A3, c3, hk, rfl, rfl, ho3⟩, hb3⟩ := hrel
          obtain ⟨wp, rfl⟩ : ∃ wp : World, wp = wr := ⟨_, rfl⟩
          have Hp3 := Lib.hid ho3
          have Hq3 := Lib.hid hb3
          have c1 := later hb3 HC1.out
          clear ho3 hb3
          by_cases hkr : k < r
          · have Bp := bth B1 Hq3.out
            obtain ⟨b1, o1, rfl, hc⟩ := (h.below Bp).at_ hkr
            have hlk := HL.out k hkr
            rw [hlk] at hc
            obtain ⟨b3, o3, e3, hc3⟩ := ((h.below Bp).ints k hkr).at_ (i := i) (by omega)
            rw [e3] at hc
            obtain ⟨x, hx⟩ : ∃ x, x = ix (R k) i := ⟨_, rfl⟩
            rw [← hx] at hc3
            have Hx := Lib.hid hx
            clear hx hlk e3 Bp
            have i2 : (i : Int) < (n : Int) := by omega
            have i3 : (0 : Int) ≤ (i : Int) := by omega
            go_wp2_with (at_builtin; refine app_z _ rfl (.tmp 22) (.tmp 31) rfl w1 _ _ _ _ rfl (Hp3.out.alloc _) _ _ 1 1 [x] rfl rfl (rd_new1 _ _ _) (by omega) (bal Hq3.out _) ?_; intro A4 c4 w4 ho4 hb4)
            have Ho4 := Lib.hid ho4
            have Hb4 := Lib.hid hb4
            clear ho4 hb4
            go_roundw
            case rel =>
              refine ⟨⟨k + 1, A4, c4, by omega, by go_num, rfl, ?_⟩, Hb4.out⟩
              rw [List.range_succ, List.map_append, ← List.append_assoc]
              simp only [List.map_cons, List.map_nil, ← Hx.out]
              exact Ho4.out
            case measure => simp [intOf]; omega
          · have e : k = r := by omega
            subst e
            have e2 : m0 + k = (i + 1) * k := by rw [Hm0.out, Nat.add_mul]; omega
            have E2 := Lib.hid e2
            clear e2
            go_wp2_with fail
            go_roundw
            case rel =>
              refine ⟨⟨i + 1, A3, c3, by omega, by go_num, by rw [E2.out], ?_⟩, Hq3.out⟩
              rw [← E2.out, weaveN, ← HX.out]
              exact Hp3.out
            case measure => simp [intOf]; omega
      · have e : i = n := by omega
        subst e
        go_wp2_with fail
        go_ret
        refine sliceZ_of hwe.out ?_
        refine ⟨A2, c2, by rw [weaveN_len]; rfl, ?_, bth B1 Hb3.out⟩
        rw [weaveN_len]
        exact Ho3.out.base (by omega)
end Go.Proofs.Ytfihbcpainlpcaa
