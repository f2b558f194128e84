/-
  lift.Best.
-/
import Derived.Test.YtjdoagkbcooonaaProg
import Derived.Test.YtjdoagkbcooonaaTR
namespace Go.Proofs.Ytjdoagkbcooonaa
open Go.RowKit

theorem rw_sub {w : World} {B r b o k f : Nat} {RA : Nat → Option Addr} {RC : Nat → Nat} {R : Nat → List Int} (h : Rw w B (some ⟨b, o, none⟩) r RA RC R) (hf : f = 2 * k) (hk : f + 1 < r) : Rw w B (some ⟨b, o + f, none⟩) 2 (fun i => RA (f + i)) (fun i => RC (f + i)) (pairR R k) := by
  subst hf
  refine ⟨fun _ => ?_, fun i hi => h.ints (2 * k + i) (by omega), fun i hi => h.len (2 * k + i) (by omega), fun i hi => h.cap (2 * k + i) (by omega)⟩
  obtain ⟨b1, o1, e, hB, hc⟩ := h.out (by omega)
  simp only [Option.some.injEq, Addr.mk.injEq, and_true] at e
  obtain ⟨rfl, rfl⟩ := e
  refine ⟨b, o + 2 * k, rfl, hB, fun i hi => ?_⟩
  rw [Nat.add_assoc]
  exact hc (2 * k + i) (by omega)
theorem add_offB (b off k : Nat) : Addr.add ⟨b, off, none⟩ k = ⟨b, off + k, none⟩ := by
  simp only [Addr.add]
  split
  · rename_i h; subst h; rfl
  · rfl
theorem shift_take {d : Int} {ls : List Lft} {j : Nat} (h : j < ls.length) : (shiftL d ls).take (j + 1) = (shiftL d ls).take j ++ [(lfF ls j + d, lfT ls j + d, lfG ls j)] := by
  rw [List.take_succ_eq_append_getElem (by simpa [shiftL] using h)]
  simp [shiftL, lfF, lfT, lfG, h]
theorem shift_all {d : Int} {ls : List Lft} : (shiftL d ls).take ls.length = shiftL d ls := List.take_of_length_le (by simp [shiftL])

theorem lfts_one (w : World) (x y g : Int) (q : Nat) (hq : q = w.heap.size) : Lfts (w.alloc (.cells #[.int .i64 x, .int .i64 y, .int .i64 g] 52)) (q + 1) (some ⟨q, 0, none⟩) [(x, y, g)] := by
  subst hq
  have := lfts_lit w [(x, y, g)] #[.int .i64 x, .int .i64 y, .int .i64 g] 52 (fun i hi => by
    have e : i = 0 := by simp at hi; exact hi
    subst e
    exact ⟨rfl, rfl, rfl⟩)
  rwa [World.size_alloc] at this

set_option maxHeartbeats 4000000 in
theorem bestL_any (R : Nat → List Int) (r : Nat) (hr1 : r ≤ 1000) (hR : ∀ i, i < r → (R i).length ≤ 100000) (RA : Nat → Option Addr) (RC : Nat → Nat) (A : Option Addr) (c : Nat) (hrc : r ≤ c) (hc63 : c ≤ 9223372036854775807) (bits : Int) (w : World) (h : Rw w w.heap.size A r RA RC R) :
    Calls Try.prog 28 #[.agg #[.int .i64 bits, .slice A r c]] w (NamedQ (bestL bits R r) w) := by
  have hc0 : (w.alloc (.cells #[.int .i64 bits, .slice A r c] 45)).cell? ⟨w.heap.size, 0, none⟩ = some (.int .i64 bits) := (cell_of_row _ _ _ _ _ _ (heap_alloc_new w _)).trans rfl
  have hc1 : (w.alloc (.cells #[.int .i64 bits, .slice A r c] 45)).cell? ⟨w.heap.size, 1, none⟩ = some (.slice A r c) := (cell_of_row _ _ _ _ _ _ (heap_alloc_new w _)).trans rfl
  have HC0 := Lib.hid hc0
  have HC1 := Lib.hid hc1
  have HR := Lib.hid hR
  have B1 := bal (brefl w) (.cells #[.int .i64 bits, .slice A r c] 45)
  clear hc0 hc1 hR
  cases hmay : bmayB bits R r with
  | false =>
    have hr : Hid (bestL bits R r = []) := by show _ = _; unfold bestL; rw [if_neg (by rw [hmay]; simp)]
    have Hmay := Lib.hid hmay
    clear hmay
    go_enter Try.func28, Try.ntmps28
    go_wp2_with fail
    (with_reducible refine (bmayL_any R r hr1 HR.out RA RC _ _ _ _ ((h.below B1).more B1.size)).mono ?_); rintro e w2 ⟨rfl, b2⟩
    rw [Hmay.out]
    go_wp2_with fail
    go_ret
    rw [hr.out]
    exact ⟨none, 0, rfl, Lfts.nil, bth B1 b2⟩
  | true =>
    have hr : Hid (bestL bits R r = bestUp R (r / 2)) := by show _ = _; unfold bestL; rw [if_pos hmay]
    have Hmay := Lib.hid hmay
    obtain ⟨_, _, r1, r8, _⟩ := bmayB_true.1 hmay
    clear hmay
    obtain ⟨bA, oA, rfl, _⟩ := h.at_ (i := 0) (by omega)
    have hcI : (r : Int) ≤ (c : Int) := by omega
    go_enter Try.func28, Try.ntmps28
    go_wp2_with fail
    obtain ⟨w1, hw1⟩ : ∃ w1, w1 = w.alloc (.cells #[.int .i64 bits, .slice (some ⟨bA, oA, none⟩) r c] 45) := ⟨_, rfl⟩
    rw [← hw1] at B1 HC0 HC1 ⊢
    clear hw1
    (with_reducible refine (bmayL_any R r hr1 HR.out RA RC _ _ _ _ ((h.below B1).more B1.size)).mono ?_); rintro e w2 ⟨rfl, b2⟩
    rw [Hmay.out]
    go_wp2_with fail
    go_loopw [3, 4, 6, 26] (fun ov fv _ _ wr => (∃ (k n : Nat) (A' : Option Addr) (c' : Nat), 2 * k ≤ r ∧ fv = .int .i64 ((2 * k : Nat) : Int) ∧ ov = .slice A' n c' ∧ n = (bestUp R k).length ∧ wr.ownsRow w1.heap.size 52 3 (.slice A' n c') n (flatL (bestUp R k))) ∧ Below w1.heap.size w1 wr) (fun _ fv _ _ _ => r + 2 - (intOf fv).toNat)
    case atStart => exact ⟨⟨0, 0, none, 0, by omega, rfl, rfl, rfl, World.ownsRow_nil _ _ _ _⟩, b2⟩
    case round =>
      obtain ⟨⟨k, n, A3, c3, hk, rfl, rfl, hn, ho⟩, hbl⟩ := hrel
      obtain ⟨wo, rfl⟩ : ∃ wo : World, wo = wr := ⟨_, rfl⟩
      have c0 := later hbl HC0.out
      have c1 := later hbl HC1.out
      have BB := Lib.hid (bth B1 hbl)
      have Hbl := Lib.hid hbl
      have hn3 : n ≤ 3 * k := by rw [hn]; exact bestUp_len R k
      have Hn := Lib.hid hn
      have Ho := Lib.hid ho
      obtain ⟨f, hf⟩ : ∃ f : Nat, f = 2 * k := ⟨_, rfl⟩
      have Hf := Lib.hid hf
      rw [← hf] at hk ⊢
      clear hbl hn ho
      by_cases hlt : f + 1 < r
      · obtain ⟨f2, hf2⟩ : ∃ f2 : Nat, f2 = f + 2 := ⟨_, rfl⟩
        have s1 : (f : Int) + 2 = (f2 : Int) := by omega
        have s2 : f2 - f = 2 := by omega
        have s3 : f < c := by omega
        have s4 : (f2 : Int) ≤ (c : Int) := by omega
        have s5 : (f : Int) ≤ (f2 : Int) := by omega
        have s6 : (f : Int) + 1 < (r : Int) := by omega
        have t1 : IntKind.i64.wrap ((f : Int) + 2) = (f2 : Int) := by rw [s1]; exact IntWalk.i64_in _ (by omega)
        have htwo := Lib.hid (pair_two (k := k) Hmay.out (by omega))
        have hsub := rw_sub (k := k) (f := f) ((h.below BB.out).more BB.out.size) hf hlt
        have Hsub := Lib.hid hsub
        have hf8 : f ≤ 8 := by omega
        have hk8 : k ≤ 4 := by omega
        clear hf2 hsub hf s1
        go_wp2_with fail
        (with_reducible refine (pair_any (pairR R k) htwo.out _ _ _ _ _ Hsub.out).mono ?_); rintro e w8 ⟨A8, k8, rfl, hl8, b8, p8⟩
        obtain ⟨ns, hns⟩ : ∃ ns, ns = namedP (bestM (pairR R k)) := ⟨_, rfl⟩
        have hnl : ns.length ≤ 3 := by rw [hns]; exact named_len _
        have Hval : Hid (∀ j, j < ns.length → liftOk 2 (lfF ns j) (lfT ns j) (lfG ns j) = true) := by rw [hns]; exact (liftB_true.1 (named_liftB _)).2.2.2
        have hup : Hid (bestUp R (k + 1) = bestUp R k ++ shiftL (f : Int) ns) := by show _ = _; rw [hns, Hf.out]; rfl
        rw [← hns] at hl8 ⊢
        have hl8' := Lib.hid hl8
        have p8' := Lib.hid p8
        have B8 := Hbl.out.trans (b8.mono Hbl.out.size)
        have z8 := b8.size
        have zo := Hbl.out.size
        have Ho8 : Hid (w8.ownsRow w1.heap.size 52 3 (.slice A3 n c3) n (flatL (bestUp R k))) := own_below Ho.out b8 (Nat.le_refl _)
        have Hob : Hid (∀ q, (Value.slice A3 n c3).ownBlock = some q → q < wo.heap.size) := fun q hq => (World.ownsRow.lt Ho.out q hq).2
        clear hns hl8 p8 b8 c0 c1 Hsub htwo Ho
        go_wp2_with fail
        go_loopw [3, 6, 26] (fun ov _ jv wi => (∃ (j n' : Nat) (A' : Option Addr) (c' : Nat), j ≤ ns.length ∧ jv = .int .i64 j ∧ ov = .slice A' n' c' ∧ n' = n + j ∧ wi.ownsRow w1.heap.size 52 3 (.slice A' n' c') n' (flatL (bestUp R k ++ (shiftL (f : Int) ns).take j)) ∧ ∀ q, (Value.slice A' n' c').ownBlock = some q → q < wo.heap.size ∨ w8.heap.size ≤ q) ∧ Below w1.heap.size w1 wi ∧ w8.heap.size ≤ wi.heap.size ∧ Lfts wi w8.heap.size A8 ns) (fun _ _ jv _ => ns.length - (intOf jv).toNat)
        case atStart => exact ⟨⟨0, n, A3, c3, Nat.zero_le _, rfl, rfl, rfl, by simpa using Ho8.out, fun q hq => .inl (Hob.out q hq)⟩, B8, Nat.le_refl _, hl8'.out⟩
        case round =>
          obtain ⟨⟨j, n5, A5, c5, hj, rfl, rfl, hn5, ho5, hq5⟩, hb5, hz5, hl5⟩ := hrel
          obtain ⟨wi, rfl⟩ : ∃ wi : World, wi = wr := ⟨_, rfl⟩
          have Ho5 := Lib.hid ho5
          have Hq5 := Lib.hid hq5
          have Hb5 := Lib.hid hb5
          have Hl5 := Lib.hid hl5
          have Hn5 := Lib.hid hn5
          have n5b : n5 ≤ 100 := by omega
          have zi := hb5.size
          clear ho5 hq5 hb5 hl5 hn5
          by_cases hlt2 : j < ns.length
          · obtain ⟨b5, o5, e5, hc1, hc2, hc3⟩ := Hl5.out.at_ hlt2
            have nz1 := World.new_ne wi _ hc1
            have nz2 := World.new_ne wi _ hc2
            have nz3 := World.new_ne wi _ hc3
            have hok := liftOk_true.1 (Hval.out j hlt2)
            obtain ⟨x, hx⟩ : ∃ x, x = lfF ns j := ⟨_, rfl⟩
            obtain ⟨y, hy⟩ : ∃ y, y = lfT ns j := ⟨_, rfl⟩
            obtain ⟨g, hg⟩ : ∃ g, g = lfG ns j := ⟨_, rfl⟩
            rw [← hx, ← hy] at hok
            rw [← hx] at hc1
            rw [← hy] at hc2
            rw [← hg] at hc3
            obtain ⟨k1, k2, k3, k4, _, _, _⟩ := hok
            have htk : Hid ((shiftL (f : Int) ns).take (j + 1) = (shiftL (f : Int) ns).take j ++ [(x + f, y + f, g)]) := by show _ = _; rw [hx, hy, hg]; exact shift_take hlt2
            have E5 := Lib.hid e5
            rw [e5]
            clear hx hy hg e5
            go_wp2_with (at_builtin; refine app_l _ rfl (.tmp 30) (.tmp 42) rfl w1.heap.size _ _ _ _ rfl (World.ownsRow.alloc (World.ownsRow.alloc Ho5.out _) _) _ _ 1 _ [(x + f, y + f, g)] rfl rfl (lfts_one _ _ _ _ _ (by simp)) (by omega) (by simp; omega) ?_; intro A7 c7 w7 ho7 hg7 hat7)
            have zg := hg7.size
            have zs : wi.heap.size + 2 ≤ w7.heap.size := by simp at zg; omega
            have Hb7 : Hid (Below w1.heap.size w1 w7) := ((Hb5.out.alloc zi (.cells #[.int .i64 x, .int .i64 y, .int .i64 g] 52)).alloc (by simp; omega) (.cells #[.int .i64 (x + f), .int .i64 (y + f), .int .i64 g] 52)).grown hg7 (by simp; omega) fun q hq => (World.ownsRow.lt Ho5.out q hq).1
            have Ho7 : Hid (w7.ownsRow w1.heap.size 52 3 (.slice A7 (n5 + 1) c7) (n5 + 1) (flatL (bestUp R k ++ (shiftL (f : Int) ns).take (j + 1)))) := by
              show World.ownsRow _ _ _ _ _ _ _
              rw [htk.out, ← List.append_assoc]; exact ho7
            have Hq7 : Hid (∀ q, (Value.slice A7 (n5 + 1) c7).ownBlock = some q → q < wo.heap.size ∨ w8.heap.size ≤ q) := fun q hq => by
              rcases hat7 with e | e
              · rw [e] at hq; exact Hq5.out q hq
              · rw [e] at hq; simp at hq; omega
            have Hl7 : Hid (Lfts w7 w8.heap.size A8 ns) := Hl5.out.other (Nat.le_refl _) fun p hp hpb => by
              have hp8 := p8'.out p hp
              have e1 := hg7.block p.block (by simp; omega) (fun e => by
                have := Hq5.out p.block e.symm
                omega)
              rw [e1]
              exact (Below.heap_alloc _ _ _ (by simp; omega)).trans (Below.heap_alloc _ _ _ (by omega))
            clear ho7 hg7 hat7 zg
            go_roundw
            case rel => exact ⟨⟨j + 1, n5 + 1, A7, c7, by omega, by go_num, rfl, by have := Hn5.out; omega, Ho7.out, Hq7.out⟩, Hb7.out, by omega, by rw [← E5.out]; exact Hl7.out⟩
            case measure => simp [intOf]; omega
          · have e : j = ns.length := by omega
            subst e
            have Hoe : Hid (wi.ownsRow w1.heap.size 52 3 (.slice A5 n5 c5) n5 (flatL (bestUp R (k + 1)))) := by
              show World.ownsRow _ _ _ _ _ _ _
              rw [hup.out, ← shift_all (d := (f : Int)) (ls := ns)]; exact Ho5.out
            have hne : Hid (n5 = (bestUp R (k + 1)).length) := by
              show _ = _
              rw [hup.out, List.length_append, shift_len, ← Hn.out]; exact Hn5.out
            go_wp2_with fail
            go_roundw
            case rel => exact ⟨⟨k + 1, n5, A5, c5, by have := Hf.out; omega, by have := Hf.out; go_num, rfl, hne.out, Hoe.out⟩, Hb5.out⟩
            case measure => simp [intOf]; omega
      · have e : Hid (r / 2 = k) := by show _ = _; have := Hf.out; omega
        go_wp2_with fail
        go_ret
        rw [hr.out, e.out]
        have hnn := Hn.out
        subst hnn
        exact ⟨A3, c3, rfl, own_lfts Ho.out, BB.out⟩
end Go.Proofs.Ytjdoagkbcooonaa
