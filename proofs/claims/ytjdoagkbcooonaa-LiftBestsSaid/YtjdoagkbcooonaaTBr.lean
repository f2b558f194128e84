/-
  LiftBest of the reference.
-/
import Derived.Test.YtjdoagkbcooonaaProg
import Derived.Test.YtjdoagkbcooonaaTBst
import Derived.Test.YtjdoagkbcooonaaBN
import Derived.BigRegion
namespace Go.Proofs.Ytjdoagkbcooonaa
open Go.RowKit

set_option maxRecDepth 100000 in
set_option maxHeartbeats 4000000 in
theorem bestR_any (R : Nat → List Int) (r : Nat) (hr1 : r ≤ 1000) (hR : ∀ i, i < r → (R i).length ≤ 100000) (RA : Nat → Option Addr) (RC : Nat → Nat) (A : Option Addr) (c : Nat) (hrc : r ≤ c) (hc63 : c ≤ 9223372036854775807) (bits : Int) (w : World) (h : Rw w w.heap.size A r RA RC R) :
    Calls Try.prog 29 #[.agg #[.int .i64 bits, .slice A r c]] w (NamedQ (bestL bits R r) w) := by
  have hc0 : (w.alloc (.cells #[.int .i64 bits, .slice A r c] 45)).cell? ⟨w.heap.size, 0, none⟩ = some (.int .i64 bits) := (cell_of_row _ _ _ _ _ _ (heap_alloc_new w _)).trans rfl
  have hc1 : (w.alloc (.cells #[.int .i64 bits, .slice A r c] 45)).cell? ⟨w.heap.size, 1, none⟩ = some (.slice A r c) := (cell_of_row _ _ _ _ _ _ (heap_alloc_new w _)).trans rfl
  have HC0 := Lib.hid hc0
  have HC1 := Lib.hid hc1
  have HR := Lib.hid hR
  have B1 := bal (brefl w) (.cells #[.int .i64 bits, .slice A r c] 45)
  clear hc0 hc1 hR
  cases hmay : bmayB bits R r with
  | false =>
    have hr : Hid (bestL bits R r = []) := by show _ = _; unfold bestL; rw [if_neg (by rw [hmay]; simp)]
    have Hmay := Lib.hid hmay
    clear hmay
    go_enter Try.func29, Try.ntmps29
    go_wp2_with fail
    (with_reducible refine (bmayR_any R r hr1 HR.out RA RC _ _ _ _ ((h.below B1).more B1.size)).mono ?_); rintro e w2 ⟨rfl, b2⟩
    rw [Hmay.out]
    go_wp2_with fail
    go_ret
    rw [hr.out]
    exact ⟨none, 0, rfl, Lfts.nil, bth B1 b2⟩
  | true =>
    have hr : Hid (bestL bits R r = bestUp R (r / 2)) := by show _ = _; unfold bestL; rw [if_pos hmay]
    have Hmay := Lib.hid hmay
    obtain ⟨_, _, r1, r8, _⟩ := bmayB_true.1 hmay
    clear hmay
    obtain ⟨bA, oA, rfl, _⟩ := h.at_ (i := 0) (by omega)
    have hcI : (r : Int) ≤ (c : Int) := by omega
    go_enter Try.func29, Try.ntmps29
    go_wp2_with fail
    obtain ⟨w1, hw1⟩ : ∃ w1, w1 = w.alloc (.cells #[.int .i64 bits, .slice (some ⟨bA, oA, none⟩) r c] 45) := ⟨_, rfl⟩
    rw [← hw1] at B1 HC0 HC1 ⊢
    clear hw1
    (with_reducible refine (bmayR_any R r hr1 HR.out RA RC _ _ _ _ ((h.below B1).more B1.size)).mono ?_); rintro e w2 ⟨rfl, b2⟩
    rw [Hmay.out]
    go_wp2_with fail
    go_loopw [3, 4, 5, 6, 7, 8, 9, 10, 11, 12, 13] (fun ov fv _ _ _ _ _ _ _ _ _ wr => (∃ (k n : Nat) (A' : Option Addr) (c' : Nat), 2 * k ≤ r ∧ fv = .int .i64 ((2 * k : Nat) : Int) ∧ ov = .slice A' n c' ∧ n = (bestUp R k).length ∧ wr.ownsRow w1.heap.size 52 3 (.slice A' n c') n (flatL (bestUp R k))) ∧ Below w1.heap.size w1 wr) (fun _ fv _ _ _ _ _ _ _ _ _ _ => r + 2 - (intOf fv).toNat)
    case atStart => exact ⟨⟨0, 0, none, 0, by omega, rfl, rfl, rfl, World.ownsRow_nil _ _ _ _⟩, b2⟩
    case round =>
      obtain ⟨⟨k, n, A3, c3, hk, rfl, rfl, hn, ho⟩, hbl⟩ := hrel
      obtain ⟨wo, rfl⟩ : ∃ wo : World, wo = wr := ⟨_, rfl⟩
      have c0 := later hbl HC0.out
      have c1 := later hbl HC1.out
      have BB := Lib.hid (bth B1 hbl)
      have Hbl := Lib.hid hbl
      have hn3 : n ≤ 3 * k := by rw [hn]; exact bestUp_len R k
      have Hn := Lib.hid hn
      have Ho := Lib.hid ho
      obtain ⟨f, hf⟩ : ∃ f : Nat, f = 2 * k := ⟨_, rfl⟩
      have Hf := Lib.hid hf
      rw [← hf] at hk ⊢
      clear hbl hn ho
      by_cases hlt : f + 1 < r
      · obtain ⟨f2, hf2⟩ : ∃ f2 : Nat, f2 = f + 2 := ⟨_, rfl⟩
        have s1 : (f : Int) + 2 = (f2 : Int) := by omega
        have s2 : f2 - f = 2 := by omega
        have s3 : f < c := by omega
        have s4 : (f2 : Int) ≤ (c : Int) := by omega
        have s5 : (f : Int) ≤ (f2 : Int) := by omega
        have s6 : (f : Int) + 1 < (r : Int) := by omega
        have t1 : IntKind.i64.wrap ((f : Int) + 2) = (f2 : Int) := by rw [s1]; exact IntWalk.i64_in _ (by omega)
        have htwo := Lib.hid (pair_two (k := k) Hmay.out (by omega))
        have hsub := rw_sub (k := k) (f := f) ((h.below BB.out).more BB.out.size) hf hlt
        have Hsub := Lib.hid hsub
        have hf8 : f ≤ 8 := by omega
        have hk8 : k ≤ 4 := by omega
        clear hf2 hsub hf s1
        go_wp2_with fail
        have hlen2 : Hid (∀ i, i < 2 → (pairR R k i).length ≤ 100000) := fun i hi => by
          have h1 := htwo.out.1
          have h2 := htwo.out.2.1
          rcases (show i = 0 ∨ i = 1 by omega) with rfl | rfl <;> omega
        have m0 : (pairR R k 0).length ≤ 4096 := htwo.out.2.1
        (with_reducible refine (weightR_any (pairR R k) 2 (by omega) hlen2.out _ _ _ _ _ Hsub.out).mono ?_); rintro e w3 ⟨rfl, b3⟩
        go_wp2_with fail
        go_loopw [6, 7, 8, 9, 10, 11] (fun bv lv mv _ _ _ wr => (∃ k1 : Nat, k1 ≤ 4 ∧ mv = .int .i64 ((k1 + 1 : Nat) : Int) ∧ bv = .int .i64 (bestTo (pairR R k) k1).1 ∧ lv = .int .i64 (bestTo (pairR R k) k1).2) ∧ Below wo.heap.size wo wr) (fun _ _ mv _ _ _ _ => 5 - (intOf mv).toNat)
        case atStart => exact ⟨⟨0, by omega, rfl, rfl, rfl⟩, b3⟩
        case round =>
          obtain ⟨⟨k1, hk1, rfl, rfl, rfl⟩, hbl⟩ := hrel
          obtain ⟨wn, rfl⟩ : ∃ wn : World, wn = wr := ⟨_, rfl⟩
          obtain ⟨bs, hbs⟩ : ∃ bs, bs = bestTo (pairR R k) k1 := ⟨_, rfl⟩
          rw [← hbs]
          have Hbs := Lib.hid hbs
          clear hbs
          by_cases hlt4 : k1 < 4
          · obtain ⟨m, hm⟩ : ∃ m : Int, m = ((k1 + 1 : Nat) : Int) := ⟨_, rfl⟩
            have hm5 : m < 5 := by omega
            have hm0 : 1 ≤ m := by omega
            obtain ⟨Q, hQ⟩ := htwo.out.do_ m
            have HQ := Lib.hid hQ
            have Hrw : Hid (resW (pairR R k) m = weightP Q 2) := resW_of hQ
            have hql := doP_len hQ
            have hstep : Hid (bestTo (pairR R k) (k1 + 1) = if resW (pairR R k) m < bs.2 then (m, resW (pairR R k) m) else bs) := by show _ = _; rw [hm, Hbs.out]; rfl
            have Hm := Lib.hid hm
            rw [← hm]
            clear hm hQ
            go_wp2_with fail
            (with_reducible refine (namedR_any m _).mono ?_); rintro e w4 ⟨A4, k4, rfl, hl4, b4⟩
            have B4 := bth hbl b4
            go_wp2_with fail
            (with_reducible refine (doR_any (pairR R k) 2 (by omega) hlen2.out _ _ (namedP m) _ rfl (by have := named_len m; omega) _ _ _ _ _ ((Hsub.out.below B4).more B4.size) hl4).mono ?_); rintro e w5 hd5
            obtain ⟨⟨A5, k5, RA5, RC5, rfl, ho5⟩, b5⟩ := do_elim hd5 HQ.out
            have B5 := bth B4 b5
            clear hd5 hl4 b4 b5 B4
            go_wp2_with fail
            (with_reducible refine (weightR_any Q 2 (by omega) (fun i hi => by rw [hql i hi]; omega) RA5 RC5 _ _ _ (ho5.rw (by omega))).mono ?_); rintro e w6 ⟨rfl, b6⟩
            rw [← Hrw.out]
            have B6 := bth B5 b6
            clear b6 B5 ho5 hql hbl
            obtain ⟨x, hx⟩ : ∃ x, x = resW (pairR R k) m := ⟨_, rfl⟩
            rw [← hx] at hstep ⊢
            clear hx Hrw
            by_cases hless : x < bs.2
            · go_wp2_with fail
              go_roundw
              case rel =>
                refine ⟨⟨k1 + 1, by omega, by have := Hm.out; go_num, ?_, ?_⟩, B6⟩
                · rw [hstep.out, if_pos hless]
                · rw [hstep.out, if_pos hless]
              case measure => simp [intOf]; omega
            · go_wp2_with fail
              go_roundw
              case rel =>
                refine ⟨⟨k1 + 1, by omega, by have := Hm.out; go_num, ?_, ?_⟩, B6⟩
                · rw [hstep.out, if_neg (by omega)]
                · rw [hstep.out, if_neg (by omega)]
              case measure => simp [intOf]; omega
          · have e : k1 = 4 := by omega
            subst e
            have hbm : Hid (bs.1 = bestM (pairR R k)) := by show _ = _; rw [Hbs.out]; rfl
            go_wp2_with fail
            (with_reducible refine (namedR_at bs.1 _).mono ?_); rintro e w8 ⟨A8, k8, rfl, hl8, b8', p8'⟩
            have b8 := bth hbl b8'
            have p8 : ∀ p, A8 = some p → wo.heap.size ≤ p.block := fun p hp => Nat.le_trans hbl.size (p8' p hp)
            rw [hbm.out] at hl8 ⊢
            clear hbl b8' p8'
            obtain ⟨ns, hns⟩ : ∃ ns, ns = namedP (bestM (pairR R k)) := ⟨_, rfl⟩
            have hnl : ns.length ≤ 3 := by rw [hns]; exact named_len _
            have Hval : Hid (∀ j, j < ns.length → liftOk 2 (lfF ns j) (lfT ns j) (lfG ns j) = true) := by rw [hns]; exact (liftB_true.1 (named_liftB _)).2.2.2
            have hup : Hid (bestUp R (k + 1) = bestUp R k ++ shiftL (f : Int) ns) := by show _ = _; rw [hns, Hf.out]; rfl
            rw [← hns] at hl8 ⊢
            have hl8' := Lib.hid hl8
            have p8' := Lib.hid p8
            have B8 := Hbl.out.trans (b8.mono Hbl.out.size)
            have z8 := b8.size
            have zo := Hbl.out.size
            have Ho8 : Hid (w8.ownsRow w1.heap.size 52 3 (.slice A3 n c3) n (flatL (bestUp R k))) := own_below Ho.out b8 (Nat.le_refl _)
            have Hob : Hid (∀ q, (Value.slice A3 n c3).ownBlock = some q → q < wo.heap.size) := fun q hq => (World.ownsRow.lt Ho.out q hq).2
            clear hns hl8 p8 b8 Ho c0 c1 m0 hlen2 Hsub htwo hlt4
            go_wp2_with fail
            go_loopw [3, 13] (fun ov jv wi => (∃ (j n' : Nat) (A' : Option Addr) (c' : Nat), j ≤ ns.length ∧ jv = .int .i64 j ∧ ov = .slice A' n' c' ∧ n' = n + j ∧ wi.ownsRow w1.heap.size 52 3 (.slice A' n' c') n' (flatL (bestUp R k ++ (shiftL (f : Int) ns).take j)) ∧ ∀ q, (Value.slice A' n' c').ownBlock = some q → q < wo.heap.size ∨ w8.heap.size ≤ q) ∧ Below w1.heap.size w1 wi ∧ w8.heap.size ≤ wi.heap.size ∧ Lfts wi w8.heap.size A8 ns) (fun _ jv _ => ns.length - (intOf jv).toNat)
            case atStart => exact ⟨⟨0, n, A3, c3, Nat.zero_le _, rfl, rfl, rfl, by simpa using Ho8.out, fun q hq => .inl (Hob.out q hq)⟩, B8, Nat.le_refl _, hl8'.out⟩
            case round =>
              obtain ⟨⟨j, n5, A5, c5, hj, rfl, rfl, hn5, ho5, hq5⟩, hb5, hz5, hl5⟩ := hrel
              obtain ⟨wi, rfl⟩ : ∃ wi : World, wi = wr := ⟨_, rfl⟩
              have Ho5 := Lib.hid ho5
              have Hq5 := Lib.hid hq5
              have Hb5 := Lib.hid hb5
              have Hl5 := Lib.hid hl5
              have Hn5 := Lib.hid hn5
              have n5b : n5 ≤ 100 := by omega
              have zi := hb5.size
              clear ho5 hq5 hb5 hl5 hn5
              by_cases hlt2 : j < ns.length
              · obtain ⟨b5, o5, e5, hc1, hc2, hc3⟩ := Hl5.out.at_ hlt2
                have nz1 := World.new_ne wi _ hc1
                have nz2 := World.new_ne wi _ hc2
                have nz3 := World.new_ne wi _ hc3
                have hok := liftOk_true.1 (Hval.out j hlt2)
                obtain ⟨x, hx⟩ : ∃ x, x = lfF ns j := ⟨_, rfl⟩
                obtain ⟨y, hy⟩ : ∃ y, y = lfT ns j := ⟨_, rfl⟩
                obtain ⟨g, hg⟩ : ∃ g, g = lfG ns j := ⟨_, rfl⟩
                rw [← hx, ← hy] at hok
                rw [← hx] at hc1
                rw [← hy] at hc2
                rw [← hg] at hc3
                obtain ⟨k1, k2, k3, k4, _, _, _⟩ := hok
                have htk : Hid ((shiftL (f : Int) ns).take (j + 1) = (shiftL (f : Int) ns).take j ++ [(x + f, y + f, g)]) := by show _ = _; rw [hx, hy, hg]; exact shift_take hlt2
                have E5 := Lib.hid e5
                rw [e5]
                clear hx hy hg e5
                have w1x : IntKind.i64.wrap (x + (f : Int)) = x + (f : Int) := IntWalk.i64_in _ (by omega)
                have w2x : IntKind.i64.wrap (y + (f : Int)) = y + (f : Int) := IntWalk.i64_in _ (by omega)
                have j1 : (0 : Int) ≤ (j : Int) := by omega
                have j2 : (j : Int) < (ns.length : Int) := by omega
                have hblt : wo.heap.size ≤ b5 ∧ b5 < w8.heap.size := by
                  obtain ⟨b6, o6, e6, hlt6, _⟩ := Hl5.out (by omega)
                  have := p8'.out _ E5.out
                  rw [E5.out] at e6
                  simp only [Option.some.injEq, Addr.mk.injEq, and_true] at e6
                  obtain ⟨rfl, rfl⟩ := e6
                  exact ⟨this, hlt6⟩
                obtain ⟨i0, hi0, hz0, hz1, hz2⟩ := info_parts lift_info
                go_wp2_with fail
                go_region_held3 (fun w' => w'.cell? ⟨b5, o5 + j * 3, none⟩ = some (.int .i64 x) ∧ w'.cell? ⟨b5, o5 + j * 3 + 1, none⟩ = some (.int .i64 y) ∧ w'.cell? ⟨b5, o5 + j * 3 + 2, none⟩ = some (.int .i64 g)) (first | (go_keep; done) | exact ⟨hd1, hd2, hd3⟩)
                  (first | (refine step_app _ rfl (.tmp 59) (.tmp 80) 23 rfl w1.heap.size 52 i0 _ 3 24 Try.underlying23 hi0 hz0 hz1 hz2 rfl (by omega) (.slice A5 n5 c5) n5 _ rfl (Ho5.out.alloc _) _ _ 1 1 (flatL [(x + (f : Int), y + (f : Int), g)]) rfl rfl (lfts_rd (lfts_one wi (x + (f : Int)) (y + (f : Int)) g _ rfl)).drew (flat_one _) (by simp only [maxLen]; omega) (by omega) (by simp; omega) ?_; intro A7 c7 w7 ho7 hg7 hat7; have hb7 : w7.heap[b5]? = wi.heap[b5]? := (hg7.block b5 (by simp; omega) (fun e => by have := Hq5.out b5 e.symm; omega)).trans (Below.heap_alloc _ _ _ (by omega)); have hd1 := (World.cell?_of_block (a := ⟨b5, o5 + j * 3, none⟩) hb7).trans hc1; have hd2 := (World.cell?_of_block (a := ⟨b5, o5 + j * 3 + 1, none⟩) hb7).trans hc2; have hd3 := (World.cell?_of_block (a := ⟨b5, o5 + j * 3 + 2, none⟩) hb7).trans hc3))
                have zg := hg7.size
                have zs : wi.heap.size + 1 ≤ w7.heap.size := by simp at zg; omega
                have Hb7 : Hid (Below w1.heap.size w1 w7) := ((Hb5.out.alloc zi (.cells #[.int .i64 (x + f), .int .i64 (y + f), .int .i64 g] 52)).drew).grown hg7 (by simp; omega) fun q hq => (World.ownsRow.lt Ho5.out q hq).1
                have Ho7 : Hid (w7.ownsRow w1.heap.size 52 3 (.slice A7 (n5 + 1) c7) (n5 + 1) (flatL (bestUp R k ++ (shiftL (f : Int) ns).take (j + 1)))) := by
                  show World.ownsRow _ _ _ _ _ _ _
                  rw [htk.out, ← List.append_assoc, flat_app]; exact ho7
                have Hq7 : Hid (∀ q, (Value.slice A7 (n5 + 1) c7).ownBlock = some q → q < wo.heap.size ∨ w8.heap.size ≤ q) := fun q hq => by
                  rcases hat7 with e | e
                  · rw [e] at hq; exact Hq5.out q hq
                  · rw [e] at hq; simp at hq; omega
                have Hl7 : Hid (Lfts w7 w8.heap.size A8 ns) := Hl5.out.other (Nat.le_refl _) fun p hp hpb => by
                  rw [E5.out] at hp
                  cases hp
                  exact hb7
                clear ho7 hg7 hat7 zg hd1 hd2 hd3 hb7 w1x w2x hi0 hz0 hz1 hz2
                all_goals go_wp2_with fail
                go_roundw
                case rel => exact ⟨⟨j + 1, n5 + 1, A7, c7, by omega, by go_num, rfl, by have := Hn5.out; omega, Ho7.out, Hq7.out⟩, Hb7.out, by omega, by rw [← E5.out]; exact Hl7.out⟩
                case measure => simp [intOf]; omega
              · have e : j = ns.length := by omega
                subst e
                have Hoe : Hid (wi.ownsRow w1.heap.size 52 3 (.slice A5 n5 c5) n5 (flatL (bestUp R (k + 1)))) := by
                  show World.ownsRow _ _ _ _ _ _ _
                  rw [hup.out, ← shift_all (d := (f : Int)) (ls := ns)]; exact Ho5.out
                have hne : Hid (n5 = (bestUp R (k + 1)).length) := by
                  show _ = _
                  rw [hup.out, List.length_append, shift_len, ← Hn.out]; exact Hn5.out
                go_wp2_with fail
                go_roundw
                case rel => exact ⟨⟨k + 1, n5, A5, c5, by have := Hf.out; omega, by have := Hf.out; go_num, rfl, hne.out, Hoe.out⟩, Hb5.out⟩
                case measure => simp [intOf]; omega
      · have e : Hid (r / 2 = k) := by show _ = _; have := Hf.out; omega
        go_wp2_with fail
        go_ret
        rw [hr.out, e.out]
        have hnn := Hn.out
        subst hnn
        exact ⟨A3, c3, rfl, own_lfts Ho.out, BB.out⟩
end Go.Proofs.Ytjdoagkbcooonaa
