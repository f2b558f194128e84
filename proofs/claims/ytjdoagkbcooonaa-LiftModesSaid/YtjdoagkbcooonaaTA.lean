/-
  Lifts in memory; rows of rows in memory; which lifts may be.
-/
import Derived.Test.YtjdoagkbcooonaaProg
import Derived.Test.YtjdoagkbcooonaaTP
import Derived.Test.YtjdoagkbcooonaaAI
import Derived.Test.YtjdoagkbcooonaaR2
import Derived.Deep.LoopGhost
import Derived.Deep.DeepCutAuto
import Derived.Deep.CutBlock
namespace Go.Proofs.Ytjdoagkbcooonaa
open Go.RowKit

/-- a row of lifts. -/
def Lfts (w : World) (B : Nat) (A : Option Addr) (ls : List Lft) : Prop :=
  0 < ls.length → ∃ b off, A = some ⟨b, off, none⟩ ∧ b < B ∧ ∀ i, i < ls.length → w.cell? ⟨b, off + i * 3, none⟩ = some (.int .i64 (lfF ls i)) ∧ w.cell? ⟨b, off + i * 3 + 1, none⟩ = some (.int .i64 (lfT ls i)) ∧ w.cell? ⟨b, off + i * 3 + 2, none⟩ = some (.int .i64 (lfG ls i))
theorem Lfts.below {w w' : World} {B : Nat} {A : Option Addr} {ls : List Lft} (h : Lfts w B A ls) (hb : Below B w w') : Lfts w' B A ls := fun h0 => by
  obtain ⟨b, off, e, hB, hc⟩ := h h0
  exact ⟨b, off, e, hB, fun i hi => ⟨(hb.cell (p := ⟨b, off + i * 3, none⟩) hB).trans (hc i hi).1, (hb.cell (p := ⟨b, off + i * 3 + 1, none⟩) hB).trans (hc i hi).2.1, (hb.cell (p := ⟨b, off + i * 3 + 2, none⟩) hB).trans (hc i hi).2.2⟩⟩
theorem Lfts.more {w : World} {B B2 : Nat} {A : Option Addr} {ls : List Lft} (h : Lfts w B A ls) (hB : B ≤ B2) : Lfts w B2 A ls := fun h0 => by
  obtain ⟨b, off, e, hb, hc⟩ := h h0
  exact ⟨b, off, e, by omega, hc⟩
theorem Lfts.at_ {w : World} {B : Nat} {A : Option Addr} {ls : List Lft} (h : Lfts w B A ls) {i : Nat} (hi : i < ls.length) :
    ∃ b off, A = some ⟨b, off, none⟩ ∧ w.cell? ⟨b, off + i * 3, none⟩ = some (.int .i64 (lfF ls i)) ∧ w.cell? ⟨b, off + i * 3 + 1, none⟩ = some (.int .i64 (lfT ls i)) ∧ w.cell? ⟨b, off + i * 3 + 2, none⟩ = some (.int .i64 (lfG ls i)) := by
  obtain ⟨b, off, e, _, hc⟩ := h (by omega)
  exact ⟨b, off, e, hc i hi⟩
theorem Lfts.nil {w : World} {B : Nat} {A : Option Addr} : Lfts w B A [] := fun h => absurd h (by simp)

/-- r rows: row i lies at RA i and reads R i. -/
structure Rw (w : World) (B : Nat) (A : Option Addr) (r : Nat) (RA : Nat → Option Addr) (RC : Nat → Nat) (R : Nat → List Int) : Prop where
  out : 0 < r → ∃ b off, A = some ⟨b, off, none⟩ ∧ b < B ∧ ∀ i, i < r → w.cell? ⟨b, off + i, none⟩ = some (.slice (RA i) (R i).length (RC i))
  ints : ∀ i, i < r → Ints .i64 w B (RA i) (R i)
  len : ∀ i, i < r → (R i).length ≤ 9223372036854775807
  cap : ∀ i, i < r → (R i).length ≤ RC i
section
variable {w w' : World} {B B2 r : Nat} {A : Option Addr} {RA : Nat → Option Addr} {RC : Nat → Nat} {R : Nat → List Int}
theorem Rw.below (h : Rw w B A r RA RC R) (hb : Below B w w') : Rw w' B A r RA RC R :=
  { h with
    out := fun h0 => by
      obtain ⟨b, off, e, hB, hc⟩ := h.out h0
      exact ⟨b, off, e, hB, fun i hi => (hb.cell (p := ⟨b, off + i, none⟩) hB).trans (hc i hi)⟩
    ints := fun i hi => (h.ints i hi).below hb }
theorem Rw.more (h : Rw w B A r RA RC R) (hB : B ≤ B2) : Rw w B2 A r RA RC R :=
  { h with
    out := fun h0 => by
      obtain ⟨b, off, e, hb, hc⟩ := h.out h0
      exact ⟨b, off, e, by omega, hc⟩
    ints := fun i hi => (h.ints i hi).more hB }
theorem Rw.nil {RA : Nat → Option Addr} {RC : Nat → Nat} {R : Nat → List Int} : Rw w B A 0 RA RC R := ⟨fun h => by omega, fun i h => by omega, fun i h => by omega, fun i h => by omega⟩
theorem Rw.at_ (h : Rw w B A r RA RC R) {i : Nat} (hi : i < r) : ∃ b off, A = some ⟨b, off, none⟩ ∧ w.cell? ⟨b, off + i, none⟩ = some (.slice (RA i) (R i).length (RC i)) := by
  obtain ⟨b, off, e, _, hc⟩ := h.out (by omega)
  exact ⟨b, off, e, hc i hi⟩
theorem Rw.at0 (h : Rw w B A r RA RC R) {i : Nat} (hi : i < r) : ∃ b off, A = some ⟨b, off, none⟩ ∧ w.cell? ⟨b, off + i, none⟩ = some (.slice (RA i) (R i).length (RC i)) ∧ w.cell? ⟨b, off, none⟩ = some (.slice (RA 0) (R 0).length (RC 0)) := by
  obtain ⟨b, off, e, _, hc⟩ := h.out (by omega)
  exact ⟨b, off, e, hc i hi, by have := hc 0 (by omega); simpa using this⟩
theorem Rw.drewN (h : Rw w B A r RA RC R) (n : Nat) : Rw (w.drewN n) B A r RA RC R := ⟨h.out, h.ints, h.len, h.cap⟩
theorem Rw.cong {R' : Nat → List Int} (h : Rw w B A r RA RC R) (he : ∀ i, i < r → R' i = R i) : Rw w B A r RA RC R' :=
  ⟨fun h0 => by
    obtain ⟨b, off, e, hb, hc⟩ := h.out h0
    exact ⟨b, off, e, hb, fun i hi => by rw [he i hi]; exact hc i hi⟩, fun i hi => by rw [he i hi]; exact h.ints i hi, fun i hi => by rw [he i hi]; exact h.len i hi, fun i hi => by rw [he i hi]; exact h.cap i hi⟩
end

theorem wideT_any (x : Int) (w : World) :
    Calls Try.prog 44 #[.int .i64 x] w fun e w' => e = .returned (.bool (wideB x)) ∧ w = w' := by
  by_cases h : -1073741824 ≤ x
  · have hd : Hid (wideB x = decide (x < 1073741824)) := by show _ = _; simp [wideB, h]
    go_enter Try.func44, Try.ntmps44
    go_wp2
    go_ret
    exact ⟨by rw [hd.out]; rfl, rfl⟩
  · have hd : Hid (wideB x = false) := by show _ = _; simp [wideB]; omega
    go_enter Try.func44, Try.ntmps44
    go_wp2
    go_ret
    exact ⟨by rw [hd.out]; rfl, rfl⟩

set_option maxHeartbeats 2000000 in
theorem mayL_any (ls : List Lft) (n : Nat) (hn : n = ls.length) (hm : n ≤ 9223372036854775807) (ch : Int) (A : Option Addr) (c : Nat) (w : World) (hs : Lfts w w.heap.size A ls) :
    Calls Try.prog 21 #[.slice A n c, .int .i64 ch] w fun e w' => e = .returned (.bool (liftB ls ch)) ∧ Below w.heap.size w w' := by
  have Hn := Lib.hid hn
  by_cases h1 : ch < 1
  · have hr := Lib.hid (liftB_no (ls := ls) (ch := ch) (by omega))
    clear hn
    go_enter Try.func21, Try.ntmps21
    go_wp2
    go_ret
    exact ⟨ret_bool hr.out.symm, brefl w⟩
  by_cases h2 : 8 < ch
  · have hr := Lib.hid (liftB_no (ls := ls) (ch := ch) (by omega))
    clear hn
    go_enter Try.func21, Try.ntmps21
    go_wp2
    go_ret
    exact ⟨ret_bool hr.out.symm, brefl w⟩
  by_cases h3 : 16 < n
  · have hr := Lib.hid (liftB_no (ls := ls) (ch := ch) (by omega))
    have hI : (16 : Int) < (n : Int) := by omega
    clear hn
    go_enter Try.func21, Try.ntmps21
    go_wp2
    go_ret
    exact ⟨ret_bool hr.out.symm, brefl w⟩
  have hI : (n : Int) ≤ 16 := by omega
  have n16 : n ≤ 16 := by omega
  have Hyes : Hid ((∀ k, k < ls.length → liftOk ch (lfF ls k) (lfT ls k) (lfG ls k) = true) → liftB ls ch = true) := fun h => liftB_true.2 ⟨by omega, by omega, by omega, h⟩
  have Hno : Hid (∀ k, k < ls.length → liftOk ch (lfF ls k) (lfT ls k) (lfG ls k) = false → liftB ls ch = false) := fun k hk h => liftB_no fun h' => by rw [h'.2.2.2 k hk] at h; cases h
  clear hn h3
  go_enter Try.func21, Try.ntmps21
  go_wp2
  go_loopw [6, 20] (fun _ iv wr => (∃ k : Nat, k ≤ n ∧ iv = .int .i64 k ∧ ∀ j, j < k → liftOk ch (lfF ls j) (lfT ls j) (lfG ls j) = true) ∧ Below w.heap.size w wr) (fun _ iv _ => n - (intOf iv).toNat)
  case atStart => exact ⟨⟨0, Nat.zero_le _, rfl, fun j h => absurd h (by omega)⟩, brefl w⟩
  case round =>
    obtain ⟨⟨k, hk, rfl, hj⟩, hbl⟩ := hrel
    have Hj := Lib.hid hj
    have Hb := Lib.hid hbl
    clear hj hbl
    by_cases hlt : k < n
    · have hkl : k < ls.length := by rw [← Hn.out]; exact hlt
      obtain ⟨b1, o1, rfl, hc1, hc2, hc3⟩ := (hs.below Hb.out).at_ hkl
      have nz1 := World.new_ne wr _ hc1
      have nz2 := World.new_ne wr _ hc2
      have nz3 := World.new_ne wr _ hc3
      have Hno2 : Hid (liftOk ch (lfF ls k) (lfT ls k) (lfG ls k) = false → liftB ls ch = false) := Hno.out k hkl
      obtain ⟨f, hf⟩ : ∃ f, f = lfF ls k := ⟨_, rfl⟩
      obtain ⟨t, ht⟩ : ∃ t, t = lfT ls k := ⟨_, rfl⟩
      obtain ⟨g, hg⟩ : ∃ g, g = lfG ls k := ⟨_, rfl⟩
      rw [← hf] at hc1
      rw [← ht] at hc2
      rw [← hg] at hc3
      rw [← hf, ← ht, ← hg] at Hno2
      have HF := Lib.hid hf
      have HT := Lib.hid ht
      have HG := Lib.hid hg
      clear hf ht hg
      by_cases a0 : f < 0
      · have hr := Lib.hid (Hno2.out (liftOk_no (by omega)))
        go_wp2
        go_ret
        exact ⟨ret_bool hr.out.symm, bal Hb.out _⟩
      by_cases a1 : ch ≤ f
      · have hr := Lib.hid (Hno2.out (liftOk_no (by omega)))
        go_wp2
        go_ret
        exact ⟨ret_bool hr.out.symm, bal Hb.out _⟩
      by_cases a2 : t < 0
      · have hr := Lib.hid (Hno2.out (liftOk_no (by omega)))
        go_wp2
        go_ret
        exact ⟨ret_bool hr.out.symm, bal Hb.out _⟩
      by_cases a3 : ch ≤ t
      · have hr := Lib.hid (Hno2.out (liftOk_no (by omega)))
        go_wp2
        go_ret
        exact ⟨ret_bool hr.out.symm, bal Hb.out _⟩
      by_cases a4 : f = t
      · have hr := Lib.hid (Hno2.out (liftOk_no (by omega)))
        have heq : (f == t) = true := by simp [a4]
        clear a4
        go_wp2
        go_ret
        exact ⟨ret_bool hr.out.symm, bal Hb.out _⟩
      have hne : (f == t) = false := by simp [a4]
      by_cases a5 : g < -1024
      · have hr := Lib.hid (Hno2.out (liftOk_no (by omega)))
        go_wp2
        go_ret
        exact ⟨ret_bool hr.out.symm, bal Hb.out _⟩
      by_cases a6 : 1024 < g
      · have hr := Lib.hid (Hno2.out (liftOk_no (by omega)))
        go_wp2
        go_ret
        exact ⟨ret_bool hr.out.symm, bal Hb.out _⟩
      have hok : Hid (liftOk ch f t g = true) := liftOk_true.2 ⟨by omega, by omega, by omega, by omega, a4, by omega, by omega⟩
      clear a4
      go_wp2
      go_roundw
      case rel =>
        refine ⟨⟨k + 1, by omega, by go_num, fun j h => ?_⟩, bal Hb.out _⟩
        by_cases e : j = k
        · subst e; rw [← HF.out, ← HT.out, ← HG.out]; exact hok.out
        · exact Hj.out j (by omega)
      case measure => simp [intOf]; omega
    · have hr := Lib.hid (Hyes.out fun j hj => Hj.out j (by have := Hn.out; omega))
      go_wp2
      go_ret
      exact ⟨ret_bool hr.out.symm, Hb.out⟩

set_option maxHeartbeats 2000000 in
theorem mayR_any (ls : List Lft) (n : Nat) (hn : n = ls.length) (hm : n ≤ 9223372036854775807) (ch : Int) (A : Option Addr) (c : Nat) (w : World) (hs : Lfts w w.heap.size A ls) :
    Calls Try.prog 22 #[.slice A n c, .int .i64 ch] w fun e w' => e = .returned (.bool (liftB ls ch)) ∧ Below w.heap.size w w' := by
  have Hn := Lib.hid hn
  by_cases h1 : ch < 1
  · have hr := Lib.hid (liftB_no (ls := ls) (ch := ch) (by omega))
    clear hn
    go_enter Try.func22, Try.ntmps22
    go_wp2
    go_ret
    exact ⟨ret_bool hr.out.symm, brefl w⟩
  by_cases h2 : 8 < ch
  · have hr := Lib.hid (liftB_no (ls := ls) (ch := ch) (by omega))
    clear hn
    go_enter Try.func22, Try.ntmps22
    go_wp2
    go_ret
    exact ⟨ret_bool hr.out.symm, brefl w⟩
  by_cases h3 : 16 < n
  · have hr := Lib.hid (liftB_no (ls := ls) (ch := ch) (by omega))
    have hI : (16 : Int) < (n : Int) := by omega
    clear hn
    go_enter Try.func22, Try.ntmps22
    go_wp2
    go_ret
    exact ⟨ret_bool hr.out.symm, brefl w⟩
  have hI : (n : Int) ≤ 16 := by omega
  have n16 : n ≤ 16 := by omega
  have Hyes : Hid ((∀ k, k < ls.length → liftOk ch (lfF ls k) (lfT ls k) (lfG ls k) = true) → liftB ls ch = true) := fun h => liftB_true.2 ⟨by omega, by omega, by omega, h⟩
  have Hno : Hid (∀ k, k < ls.length → liftOk ch (lfF ls k) (lfT ls k) (lfG ls k) = false → liftB ls ch = false) := fun k hk h => liftB_no fun h' => by rw [h'.2.2.2 k hk] at h; cases h
  clear hn h3
  go_enter Try.func22, Try.ntmps22
  go_wp2
  go_loopw [5, 6] (fun iv _ wr => (∃ k : Nat, k ≤ n ∧ iv = .int .i64 k ∧ ∀ j, j < k → liftOk ch (lfF ls j) (lfT ls j) (lfG ls j) = true) ∧ Below w.heap.size w wr) (fun iv _ _ => n - (intOf iv).toNat)
  case atStart => exact ⟨⟨0, Nat.zero_le _, rfl, fun j h => absurd h (by omega)⟩, brefl w⟩
  case round =>
    obtain ⟨⟨k, hk, rfl, hj⟩, hbl⟩ := hrel
    have Hj := Lib.hid hj
    have Hb := Lib.hid hbl
    clear hj hbl
    by_cases hlt : k < n
    · have hkl : k < ls.length := by rw [← Hn.out]; exact hlt
      obtain ⟨b1, o1, rfl, hc1, hc2, hc3⟩ := (hs.below Hb.out).at_ hkl
      have nz1 := World.new_ne wr _ hc1
      have nz2 := World.new_ne wr _ hc2
      have nz3 := World.new_ne wr _ hc3
      have Hno2 : Hid (liftOk ch (lfF ls k) (lfT ls k) (lfG ls k) = false → liftB ls ch = false) := Hno.out k hkl
      obtain ⟨f, hf⟩ : ∃ f, f = lfF ls k := ⟨_, rfl⟩
      obtain ⟨t, ht⟩ : ∃ t, t = lfT ls k := ⟨_, rfl⟩
      obtain ⟨g, hg⟩ : ∃ g, g = lfG ls k := ⟨_, rfl⟩
      rw [← hf] at hc1
      rw [← ht] at hc2
      rw [← hg] at hc3
      rw [← hf, ← ht, ← hg] at Hno2
      have HF := Lib.hid hf
      have HT := Lib.hid ht
      have HG := Lib.hid hg
      clear hf ht hg
      by_cases a0 : f < 0
      · have hr := Lib.hid (Hno2.out (liftOk_no (by omega)))
        go_wp2
        go_ret
        exact ⟨ret_bool hr.out.symm, bal Hb.out _⟩
      by_cases a1 : ch ≤ f
      · have hr := Lib.hid (Hno2.out (liftOk_no (by omega)))
        go_wp2
        go_ret
        exact ⟨ret_bool hr.out.symm, bal Hb.out _⟩
      by_cases a2 : t < 0
      · have hr := Lib.hid (Hno2.out (liftOk_no (by omega)))
        go_wp2
        go_ret
        exact ⟨ret_bool hr.out.symm, bal Hb.out _⟩
      by_cases a3 : ch ≤ t
      · have hr := Lib.hid (Hno2.out (liftOk_no (by omega)))
        go_wp2
        go_ret
        exact ⟨ret_bool hr.out.symm, bal Hb.out _⟩
      by_cases a4 : f = t
      · have hr := Lib.hid (Hno2.out (liftOk_no (by omega)))
        have heq : (f == t) = true := by simp [a4]
        clear a4
        go_wp2
        go_ret
        exact ⟨ret_bool hr.out.symm, bal Hb.out _⟩
      have hne : (f == t) = false := by simp [a4]
      by_cases a5 : g < -1024
      · have hr := Lib.hid (Hno2.out (liftOk_no (by omega)))
        go_wp2
        go_ret
        exact ⟨ret_bool hr.out.symm, bal Hb.out _⟩
      by_cases a6 : 1024 < g
      · have hr := Lib.hid (Hno2.out (liftOk_no (by omega)))
        go_wp2
        go_ret
        exact ⟨ret_bool hr.out.symm, bal Hb.out _⟩
      have hok : Hid (liftOk ch f t g = true) := liftOk_true.2 ⟨by omega, by omega, by omega, by omega, a4, by omega, by omega⟩
      clear a4
      go_wp2
      go_roundw
      case rel =>
        refine ⟨⟨k + 1, by omega, by go_num, fun j h => ?_⟩, bal Hb.out _⟩
        by_cases e : j = k
        · subst e; rw [← HF.out, ← HT.out, ← HG.out]; exact hok.out
        · exact Hj.out j (by omega)
      case measure => simp [intOf]; omega
    · have hr := Lib.hid (Hyes.out fun j hj => Hj.out j (by have := Hn.out; omega))
      go_wp2
      go_ret
      exact ⟨ret_bool hr.out.symm, Hb.out⟩

end Go.Proofs.Ytjdoagkbcooonaa
