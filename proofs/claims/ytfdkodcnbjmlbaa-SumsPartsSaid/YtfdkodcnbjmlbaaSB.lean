/-
  The checksums: package sums' and the reference's functions compute crc8, crc16, crc32. (Printed by gen_crc.py.)
-/
import Derived.Test.YtfdkodcnbjmlbaaProg
import Derived.Test.YtfdkodcnbjmlbaaK
import Derived.Test.YtfdkodcnbjmlbaaSC
import Derived.Laws.BitsAllLaws
namespace Go.Proofs.Ytfdkodcnbjmlbaa
open Go.RowKit

/-- every number of l is a byte. -/
def Byt (l : List Int) : Prop := ∀ x ∈ l, 0 ≤ x ∧ x < 256
theorem Byt.ix_ {l : List Int} (h : Byt l) {k : Nat} (hk : k < l.length) : 0 ≤ ix l k ∧ ix l k < 256 := h _ (ix_mem hk)
theorem bv_succ {l : List Int} {k : Nat} (h : k < l.length) : bv (l.take (k + 1)) = bv (l.take k) ++ [BitVec.ofInt 8 (ix l k)] := by rw [take_succ_ix h]; simp [bv]
theorem ofInt8_toNat {c : Int} (h0 : 0 ≤ c) (h1 : c < 256) : (BitVec.ofInt 8 c).toNat = c.toNat := by
  rw [BitVec.toNat_ofInt]; congr 1; omega
theorem xor8 (s : BitVec 8) {c : Int} (h0 : 0 ≤ c) (h1 : c < 256) : bits .xor .u8 (s.toNat : Int) c = ((s ^^^ BitVec.ofInt 8 c).toNat : Int) := by
  have hs := s.isLt
  rw [u8_xor _ _ (by omega) (by omega) h0 h1, BitVec.toNat_xor, ofInt8_toNat h0 h1]; rfl
theorem xor16 (s : BitVec 16) {c : Int} (h0 : 0 ≤ c) (h1 : c < 256) : bits .xor .u16 (s.toNat : Int) (c * 256) = ((s ^^^ ((BitVec.ofInt 8 c).setWidth 16 <<< 8)).toNat : Int) := by
  have hs := s.isLt
  rw [u16_xor _ _ (by omega) (by omega) (by omega) (by omega), BitVec.toNat_xor, BitVec.toNat_shiftLeft, BitVec.toNat_setWidth, ofInt8_toNat h0 h1, Nat.shiftLeft_eq]
  congr 2
  omega
theorem xor32 (s : BitVec 32) {c : Int} (h0 : 0 ≤ c) (h1 : c < 256) : bits .xor .u32 (s.toNat : Int) c = ((s ^^^ (BitVec.ofInt 8 c).setWidth 32).toNat : Int) := by
  have hs := s.isLt
  rw [u32_xor _ _ (by omega) (by omega) (by omega) (by omega), BitVec.toNat_xor, BitVec.toNat_setWidth, ofInt8_toNat h0 h1]
  congr 2
  omega
theorem s8_hi (t : BitVec 8) (h : t.toNat / 128 = 1) : bits .xor .u8 ((t.toNat : Int) * 2 % 256) 7 = ((stp 7#8 t).toNat : Int) := by
  rw [stp_toNat, if_pos h, u8_xor _ _ (by omega) (by omega) (by omega) (by omega)]
  congr 2
theorem s8_lo (t : BitVec 8) (h : ¬ t.toNat / 128 = 1) : (t.toNat : Int) * 2 % 256 = ((stp 7#8 t).toNat : Int) := by
  rw [stp_toNat, if_neg h]; omega
theorem s16_hi (t : BitVec 16) (h : t.toNat / 32768 = 1) : bits .xor .u16 (IntKind.u16.wrap ((t.toNat : Int) * 2)) 32773 = ((stp 0x8005#16 t).toNat : Int) := by
  rw [stp_toNat, if_pos h, IntKind.wrap_u16, u16_xor _ _ (by omega) (by omega) (by omega) (by omega)]
  congr 2
theorem s16_lo (t : BitVec 16) (h : ¬ t.toNat / 32768 = 1) : IntKind.u16.wrap ((t.toNat : Int) * 2) = ((stp 0x8005#16 t).toNat : Int) := by
  rw [stp_toNat, if_neg h, IntKind.wrap_u16]; omega
theorem s16_lo' (t : BitVec 16) (h : ¬ t.toNat / 32768 = 1) : (t.toNat : Int) * 2 % 65536 = ((stp 0x8005#16 t).toNat : Int) := by
  rw [stp_toNat, if_neg h]; omega
theorem s8_lo' (t : BitVec 8) (h : ¬ t.toNat / 128 = 1) : (t.toNat : Int) * 2 % 256 = ((stp 7#8 t).toNat : Int) := s8_lo t h
theorem s32_hi (t : BitVec 32) (h : t.toNat % 2 = 1) : bits .xor .u32 ((t.toNat : Int) / 2) 3988292384 = ((stpR 0xedb88320#32 t).toNat : Int) := by
  have hs := t.isLt
  rw [stpR_toNat, if_pos h, u32_xor _ _ (by omega) (by omega) (by omega) (by omega)]
  congr 2
theorem s32_lo (t : BitVec 32) (h : ¬ t.toNat % 2 = 1) : (t.toNat : Int) / 2 = ((stpR 0xedb88320#32 t).toNat : Int) := by
  rw [stpR_toNat, if_neg h]; omega
theorem s32_and (t : BitVec 32) : bits .and .u32 (t.toNat : Int) 1 = ((t.toNat % 2 : Nat) : Int) := by
  have hs := t.isLt
  rw [u32_and _ _ (by omega) (by omega) (by omega) (by omega)]
  show ((t.toNat &&& 1 : Nat) : Int) = _
  rw [Nat.and_one_is_mod]
theorem run8_snoc (s : BitVec 8) (l : List (BitVec 8)) (c : BitVec 8) : run8 s (l ++ [c]) = stpN 7#8 8 (run8 s l ^^^ c) := by simp [run8, in8]
theorem run16_snoc (s : BitVec 16) (l : List (BitVec 8)) (c : BitVec 8) : run16 s (l ++ [c]) = stpN 0x8005#16 8 (run16 s l ^^^ (c.setWidth 16 <<< 8)) := by simp [run16, in16]
theorem run32_snoc (s : BitVec 32) (l : List (BitVec 8)) (c : BitVec 8) : run32 s (l ++ [c]) = stpRN 0xedb88320#32 8 (run32 s l ^^^ c.setWidth 32) := by simp [run32, in32]
theorem not32 (s : BitVec 32) : bits .xor .u32 IntKind.u32.max (s.toNat : Int) = ((~~~ s).toNat : Int) := by
  have hs := s.isLt
  have hm : IntKind.u32.max = 4294967295 := by decide
  rw [hm, u32_xor _ _ (by omega) (by omega) (by omega) (by omega), BitVec.not_def, BitVec.toNat_xor, BitVec.toNat_allOnes]
  rfl

set_option maxHeartbeats 1000000 in
set_option maxRecDepth 100000 in
theorem eightL_any (l : List Int) (hf : Byt l) (n : Nat) (hn : n = l.length) (hm : n ≤ 140737488355328) (A : Option Addr) (b c : Nat) (w : World) (ha : Ints .u8 w b A l) :
    Calls Try.prog 12 #[.slice A n c] w fun e w' => e = .returned (.int .u8 ((crc8 l).toNat : Int)) ∧ w = w' := by
  subst hn
  go_enter Try.func12, Try.ntmps12
  go_wp2_with fail
  go_loop [3, 9] (fun s i => ∃ k : Nat, k ≤ l.length ∧ i = .int .i64 k ∧ s = .int .u8 ((run8 0#8 (bv (l.take k))).toNat : Int)) (fun _ i => l.length - (intOf i).toNat)
  case atStart => exact ⟨0, Nat.zero_le _, rfl, rfl⟩
  case round =>
    obtain ⟨k, hk, rfl, rfl⟩ := hrel
    by_cases hlt : k < l.length
    · obtain ⟨bb, oo, rfl, hc1⟩ := ha.at_ hlt
      obtain ⟨x0, x1⟩ := hf.ix_ hlt
      obtain ⟨S, hS⟩ : ∃ S, S = run8 0#8 (bv (l.take k)) := ⟨_, rfl⟩
      obtain ⟨U, hU⟩ : ∃ U, U = S ^^^ BitVec.ofInt 8 (ix l k) := ⟨_, rfl⟩
      have hx := xor8 S x0 x1
      rw [← hU] at hx
      rw [← hS]
      have HS := Lib.hid hS
      have HU := Lib.hid hU
      have b1 : (S.toNat : Int) ≤ 255 := by have := S.isLt; omega
      clear hS hU
      go_wp2_with fail
      clear hx hc1
      go_loop [3, 16] (fun s j => ∃ m : Nat, m ≤ 8 ∧ j = .int .i64 m ∧ s = .int .u8 ((stpN 7#8 m U).toNat : Int)) (fun _ j => 8 - (intOf j).toNat)
      case atStart => exact ⟨0, Nat.zero_le _, rfl, rfl⟩
      case round =>
        obtain ⟨m, hm8, rfl, rfl⟩ := hrel
        by_cases hlt2 : m < 8
        · obtain ⟨V, hV⟩ : ∃ V, V = stpN 7#8 m U := ⟨_, rfl⟩
          rw [← hV]
          have HV := Lib.hid hV
          clear hV
          have b2 : (V.toNat : Int) ≤ 255 := by have := V.isLt; omega
          have b3 : (0 : Int) ≤ (V.toNat : Int) := by omega
          by_cases hb : V.toNat / 128 = 1
          · obtain ⟨X, hX⟩ : ∃ X, X = stp 7#8 V := ⟨_, rfl⟩
            have hs := s8_hi V hb
            rw [← hX] at hs
            have ht : ((V.toNat : Int) / 128 == 1) = true := by simp; omega
            have HX := Lib.hid hX
            clear hX hb
            go_wp2_with fail
            go_round
            case rel => exact ⟨m + 1, by omega, by go_num, by show _ = Value.int .u8 (((stp 7#8 (stpN 7#8 m U))).toNat : Int); rw [← HV.out, ← HX.out]⟩
            case measure => simp [intOf]; omega
          · obtain ⟨X, hX⟩ : ∃ X, X = stp 7#8 V := ⟨_, rfl⟩
            have hs := s8_lo V hb
            rw [← hX] at hs
            have ht : ((V.toNat : Int) / 128 == 1) = false := by simp; omega
            have HX := Lib.hid hX
            clear hX hb
            go_wp2_with fail
            go_round
            case rel => exact ⟨m + 1, by omega, by go_num, by show _ = Value.int .u8 (((stp 7#8 (stpN 7#8 m U))).toNat : Int); rw [← HV.out, ← HX.out]; exact congrArg _ (by omega)⟩
            case measure => simp [intOf]; omega
        · have e : m = 8 := by omega
          subst e
          go_wp2_with fail
          go_round
          case rel => exact ⟨k + 1, by omega, by go_num, by rw [bv_succ hlt, run8_snoc, ← HS.out, ← HU.out]⟩
          case measure => simp [intOf]; omega
    · have e : k = l.length := by omega
      subst e
      go_wp2_with fail
      go_ret
      exact ⟨rfl, rfl⟩

set_option maxHeartbeats 1000000 in
set_option maxRecDepth 100000 in
theorem eightR_any (l : List Int) (hf : Byt l) (n : Nat) (hn : n = l.length) (hm : n ≤ 140737488355328) (A : Option Addr) (b c : Nat) (w : World) (ha : Ints .u8 w b A l) :
    Calls Try.prog 13 #[.slice A n c] w fun e w' => e = .returned (.int .u8 ((crc8 l).toNat : Int)) ∧ w = w' := by
  subst hn
  go_enter Try.func13, Try.ntmps13
  go_wp2_with fail
  go_loop [3, 4] (fun s i => ∃ k : Nat, k ≤ l.length ∧ i = .int .i64 k ∧ s = .int .u8 ((run8 0#8 (bv (l.take k))).toNat : Int)) (fun _ i => l.length - (intOf i).toNat)
  case atStart => exact ⟨0, Nat.zero_le _, rfl, rfl⟩
  case round =>
    obtain ⟨k, hk, rfl, rfl⟩ := hrel
    by_cases hlt : k < l.length
    · obtain ⟨bb, oo, rfl, hc1⟩ := ha.at_ hlt
      obtain ⟨x0, x1⟩ := hf.ix_ hlt
      obtain ⟨S, hS⟩ : ∃ S, S = run8 0#8 (bv (l.take k)) := ⟨_, rfl⟩
      obtain ⟨U, hU⟩ : ∃ U, U = S ^^^ BitVec.ofInt 8 (ix l k) := ⟨_, rfl⟩
      have hx := xor8 S x0 x1
      rw [← hU] at hx
      rw [← hS]
      have HS := Lib.hid hS
      have HU := Lib.hid hU
      have b1 : (S.toNat : Int) ≤ 255 := by have := S.isLt; omega
      clear hS hU
      go_wp2_with fail
      clear hx hc1
      go_loop [3, 5] (fun s j => ∃ m : Nat, m ≤ 8 ∧ j = .int .i64 m ∧ s = .int .u8 ((stpN 7#8 m U).toNat : Int)) (fun _ j => 8 - (intOf j).toNat)
      case atStart => exact ⟨0, Nat.zero_le _, rfl, rfl⟩
      case round =>
        obtain ⟨m, hm8, rfl, rfl⟩ := hrel
        by_cases hlt2 : m < 8
        · obtain ⟨V, hV⟩ : ∃ V, V = stpN 7#8 m U := ⟨_, rfl⟩
          rw [← hV]
          have HV := Lib.hid hV
          clear hV
          have b2 : (V.toNat : Int) ≤ 255 := by have := V.isLt; omega
          have b3 : (0 : Int) ≤ (V.toNat : Int) := by omega
          by_cases hb : V.toNat / 128 = 1
          · obtain ⟨X, hX⟩ : ∃ X, X = stp 7#8 V := ⟨_, rfl⟩
            have hs := s8_hi V hb
            rw [← hX] at hs
            have ht : (128 : Int) ≤ (V.toNat : Int) := by omega
            have HX := Lib.hid hX
            clear hX hb
            go_wp2_with fail
            go_round
            case rel => exact ⟨m + 1, by omega, by go_num, by show _ = Value.int .u8 (((stp 7#8 (stpN 7#8 m U))).toNat : Int); rw [← HV.out, ← HX.out]⟩
            case measure => simp [intOf]; omega
          · obtain ⟨X, hX⟩ : ∃ X, X = stp 7#8 V := ⟨_, rfl⟩
            have hs := s8_lo' V hb
            rw [← hX] at hs
            have Hs := Lib.hid hs
            clear hs
            have ht : (V.toNat : Int) < 128 := by omega
            have HX := Lib.hid hX
            clear hX hb
            go_wp2_with fail
            go_round
            case rel => exact ⟨m + 1, by omega, by go_num, by show _ = Value.int .u8 (((stp 7#8 (stpN 7#8 m U))).toNat : Int); rw [← HV.out, ← HX.out]; exact congrArg _ (by have := Hs.out; omega)⟩
            case measure => simp [intOf]; omega
        · have e : m = 8 := by omega
          subst e
          go_wp2_with fail
          go_round
          case rel => exact ⟨k + 1, by omega, by go_num, by rw [bv_succ hlt, run8_snoc, ← HS.out, ← HU.out]⟩
          case measure => simp [intOf]; omega
    · have e : k = l.length := by omega
      subst e
      go_wp2_with fail
      go_ret
      exact ⟨rfl, rfl⟩

set_option maxHeartbeats 1000000 in
set_option maxRecDepth 100000 in
theorem sixteenL_any (l : List Int) (hf : Byt l) (n : Nat) (hn : n = l.length) (hm : n ≤ 140737488355328) (A : Option Addr) (b c : Nat) (w : World) (ha : Ints .u8 w b A l) :
    Calls Try.prog 14 #[.slice A n c] w fun e w' => e = .returned (.int .u16 ((crc16 l).toNat : Int)) ∧ w = w' := by
  subst hn
  go_enter Try.func14, Try.ntmps14
  go_wp2_with fail
  go_loop [3, 9] (fun s i => ∃ k : Nat, k ≤ l.length ∧ i = .int .i64 k ∧ s = .int .u16 ((run16 0#16 (bv (l.take k))).toNat : Int)) (fun _ i => l.length - (intOf i).toNat)
  case atStart => exact ⟨0, Nat.zero_le _, rfl, rfl⟩
  case round =>
    obtain ⟨k, hk, rfl, rfl⟩ := hrel
    by_cases hlt : k < l.length
    · obtain ⟨bb, oo, rfl, hc1⟩ := ha.at_ hlt
      obtain ⟨x0, x1⟩ := hf.ix_ hlt
      obtain ⟨S, hS⟩ : ∃ S, S = run16 0#16 (bv (l.take k)) := ⟨_, rfl⟩
      obtain ⟨U, hU⟩ : ∃ U, U = S ^^^ ((BitVec.ofInt 8 (ix l k)).setWidth 16 <<< 8) := ⟨_, rfl⟩
      have hx := xor16 S x0 x1
      rw [← hU] at hx
      rw [← hS]
      have HS := Lib.hid hS
      have HU := Lib.hid hU
      have b1 : (S.toNat : Int) ≤ 65535 := by have := S.isLt; omega
      clear hS hU
      go_wp2_with fail
      clear hx hc1
      go_loop [3, 18] (fun s j => ∃ m : Nat, m ≤ 8 ∧ j = .int .i64 m ∧ s = .int .u16 ((stpN 0x8005#16 m U).toNat : Int)) (fun _ j => 8 - (intOf j).toNat)
      case atStart => exact ⟨0, Nat.zero_le _, rfl, rfl⟩
      case round =>
        obtain ⟨m, hm8, rfl, rfl⟩ := hrel
        by_cases hlt2 : m < 8
        · obtain ⟨V, hV⟩ : ∃ V, V = stpN 0x8005#16 m U := ⟨_, rfl⟩
          rw [← hV]
          have HV := Lib.hid hV
          clear hV
          have b2 : (V.toNat : Int) ≤ 65535 := by have := V.isLt; omega
          have b3 : (0 : Int) ≤ (V.toNat : Int) := by omega
          by_cases hb : V.toNat / 32768 = 1
          · obtain ⟨X, hX⟩ : ∃ X, X = stp 0x8005#16 V := ⟨_, rfl⟩
            have hs := s16_hi V hb
            rw [← hX] at hs
            have ht : ((V.toNat : Int) / 32768 == 1) = true := by simp; omega
            have HX := Lib.hid hX
            clear hX hb
            go_wp2_with fail
            go_round
            case rel => exact ⟨m + 1, by omega, by go_num, by show _ = Value.int .u16 (((stp 0x8005#16 (stpN 0x8005#16 m U))).toNat : Int); rw [← HV.out, ← HX.out]⟩
            case measure => simp [intOf]; omega
          · obtain ⟨X, hX⟩ : ∃ X, X = stp 0x8005#16 V := ⟨_, rfl⟩
            have hs := s16_lo V hb
            rw [← hX] at hs
            have ht : ((V.toNat : Int) / 32768 == 1) = false := by simp; omega
            have HX := Lib.hid hX
            clear hX hb
            go_wp2_with fail
            go_round
            case rel => exact ⟨m + 1, by omega, by go_num, by show _ = Value.int .u16 (((stp 0x8005#16 (stpN 0x8005#16 m U))).toNat : Int); rw [← HV.out, ← HX.out]⟩
            case measure => simp [intOf]; omega
        · have e : m = 8 := by omega
          subst e
          go_wp2_with fail
          go_round
          case rel => exact ⟨k + 1, by omega, by go_num, by rw [bv_succ hlt, run16_snoc, ← HS.out, ← HU.out]⟩
          case measure => simp [intOf]; omega
    · have e : k = l.length := by omega
      subst e
      go_wp2_with fail
      go_ret
      exact ⟨rfl, rfl⟩

set_option maxHeartbeats 1000000 in
set_option maxRecDepth 100000 in
theorem sixteenR_any (l : List Int) (hf : Byt l) (n : Nat) (hn : n = l.length) (hm : n ≤ 140737488355328) (A : Option Addr) (b c : Nat) (w : World) (ha : Ints .u8 w b A l) :
    Calls Try.prog 15 #[.slice A n c] w fun e w' => e = .returned (.int .u16 ((crc16 l).toNat : Int)) ∧ w = w' := by
  subst hn
  go_enter Try.func15, Try.ntmps15
  go_wp2_with fail
  go_loop [3, 4] (fun s i => ∃ k : Nat, k ≤ l.length ∧ i = .int .i64 k ∧ s = .int .u16 ((run16 0#16 (bv (l.take k))).toNat : Int)) (fun _ i => l.length - (intOf i).toNat)
  case atStart => exact ⟨0, Nat.zero_le _, rfl, rfl⟩
  case round =>
    obtain ⟨k, hk, rfl, rfl⟩ := hrel
    by_cases hlt : k < l.length
    · obtain ⟨bb, oo, rfl, hc1⟩ := ha.at_ hlt
      obtain ⟨x0, x1⟩ := hf.ix_ hlt
      obtain ⟨S, hS⟩ : ∃ S, S = run16 0#16 (bv (l.take k)) := ⟨_, rfl⟩
      obtain ⟨U, hU⟩ : ∃ U, U = S ^^^ ((BitVec.ofInt 8 (ix l k)).setWidth 16 <<< 8) := ⟨_, rfl⟩
      have hx := xor16 S x0 x1
      rw [← hU] at hx
      rw [← hS]
      have HS := Lib.hid hS
      have HU := Lib.hid hU
      have b1 : (S.toNat : Int) ≤ 65535 := by have := S.isLt; omega
      clear hS hU
      go_wp2_with fail
      clear hx hc1
      go_loop [3, 5] (fun s j => ∃ m : Nat, m ≤ 8 ∧ j = .int .i64 m ∧ s = .int .u16 ((stpN 0x8005#16 m U).toNat : Int)) (fun _ j => 8 - (intOf j).toNat)
      case atStart => exact ⟨0, Nat.zero_le _, rfl, rfl⟩
      case round =>
        obtain ⟨m, hm8, rfl, rfl⟩ := hrel
        by_cases hlt2 : m < 8
        · obtain ⟨V, hV⟩ : ∃ V, V = stpN 0x8005#16 m U := ⟨_, rfl⟩
          rw [← hV]
          have HV := Lib.hid hV
          clear hV
          have b2 : (V.toNat : Int) ≤ 65535 := by have := V.isLt; omega
          have b3 : (0 : Int) ≤ (V.toNat : Int) := by omega
          by_cases hb : V.toNat / 32768 = 1
          · obtain ⟨X, hX⟩ : ∃ X, X = stp 0x8005#16 V := ⟨_, rfl⟩
            have hs := s16_hi V hb
            rw [← hX] at hs
            have ht : (32768 : Int) ≤ (V.toNat : Int) := by omega
            have HX := Lib.hid hX
            clear hX hb
            go_wp2_with fail
            go_round
            case rel => exact ⟨m + 1, by omega, by go_num, by show _ = Value.int .u16 (((stp 0x8005#16 (stpN 0x8005#16 m U))).toNat : Int); rw [← HV.out, ← HX.out]⟩
            case measure => simp [intOf]; omega
          · obtain ⟨X, hX⟩ : ∃ X, X = stp 0x8005#16 V := ⟨_, rfl⟩
            have hs := s16_lo V hb
            rw [← hX] at hs
            have ht : decide ((32768 : Int) ≤ (V.toNat : Int)) = false := decide_eq_false (by omega)
            have HX := Lib.hid hX
            clear hX hb
            go_wp2_with fail
            go_round
            case rel => exact ⟨m + 1, by omega, by go_num, by show _ = Value.int .u16 (((stp 0x8005#16 (stpN 0x8005#16 m U))).toNat : Int); rw [← HV.out, ← HX.out]⟩
            case measure => simp [intOf]; omega
        · have e : m = 8 := by omega
          subst e
          go_wp2_with fail
          go_round
          case rel => exact ⟨k + 1, by omega, by go_num, by rw [bv_succ hlt, run16_snoc, ← HS.out, ← HU.out]⟩
          case measure => simp [intOf]; omega
    · have e : k = l.length := by omega
      subst e
      go_wp2_with fail
      go_ret
      exact ⟨rfl, rfl⟩

set_option maxHeartbeats 1000000 in
set_option maxRecDepth 100000 in
theorem thirtyL_any (l : List Int) (hf : Byt l) (n : Nat) (hn : n = l.length) (hm : n ≤ 140737488355328) (A : Option Addr) (b c : Nat) (w : World) (ha : Ints .u8 w b A l) :
    Calls Try.prog 16 #[.slice A n c] w fun e w' => e = .returned (.int .u32 ((crc32 l).toNat : Int)) ∧ w = w' := by
  subst hn
  go_enter Try.func16, Try.ntmps16
  go_wp2_with fail
  go_loop [3, 9] (fun s i => ∃ k : Nat, k ≤ l.length ∧ i = .int .i64 k ∧ s = .int .u32 ((run32 0xffffffff#32 (bv (l.take k))).toNat : Int)) (fun _ i => l.length - (intOf i).toNat)
  case atStart => exact ⟨0, Nat.zero_le _, rfl, rfl⟩
  case round =>
    obtain ⟨k, hk, rfl, rfl⟩ := hrel
    by_cases hlt : k < l.length
    · obtain ⟨bb, oo, rfl, hc1⟩ := ha.at_ hlt
      obtain ⟨x0, x1⟩ := hf.ix_ hlt
      obtain ⟨S, hS⟩ : ∃ S, S = run32 0xffffffff#32 (bv (l.take k)) := ⟨_, rfl⟩
      obtain ⟨U, hU⟩ : ∃ U, U = S ^^^ (BitVec.ofInt 8 (ix l k)).setWidth 32 := ⟨_, rfl⟩
      have hx := xor32 S x0 x1
      rw [← hU] at hx
      rw [← hS]
      have HS := Lib.hid hS
      have HU := Lib.hid hU
      have b1 : (S.toNat : Int) ≤ 4294967295 := by have := S.isLt; omega
      clear hS hU
      go_wp2_with fail
      clear hx hc1
      go_loop [3, 17] (fun s j => ∃ m : Nat, m ≤ 8 ∧ j = .int .i64 m ∧ s = .int .u32 ((stpRN 0xedb88320#32 m U).toNat : Int)) (fun _ j => 8 - (intOf j).toNat)
      case atStart => exact ⟨0, Nat.zero_le _, rfl, rfl⟩
      case round =>
        obtain ⟨m, hm8, rfl, rfl⟩ := hrel
        by_cases hlt2 : m < 8
        · obtain ⟨V, hV⟩ : ∃ V, V = stpRN 0xedb88320#32 m U := ⟨_, rfl⟩
          rw [← hV]
          have HV := Lib.hid hV
          clear hV
          have b2 : (V.toNat : Int) ≤ 4294967295 := by have := V.isLt; omega
          have b3 : (0 : Int) ≤ (V.toNat : Int) := by omega
          by_cases hb : V.toNat % 2 = 1
          · obtain ⟨X, hX⟩ : ∃ X, X = stpR 0xedb88320#32 V := ⟨_, rfl⟩
            have hs := s32_hi V hb
            rw [← hX] at hs
            have ht := s32_and V
            rw [show V.toNat % 2 = 1 from by omega] at ht
            have HX := Lib.hid hX
            clear hX hb
            go_wp2_with fail
            go_round
            case rel => exact ⟨m + 1, by omega, by go_num, by show _ = Value.int .u32 (((stpR 0xedb88320#32 (stpRN 0xedb88320#32 m U))).toNat : Int); rw [← HV.out, ← HX.out]⟩
            case measure => simp [intOf]; omega
          · obtain ⟨X, hX⟩ : ∃ X, X = stpR 0xedb88320#32 V := ⟨_, rfl⟩
            have hs := s32_lo V hb
            rw [← hX] at hs
            have ht := s32_and V
            rw [show V.toNat % 2 = 0 from by omega] at ht
            have HX := Lib.hid hX
            clear hX hb
            go_wp2_with fail
            go_round
            case rel => exact ⟨m + 1, by omega, by go_num, by show _ = Value.int .u32 (((stpR 0xedb88320#32 (stpRN 0xedb88320#32 m U))).toNat : Int); rw [← HV.out, ← HX.out]⟩
            case measure => simp [intOf]; omega
        · have e : m = 8 := by omega
          subst e
          go_wp2_with fail
          go_round
          case rel => exact ⟨k + 1, by omega, by go_num, by rw [bv_succ hlt, run32_snoc, ← HS.out, ← HU.out]⟩
          case measure => simp [intOf]; omega
    · have e : k = l.length := by omega
      subst e
      go_wp2_with fail
      go_ret
      exact ⟨ret_int (not32 _), rfl⟩

set_option maxHeartbeats 1000000 in
set_option maxRecDepth 100000 in
theorem thirtyR_any (l : List Int) (hf : Byt l) (n : Nat) (hn : n = l.length) (hm : n ≤ 140737488355328) (A : Option Addr) (b c : Nat) (w : World) (ha : Ints .u8 w b A l) :
    Calls Try.prog 17 #[.slice A n c] w fun e w' => e = .returned (.int .u32 ((crc32 l).toNat : Int)) ∧ w = w' := by
  subst hn
  go_enter Try.func17, Try.ntmps17
  go_wp2_with fail
  go_loop [3, 4] (fun s i => ∃ k : Nat, k ≤ l.length ∧ i = .int .i64 k ∧ s = .int .u32 ((run32 0xffffffff#32 (bv (l.take k))).toNat : Int)) (fun _ i => l.length - (intOf i).toNat)
  case atStart => exact ⟨0, Nat.zero_le _, rfl, rfl⟩
  case round =>
    obtain ⟨k, hk, rfl, rfl⟩ := hrel
    by_cases hlt : k < l.length
    · obtain ⟨bb, oo, rfl, hc1⟩ := ha.at_ hlt
      obtain ⟨x0, x1⟩ := hf.ix_ hlt
      obtain ⟨S, hS⟩ : ∃ S, S = run32 0xffffffff#32 (bv (l.take k)) := ⟨_, rfl⟩
      obtain ⟨U, hU⟩ : ∃ U, U = S ^^^ (BitVec.ofInt 8 (ix l k)).setWidth 32 := ⟨_, rfl⟩
      have hx := xor32 S x0 x1
      rw [← hU] at hx
      rw [← hS]
      have HS := Lib.hid hS
      have HU := Lib.hid hU
      have b1 : (S.toNat : Int) ≤ 4294967295 := by have := S.isLt; omega
      clear hS hU
      go_wp2_with fail
      clear hx hc1
      go_loop [3, 5] (fun s j => ∃ m : Nat, m ≤ 8 ∧ j = .int .i64 m ∧ s = .int .u32 ((stpRN 0xedb88320#32 m U).toNat : Int)) (fun _ j => 8 - (intOf j).toNat)
      case atStart => exact ⟨0, Nat.zero_le _, rfl, rfl⟩
      case round =>
        obtain ⟨m, hm8, rfl, rfl⟩ := hrel
        by_cases hlt2 : m < 8
        · obtain ⟨V, hV⟩ : ∃ V, V = stpRN 0xedb88320#32 m U := ⟨_, rfl⟩
          rw [← hV]
          have HV := Lib.hid hV
          clear hV
          have b2 : (V.toNat : Int) ≤ 4294967295 := by have := V.isLt; omega
          have b3 : (0 : Int) ≤ (V.toNat : Int) := by omega
          by_cases hb : V.toNat % 2 = 1
          · obtain ⟨X, hX⟩ : ∃ X, X = stpR 0xedb88320#32 V := ⟨_, rfl⟩
            have hs := s32_hi V hb
            rw [← hX] at hs
            have ht := s32_and V
            rw [show V.toNat % 2 = 1 from by omega] at ht
            have HX := Lib.hid hX
            clear hX hb
            go_wp2_with fail
            go_round
            case rel => exact ⟨m + 1, by omega, by go_num, by show _ = Value.int .u32 (((stpR 0xedb88320#32 (stpRN 0xedb88320#32 m U))).toNat : Int); rw [← HV.out, ← HX.out]⟩
            case measure => simp [intOf]; omega
          · obtain ⟨X, hX⟩ : ∃ X, X = stpR 0xedb88320#32 V := ⟨_, rfl⟩
            have hs := s32_lo V hb
            rw [← hX] at hs
            have ht := s32_and V
            rw [show V.toNat % 2 = 0 from by omega] at ht
            have HX := Lib.hid hX
            clear hX hb
            go_wp2_with fail
            go_round
            case rel => exact ⟨m + 1, by omega, by go_num, by show _ = Value.int .u32 (((stpR 0xedb88320#32 (stpRN 0xedb88320#32 m U))).toNat : Int); rw [← HV.out, ← HX.out]⟩
            case measure => simp [intOf]; omega
        · have e : m = 8 := by omega
          subst e
          go_wp2_with fail
          go_round
          case rel => exact ⟨k + 1, by omega, by go_num, by rw [bv_succ hlt, run32_snoc, ← HS.out, ← HU.out]⟩
          case measure => simp [intOf]; omega
    · have e : k = l.length := by omega
      subst e
      go_wp2_with fail
      go_ret
      exact ⟨ret_int (not32 _), rfl⟩
end Go.Proofs.Ytfdkodcnbjmlbaa
