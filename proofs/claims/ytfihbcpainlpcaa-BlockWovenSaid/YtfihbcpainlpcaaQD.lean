/-
  SameBlock of equal blocks.
-/
import Derived.Test.YtfihbcpainlpcaaProg
import Derived.Test.YtfihbcpainlpcaaQS
import Derived.Test.YtfihbcpainlpcaaQR
namespace Go.Proofs.Ytfihbcpainlpcaa
open Go.RowKit
set_option linter.unusedVariables false
set_option linter.unusedSimpArgs false

theorem sameBlock_any (bits : Int) (R : Nat → List Int) (r : Nat) (hr1 : r ≤ 1000) (hR : ∀ i, i < r → (R i).length ≤ 100000) (RA RA2 : Nat → Option Addr) (RC RC2 : Nat → Nat) (A A2 : Option Addr) (b b2 c c2 : Nat) (w : World) (hb : b ≤ w.heap.size) (hb2 : b2 ≤ w.heap.size) (h : Rw w b A r RA RC R) (h2 : Rw w b2 A2 r RA2 RC2 R) :
    Calls Try.prog 15 #[.agg #[.int .i64 bits, .slice A r c], .agg #[.int .i64 bits, .slice A2 r c2]] w fun e w' => e = .returned (.bool true) ∧ Below w.heap.size w w' := by
  have eb : (bits == bits) = true := by simp
  go_enter Try.func15, Try.ntmps15
  go_wp2_with fail
  have D0 := bal (bal (brefl w) (.cells #[.int .i64 bits, .slice A r c] 28)) (.cells #[.int .i64 bits, .slice A2 r c2] 28)
  (with_reducible refine (sameRows_any R r hr1 hR _ _ _ _ _ _ _ _ _ _ _ ((h.more hb).below D0) ((h2.more hb2).below D0)).mono ?_); rintro e w5 ⟨rfl, b5⟩
  have B5 := bth D0 b5
  go_wp2_with fail
  go_ret
  exact ⟨rfl, B5⟩

/-- a block and an error, behind the call. -/
theorem BlkQ.elim {x : BR} {w w' : World} {e : Ending} (h : BlkQ x w e w') : ∃ A c RA RC, e = .returned (.tuple #[.agg #[.int .i64 x.bits, .slice A x.r c], .int .i64 x.code]) ∧ Rw w' w'.heap.size A x.r RA RC x.R ∧ Below w.heap.size w w' := by
  obtain ⟨A, c, RA, RC, h1, h2, h3⟩ := h
  exact ⟨A, c, RA, RC, h1, h2.rw, h3⟩
/-- what bounds a block. -/
def BR.ok (x : BR) : Prop := x.r ≤ 1000 ∧ ∀ i, i < x.r → (x.R i).length ≤ 100000
theorem errB_ok (c : Int) : (errB c).ok := ⟨by simp [errB], fun i hi => by simp [errB] at hi⟩
theorem partB_ok {l : List Int} {rate ch bits : Int} (hl : l.length ≤ 60000) : (partB l rate ch bits).ok := by
  unfold partB
  split
  · rename_i h
    obtain ⟨_, _, h3, h4, _, _⟩ := rightB_true.1 h
    split
    · exact errB_ok _
    split
    · exact errB_ok _
    split
    · exact errB_ok _
    split
    · refine ⟨by show ch.toNat ≤ 1000; omega, fun i hi => ?_⟩
      show (partTo l ch.toNat l.length i).length ≤ 100000
      rw [partTo_len]
      have := cnt_le (ch := ch.toNat) (j := l.length) (i := i)
      omega
    · exact errB_ok _
  · exact errB_ok _
end Go.Proofs.Ytfihbcpainlpcaa
