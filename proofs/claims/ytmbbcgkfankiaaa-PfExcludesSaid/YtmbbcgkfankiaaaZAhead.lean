/- Package diff: how far a word is ahead. -/
import Derived.Test.YtmbbcgkfankiaaaZPlace
import Derived.Outline
set_option linter.unusedVariables false
set_option linter.unusedSimpArgs false
namespace Go.Proofs.Ytmbbcgkfankiaaa.Z
open Go.RowKit

/-- How far a word is ahead of another one. -/
def aheadA (a b : Int) : Int := (a - b + 2147483648) % 4294967296 - 2147483648

theorem ahead_any (a b : Int) (w : World) (ha : 0 ≤ a ∧ a < 4294967296) (hb : 0 ≤ b ∧ b < 4294967296) :
    Calls Try.prog 129 #[.int .u32 a, .int .u32 b] w fun e w' => e = .returned (.int .i64 (aheadA a b)) ∧ w = w' := by
  have H := Lib.hid (show wrap64 (wrap32 ((a - b) % 4294967296)) = aheadA a b from by unfold wrap64 wrap32 aheadA; omega)
  clear ha hb
  go_enter Try.func129, Try.ntmps129
  go_wp2
  go_ret
  refine ⟨?_, rfl⟩
  rw [← H.out]
  rfl

end Go.Proofs.Ytmbbcgkfankiaaa.Z
