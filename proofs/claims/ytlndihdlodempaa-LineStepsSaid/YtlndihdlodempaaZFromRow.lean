/- cells.From of a row. -/
import Derived.Test.YtlndihdlodempaaZRef06
import Derived.Test.YtlndihdlodempaaZSame
import Derived.Test.YtlndihdlodempaaZFirst2
import Derived.Outline
set_option linter.unusedVariables false
set_option linter.unusedSimpArgs false
namespace Go.Proofs.Ytlndihdlodempaa.Z
open Go.RowKit

/-- What From makes of a row. -/
theorem from_row {w : World} {p : Option Addr} {g cap n : Nat} {L : List Int} (h : Row w p g L) (hn : L.length = n) :
    Calls Try.prog 12 #[.slice p n cap] w (NewMem w L) := from_ok w (h.rd' hn) h.words

end Go.Proofs.Ytlndihdlodempaa.Z
