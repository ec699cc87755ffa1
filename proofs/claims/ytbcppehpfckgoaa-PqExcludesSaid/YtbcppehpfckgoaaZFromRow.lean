/- cells.From of a row. -/
import Derived.Test.YtbcppehpfckgoaaZRef06
import Derived.Test.YtbcppehpfckgoaaZSame
import Derived.Test.YtbcppehpfckgoaaZFirst2
import Derived.Outline
set_option linter.unusedVariables false
set_option linter.unusedSimpArgs false
namespace Go.Proofs.Ytbcppehpfckgoaa.Z
open Go.RowKit

/-- What From makes of a row. -/
theorem from_row {w : World} {p : Option Addr} {g cap n : Nat} {L : List Int} (h : Row w p g L) (hn : L.length = n) :
    Calls Try.prog 13 #[.slice p n cap] w (NewMem w L) := from_ok w (h.rd' hn) h.words

end Go.Proofs.Ytbcppehpfckgoaa.Z
