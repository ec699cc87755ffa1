/- What may be begun, and what one holds: no lock in sight. -/
import Derived.Test.YtlndihdlodempaaZBase
set_option linter.unusedVariables false
namespace Go.Proofs.Ytlndihdlodempaa.Z
/-- May this be begun by one that holds this? -/
def mayB (op hold : Int) : Bool := if hold = 0 then op == 1 || op == 3 || op == 5 || op == 6 else if hold = 1 then op == 2 || op == 7 else op == 4 || op == 8
def fromA (op hold : Int) : Int := if op = 2 ∨ op = 4 then 0 else if op = 8 then 1 else hold
def behindA (op ret hold : Int) : Int := if ret ≠ 2 then hold else if op = 1 ∨ op = 5 then 1 else if op = 3 ∨ op = 6 ∨ op = 7 then 2 else hold
end Go.Proofs.Ytlndihdlodempaa.Z
