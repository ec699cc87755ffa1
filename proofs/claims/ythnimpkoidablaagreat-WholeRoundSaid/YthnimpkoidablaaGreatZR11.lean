import Derived.Test.YthnimpkoidablaaGreatZR07
set_option linter.unusedVariables false
set_option linter.unusedSimpArgs false
namespace Go.Proofs.YthnimpkoidablaaGreat.Z
open Go.RowKit
def fr(op line a:Int):Fr:=⟨op,line,a,0,0,Wk.zero,0⟩
end Go.Proofs.YthnimpkoidablaaGreat.Z
