import Derived.Test.YthnimpkoidablaaGreatZR07
set_option linter.unusedVariables false
set_option linter.unusedSimpArgs false
namespace Go.Proofs.YthnimpkoidablaaGreat.Z
open Go.RowKit
theorem QI.first{P:Type}{n tc:Nat}{mk:P→Mk}{d:P}{ps:List P}{m:Nat→Int}{i:Nat}(H:QI n tc mk d ps m)(hi:i<n)(h:mk (ps.getD i d)= .e4)(hb:m (8+n+i)=0): ∀j,j<n→(mk (ps.getD j d)).turn=false:=by
 obtain⟨Q,H⟩:=H
 exact(H.X4g hi h (by rw[X5O hi];omega)).2
end Go.Proofs.YthnimpkoidablaaGreat.Z
