/- Package line: a run stores, said of RunHas. -/
import Derived.Test.YtlndihdlodempaaZRun7
import Derived.Test.YtlndihdlodempaaZRun2t
set_option linter.unusedVariables false
set_option linter.unusedSimpArgs false
namespace Go.Proofs.Ytlndihdlodempaa.Z
open Go.RowKit

theorem rn_store {S0 : List Nat} {w0 w : World} {m a r : Nat} {rs : List Res} {s : Rn} (H : RunHas S0 w0 m a r rs s w) (c x : Int) (hx : 0 ≤ x ∧ x < 4294967296) :
    Calls Try.prog 47 #[.pointer (some ⟨r, 0, none⟩), .int .i64 c, .int .u32 x] w fun e w' => e = .returned (.tuple #[]) ∧ RunHas S0 w0 m a r rs (s.did (doA s.L ⟨2, c, x, 0, 0⟩)) w' := by
  obtain ⟨nv, H⟩ := H
  exact (run_store H c x hx).mono fun e w' h => ⟨h.1, nv, h.2⟩

end Go.Proofs.Ytlndihdlodempaa.Z
