/- Package line: a run stores and swaps. -/
import Derived.Test.YtlndihdlodempaaZRun2
set_option linter.unusedVariables false
set_option linter.unusedSimpArgs false
namespace Go.Proofs.Ytlndihdlodempaa.Z
open Go.RowKit

set_option maxRecDepth 100000 in
theorem run_store {S0 : List Nat} {w0 w : World} {m a r : Nat} {nv : Value} {rs : List Res} {s : Rn} (H : Has S0 w0 w (.mem m a s.L :: .blk r (rcells m s nv) :: rs)) (c x : Int) (hx : 0 ≤ x ∧ x < 4294967296) :
    Calls Try.prog 47 #[.pointer (some ⟨r, 0, none⟩), .int .i64 c, .int .u32 x] w fun e w' => e = .returned (.tuple #[]) ∧ Has S0 w0 w' (.mem m a (s.did (doA s.L ⟨2, c, x, 0, 0⟩)).L :: .blk r (rcells m (s.did (doA s.L ⟨2, c, x, 0, 0⟩)) nv) :: rs) := by
  have hd := fun W (H : Has S0 w0 W (.mem m a s.L :: .blk r (rcells m s nv) :: rs)) => run_do H ⟨2, c, x, 0, 0⟩ hx (by simp)
  generalize doA s.L ⟨2, c, x, 0, 0⟩ = R at hd ⊢
  obtain ⟨⟨rk, rc, rx, ry, ro⟩, rok, L2⟩ := R
  simp only [Acc.cells] at hd ⊢
  have hf := fieldOld rk rc rx ry ro
  go_enter Try.func47, Try.ntmps47
  go_wp2_with (go_at_call 122; refine (hd _ H).mono ?_; rintro e w1 ⟨rfl, H1⟩)
  go_end0
  exact ⟨rfl, H1⟩

set_option maxRecDepth 100000 in
theorem run_store_nil (w : World) (c x : Int) (hx : 0 ≤ x ∧ x < 4294967296) :
    Calls Try.prog 47 #[.pointer none, .int .i64 c, .int .u32 x] w fun e w' => e = .returned (.tuple #[]) ∧ Touch [] w w' := by
  have hd := fun W => run_do_nil W ⟨2, c, x, 0, 0⟩
  simp only [Acc.cells, Acc.zero] at hd
  have hf := fieldOld 0 0 0 0 0
  go_enter Try.func47, Try.ntmps47
  go_wp2_with (go_at_call 122; refine (hd _).mono ?_; rintro e w1 ⟨rfl, t1⟩)
  go_end0
  exact ⟨rfl, t1⟩

end Go.Proofs.Ytlndihdlodempaa.Z
