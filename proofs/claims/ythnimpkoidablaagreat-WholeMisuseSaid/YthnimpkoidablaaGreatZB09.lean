/- 1 texts of this claim, joined: what Package world needs of them. -/
import Derived.Test.YthnimpkoidablaaGreatZB07
set_option linter.unusedVariables false
set_option linter.unusedSimpArgs false
namespace Go.Proofs.YthnimpkoidablaaGreat.Z
open Go
section
variable {P : Program} {ops : Array Oper} {Q : Exit → Act → World → Prop} {c : Nat}
def CallK (P : Program) (ops : Array Oper) (o : Oper) (K : Act → World → Prop) (a : Act) (w : World) : Prop :=
  (Region.wanted o (yielded ops a.tmps) = true ∧ (∀ W, Touch [] w W → ∃ f args, (execOp a.eval o).run P W = .ok (.enter f args) W ∧ Calls P f args W fun e w' => ∃ v, e = .returned v ∧ Touch [] W w' ∧ K (a.put o.dst v) w')) ∨ (Region.wanted o (yielded ops a.tmps) = false ∧ K (a.put o.dst undef) w)
theorem CallK.wpOp {i : Nat} {o : Oper} {a : Act} {w : World} {K : Act → World → Prop} (hi : ops[i]? = some o) (h : CallK P ops o K a w) : wpOp P ops Q i K a w := by
  unfold Go.wpOp
  simp only [hi]
  rcases h with ⟨hw, hf⟩ | ⟨hw, hk⟩
  · obtain ⟨f, args, hv, hc⟩ := hf w (Touch.refl _ _)
    simp only [hw, if_true, Oper.wp, hv, Oper.upon]
    refine .inl (Calls.mono hc ?_)
    rintro e w' ⟨v, rfl, _, hk⟩
    exact hk
  · simp only [hw, Bool.false_eq_true, if_false]; exact hk
theorem CallK.mono {o : Oper} {a : Act} {w : World} {K K' : Act → World → Prop} (h : ∀ a w, K a w → K' a w) (hh : CallK P ops o K a w) : CallK P ops o K' a w := by
  rcases hh with ⟨hw, hf⟩ | ⟨hw, hk⟩
  · refine .inl ⟨hw, fun W t => ?_⟩
    obtain ⟨f, args, hv, hc⟩ := hf W t
    exact ⟨f, args, hv, hc.mono fun e w' ⟨v, he, ht, hk⟩ => ⟨v, he, ht, h _ _ hk⟩⟩
  · exact .inr ⟨hw, h _ _ hk⟩
end
end Go.Proofs.YthnimpkoidablaaGreat.Z
