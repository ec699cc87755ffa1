import Derived.Test.YthnimpkoidablaaGreatZA09
set_option linter.unusedVariables false
set_option linter.unusedSimpArgs false
namespace Go.Proofs.YthnimpkoidablaaGreat.Z
open Go.RowKit
section
open Go
section
variable {P:Program}{ops:Array Oper}{Q:Exit→Act→World→Prop}{c:Nat}
theorem Q9m.wpOp{i:Nat}{o:Oper}{a:Act}{w:World}{K:Act→World→Prop}(hi:ops[i]? =some o)(h:Q9m P ops o K a w):wpOp P ops Q i K a w:=by
 unfold Go.wpOp
 simp only[hi]
 rcases h with⟨hw,hf⟩|⟨hw,hk⟩
 ·obtain⟨f,args,hv,hc⟩:=hf w (Touch.refl _ _)
  simp only[hw,if_true,Oper.wp,hv,Oper.upon]
  refine .inl (Calls.mono hc ?_)
  rintro e w' ⟨v,rfl,_,hk⟩
  exact hk
 ·simp only[hw,Bool.false_eq_true,if_false];exact hk
end
end
end Go.Proofs.YthnimpkoidablaaGreat.Z
