import Derived.Test.YthnimpkoidablaaGreatZA07
set_option linter.unusedVariables false
set_option linter.unusedSimpArgs false
namespace Go.Proofs.YthnimpkoidablaaGreat.Z
open Go.RowKit
section
open Go
section
variable {P:Program}{ops:Array Oper}{Q:Exit→Act→World→Prop}{c:Nat}
def Q9m(P:Program)(ops:Array Oper)(o:Oper)(K:Act→World→Prop)(a:Act)(w:World):Prop:=
 (Region.wanted o (yielded ops a.tmps)=true∧(∀W,Touch [] w W→ ∃f args,(execOp a.eval o).run P W= .ok (.enter f args) W∧Calls P f args W fun e w'=> ∃v,e= .returned v∧Touch [] W w'∧K (a.put o.dst v) w'))∨(Region.wanted o (yielded ops a.tmps)=false∧K (a.put o.dst undef) w)
theorem Q9m.mono{o:Oper}{a:Act}{w:World}{K K':Act→World→Prop}(h: ∀a w,K a w→K' a w)(hh:Q9m P ops o K a w):Q9m P ops o K' a w:=by
 rcases hh with⟨hw,hf⟩|⟨hw,hk⟩
 ·refine .inl ⟨hw,fun W t=> ?_⟩
  obtain⟨f,args,hv,hc⟩:=hf W t
  exact⟨f,args,hv,hc.mono fun e w' ⟨v,he,ht,hk⟩=>⟨v,he,ht,h _ _ hk⟩⟩
 ·exact .inr ⟨hw,h _ _ hk⟩
end
end
end Go.Proofs.YthnimpkoidablaaGreat.Z
