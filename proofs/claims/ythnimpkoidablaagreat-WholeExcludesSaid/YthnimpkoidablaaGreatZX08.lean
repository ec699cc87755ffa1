import Derived.Test.YthnimpkoidablaaGreatZX02
import Derived.Test.YthnimpkoidablaaGreatZB05
set_option linter.unusedVariables false
set_option linter.unusedSimpArgs false
set_option maxHeartbeats 1600000
namespace Go.Proofs.YthnimpkoidablaaGreat.Z
open Go.RowKit
def Q9c:WfP→Nat
 |.idle h=>if h=0 then 0 else 1
 |.u0=>1
 |.l1 _=>1
 |.v0=>1
 |.v1 _=>1
 |_=>2
def Q9d:WfP→Nat
 |.idle h=>if h=0 then 0 else 1
 |.d0=>2
 |.d1 _=>2
 |_=>1
def Q8Z(x:Int):WfP→Nat
 |.idle h=>if h=0 then 0 else if h=1 then 1 else 2
 |.r0=>6| .r3 _=>6
 |.r1 a=>if x=a then 1 else 7
 |.r2 _=>if Q1B x then 2 else 5
 |.l1 a=>if wfT x==wfG a &&wfR x==0 then 3 else 5
 |.v0=>2| .d0=>2
 |.q0 _=>2| .y0 _=>2| .z0 _=>2
 |.q1 a=>if x=a then 1 else 3
 |.y1 a=>if x=a then 1 else 3
 |.z1 a=>if x=a then 1 else 3
 |_=>1
theorem Y2P(n:Nat):wfK.Live n (wfI n) 2 2 9 Q9c Q9d (fun m _ p=>Q8Z (m 0) p):=by
 refine⟨fun p=>by cases p<;>simp[Q9c]<;>(repeat' split)<;>omega,fun p=>by cases p<;>simp[Q9d]<;>(repeat' split)<;>omega,by decide,fun m t p=>Q8R (by cases p<;>simp[Q8Z]<;>(repeat' split)<;>omega),fun m t p c pr hw hpr=> ?_,fun m t p c pr hw hpr=> ?_,fun t p c pr v hw=> ?_,
  fun m t p w hw hop he=> ?_,fun b ps m t p hI hpl ht hpt hw hop he=> ?_,fun m t h hh=> ?_,fun m t=>rfl,fun m t p hw hz=> ?_,fun b ps m H hl hall=> ?_⟩
 ·cases p<;>simp[wfK,Q3r]at hw
  ·obtain⟨rfl,rfl⟩:=hw
   simp[wfK,Q6j,Q8Z,hpr]
  ·obtain⟨rfl,rfl⟩:=hw
   simp only[wfK,Q6j,Q8Z,hpr]
   decide
 ·cases p<;>simp[wfK,Q3r]at hw
  ·obtain⟨rfl,rfl⟩:=hw
   simp[Q8Z,hpr]
  ·obtain⟨rfl,rfl⟩:=hw
   simp only[Q8Z,hpr]
   decide
 ·cases p<;>simp[wfK,Q3r]at hw<;>simp[wfK,Q6j,Q9c,Q9d]
 ·have hact:wfK.act t p m=Q1O (m 0) p:=rfl
  rw[hact]at he⊢
  cases p<;>simp[wfK,Q3r]at hw<;>simp[wfK,Q2B,Q4z,Fr.zero]at hop
  case r1 a=>by_cases hq:m 0=a<;>simp[Q1O,hq]at he<;>simp[Q1O,Q9c,Q9d,hq]
  case q1 a=>by_cases hq:m 0=a<;>simp[Q1O,hq]at he<;>simp[Q1O,Q9c,Q9d,hq]
  case y1 a=>by_cases hq:m 0=a<;>simp[Q1O,hq]at he<;>simp[Q1O,Q9c,Q9d,hq]
  case z1 a=>by_cases hq:m 0=a<;>simp[Q1O,hq]at he<;>simp[Q1O,Q9c,Q9d,hq]
  all_goals first|(simp[Q1O]at he;done)|simp[Q1O,Q9c,Q9d]
 ·have hact:wfK.act t p m=Q1O (m 0) p:=rfl
  rw[hact]at he⊢
  show _∧_∧_∧Q8Z (m 0) (Q1O (m 0) p).1+1≤Q8Z (m 0) p
  clear hact hpt hI
  cases p<;>simp[wfK,Q3r]at hw<;>simp[wfK,Q2B,Q4z,Fr.zero]at hop
  case r0=>by_cases hq:Q1B (m 0)=true<;>simp[Q1O,Q9c,Q9d,Q8Z,hq]
  case r3 a=>by_cases hq:Q1B (m 0)=true<;>simp[Q1O,Q9c,Q9d,Q8Z,hq]
  case v0=>simp[Q1O,Q9c,Q9d,Q8Z]
  case d0=>simp[Q1O,Q9c,Q9d,Q8Z]
  case q0 a=>by_cases hq:Q1B (m 0)=true<;>simp[Q1O,Q9c,Q9d,Q8Z,hq]
  case y0 a=>simp only[Q1O];split<;>simp[Q9c,Q9d,Q8Z]
  case z0 a=>simp only[Q1O];split<;>simp[Q9c,Q9d,Q8Z]
  case r1 a=>by_cases hq:m 0=a<;>simp[Q1O,hq]at he<;>simp[Q1O,Q9c,Q9d,Q8Z,hq]
  case q1 a=>by_cases hq:m 0=a<;>simp[Q1O,hq]at he<;>simp[Q1O,Q9c,Q9d,Q8Z,hq]
  case y1 a=>by_cases hq:m 0=a<;>simp[Q1O,hq]at he<;>simp[Q1O,Q9c,Q9d,Q8Z,hq]
  case z1 a=>by_cases hq:m 0=a<;>simp[Q1O,hq]at he<;>simp[Q1O,Q9c,Q9d,Q8Z,hq]
  all_goals(simp[Q1O]at he)
 ·rcases hh with rfl|rfl<;>simp[wfK,Q8g,Q9c,Q9d,Q8Z]
 ·cases p<;>simp[wfK,Q3r]at hw<;>simp[Q8Z]at hz
  case idle h=>
   rcases Decidable.em (h=0)with h0|h0
   ·subst h0;rfl
   ·have hz:=hz h0
    split at hz<;>simp at hz
  all_goals(split at hz<;>simp at hz)
 ·obtain⟨h1,h2,R,U,G,T,H⟩:=H
  obtain⟨f1,f2,f3,f4⟩:=H.few h1 h2
  have hd0:ws Q5m ps=0:=by
   refine Q5H (d:=wfK.idle 0) hl (fun i hi=> ?_)
   rcases hall i hi with h|⟨c,pr,hw,_⟩
   ·rw[h];rfl
   ·generalize ps.getD i (wfK.idle 0)=p at hw⊢
    cases p<;>simp[wfK,Q3r]at hw<;>rfl
  have hnr:=H.nr
  have hr:=H.r
  have ht:=H.t
  intro i hi
  rcases hall i hi with h|⟨c,pr,hw,hpr⟩
  ·exact h
  ·exfalso
   have hgu:U<G:=by
    have hug:=H.ug
    have hrg:=H.rng i hi
    generalize ps.getD i (wfK.idle 0)=p at hw hrg
    cases p<;>simp[wfK,Q3r]at hw
    ·obtain⟨rfl,rfl⟩:=hw
     rw[f4]at hpr
     have:G≠U:=by simpa using hpr
     omega
    ·have:=hrg rfl
     omega
   obtain⟨j,hj,g2,g3⟩:=H.sur U (Int.le_refl _) hgu
   have haj:=H.at_ j hj
   rcases hall j hj with h|⟨c,pr,hw,hpr⟩
   ·rw[h,show Q4J (wfK.idle 0)=0 from rfl]at g2;exact absurd g2 (by decide)
   ·generalize ps.getD j (wfK.idle 0)=p at hw haj g2
    cases p<;>simp[wfK,Q3r]at hw<;>simp only[X0M]at haj
    ·simp[Q4J]at g2
    ·obtain⟨rfl,rfl⟩:=hw
     simp at hpr
     exact hpr (by rw[ht,haj,g3]) (by omega)
theorem X3k(n:Nat)(mode:Int):wfK.All n mode (wfI n) 2 2 9 Q9c Q9d (fun m _ p=>Q8Z (m 0) p):=by
 refine⟨Y2S n mode,Y2Q n,Y2P n,fun b ps m i h H hi hl hp=> ?_,fun b ps m i j H hl hi hj hji hp=> ?_,fun t h=>rfl⟩
 ·obtain⟨h1,h2,R,U,G,T,H⟩:=H
  have:=H.at_ i hi
  rw[hp]at this
  have this:h=0∨h=1∨(h=2∧T i=U∧R=0):=this
  omega
 ·obtain⟨h1,h2,R,U,G,T,H⟩:=H
  have hai:=H.at_ i hi
  have haj:=H.at_ j hj
  have hin:=H.inj i j hi hj (fun h=>hji h.symm)
  have d1:=Q0m (d:=wfK.idle 0) X2e (l:=ps) (i:=j) (by omega)
  rw[←H.nr]at d1
  rw[hp]at hai hin
  have hai:(2:Int)=0∨(2:Int)=1∨((2:Int)=2∧T i=U∧R=0):=hai
  have e2:Q4J (wfK.idle 2)=1:=rfl
  have hin:=hin e2
  generalize ps.getD j (wfK.idle 0)=p at haj hin d1
  cases p<;>simp only[X0M,Q4J,Q5m]at haj hin d1<;>first|rfl|skip
  case idle h=>
   show h=0
   rcases haj with rfl|rfl|⟨rfl,h3,h4⟩
   ·rfl
   ·simp at d1;omega
   ·simp at hin;omega
  all_goals first|omega|(have:=hin trivial;omega)
end Go.Proofs.YthnimpkoidablaaGreat.Z
