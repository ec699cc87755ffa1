import Derived.Test.YthnimpkoidablaaGreatZX02
import Derived.Test.YthnimpkoidablaaGreatZB02
set_option linter.unusedVariables false
set_option linter.unusedSimpArgs false
set_option maxHeartbeats 1600000
namespace Go.Proofs.YthnimpkoidablaaGreat.Z
open Go.RowKit
def Q7R:TfP→Nat
 |.idle h=>if h=0 then 0 else if h=1 then 1 else 2
 |.r0=>3
 |.l0=>3
 |.q0 _ _=>3
 |.q1 _ _=>3
 |.q2 _ _=>3
 |.y0 _ _=>3
 |.y1 _ _=>3
 |.y2 _ _=>3
 |.z3 _ _=>3
 |.r1 _=>2
 |.r2 _=>2
 |.l1 _=>2
 |.v0=>2
 |.d0=>2
 |.q3 _ _=>2
 |.u0=>1
 |.v1=>1
 |_=>4
def Q7S:TfP→Nat
 |.idle h=>if h=0 then 0 else if h=1 then 1 else 2
 |.u0=>1
 |.v1=>1
 |_=>2
def Q7D(x0 x1 x2:Int):TfP→Nat
 |.idle h=>if h=0 then 0 else 1
 |.r1 a=>if x1=a then 2 else 5
 |.l1 a=>if x2=a then 2 else 5
 |.q0 _ _=>3
 |.q1 a _=>if x0=a then 2 else 5
 |.q2 a _=>if x0=a then 1 else 4
 |.y0 _ _=>3
 |.y1 a _=>if x0=a then 2 else 5
 |.y2 a _=>if x0=a then 1 else 4
 |.z0 _ _=>3
 |.z1 a _=>if x0=a then 2 else 5
 |.z2 a _=>if x0=a then 1 else 4
 |_=>1
theorem Y3a(base:Int)(n:Nat):tfK.Live n (tfI base n) 4 2 7 Q7R Q7S (fun m _ p=>Q7D (m 0) (m 1) (m 2) p):=by
 refine⟨fun p=>by cases p<;>simp[Q7R]<;>(repeat' split)<;>omega,fun p=>by cases p<;>simp[Q7S]<;>(repeat' split)<;>omega,by decide,fun m t p=>Q8R (by cases p<;>simp[Q7D]<;>split<;>omega),fun m t p c pr hw hpr=> ?_,fun m t p c pr hw hpr=> ?_,fun t p c pr v hw=> ?_,
  fun m t p w hw hop he=> ?_,fun b ps m t p hI hpl ht hpt hw hop he=> ?_,fun m t h hh=> ?_,fun m t=>rfl,fun m t p hw hz=> ?_,fun b ps m H hl hall=> ?_⟩
 ·cases p<;>simp[tfK,Q3s]at hw
  ·obtain⟨rfl,rfl⟩:=hw
   simp at hpr
   simp[tfK,Q6l,Q7D,hpr]
  ·obtain⟨rfl,rfl⟩:=hw
   simp at hpr
   simp[tfK,Q6l,Q7D,hpr]
 ·cases p<;>simp[tfK,Q3s]at hw
  ·obtain⟨rfl,rfl⟩:=hw
   simp at hpr
   simp[Q7D,hpr]
  ·obtain⟨rfl,rfl⟩:=hw
   simp at hpr
   simp[Q7D,hpr]
 ·cases p<;>simp[tfK,Q3s]at hw<;>simp[tfK,Q6l,Q7R,Q7S]
 ·have hact:tfK.act t p m=Q1R (m 0) (m 1) (m 2) p:=rfl
  rw[hact]at he⊢
  cases p<;>simp[tfK,Q3s]at hw<;>simp[tfK,Q2o,Q4d,Fr.zero]at hop
  case q2 a b=>by_cases hq:m 0=a<;>simp[Q1R,hq]at he<;>simp[Q1R,Q7R,Q7S,hq]
  case y2 a b=>by_cases hq:m 0=a<;>simp[Q1R,hq]at he<;>simp[Q1R,Q7R,Q7S,hq]
  case z2 a b=>by_cases hq:m 0=a<;>simp[Q1R,hq]at he<;>simp[Q1R,Q7R,Q7S,hq]
  all_goals first|(simp[Q1R]at he;done)|simp[Q1R,Q7R,Q7S]
 ·have hact:tfK.act t p m=Q1R (m 0) (m 1) (m 2) p:=rfl
  rw[hact]at he⊢
  show _∧_∧_∧Q7D (m 0) (m 1) (m 2) (Q1R (m 0) (m 1) (m 2) p).1+1≤Q7D (m 0) (m 1) (m 2) p
  obtain⟨h1,h2,U,R,W,T,H⟩:=hI
  have m0:=H.m0
  have m1:=H.m1
  have m2:=H.m2
  have lo:=H.lo
  have wr:=H.wr
  have ru:=H.ru
  have hhi:=H.hi
  have nd:=H.nd
  have d1:=Q0m (d:=tfK.idle 0) X1c (l:=ps) (i:=t) (by omega)
  rw[hpt]at d1
  clear hpt H hact
  cases p<;>simp[tfK,Q3s]at hw<;>simp[tfK,Q2o,Q4d,Fr.zero]at hop<;>simp only[tfD]at d1
  case q0 a b=>simp[Q1R,Q7R,Q7S,Q7D]
  case y0 a b=>simp[Q1R,Q7R,Q7S,Q7D]
  case z0 a b=>simp[Q1R,Q7R,Q7S,Q7D]
  case q1 a b=>
   by_cases hq:m 0=a
   ·have hah:Q1s a (m 1)=U-R:=by rw[←hq,m0,m1];exact Q6d (by omega)
    simp only[Q1R,hah]
    split
    ·simp[Q7R,Q7S,Q7D,hq]
    split
    ·omega
    ·simp[Q7R,Q7S,Q7D,hq]
   ·simp only[Q1R]
    (repeat' split)<;>simp[Q7R,Q7S,Q7D,hq]
  case y1 a b=>
   by_cases hq:m 0=a
   ·have hah:Q1s a (m 2)=U-W:=by rw[←hq,m0,m2];exact Q6d (by omega)
    simp only[Q1R,hah]
    split
    ·simp[Q7R,Q7S,Q7D,hq]
    split
    ·omega
    ·simp[Q7R,Q7S,Q7D,hq]
   ·simp only[Q1R]
    (repeat' split)<;>simp[Q7R,Q7S,Q7D,hq]
  case z1 a b=>
   by_cases hq:m 0=a
   ·have hah:Q1s a (m 2)=U-W:=by rw[←hq,m0,m2];exact Q6d (by omega)
    simp only[Q1R,hah]
    split
    ·simp[Q7R,Q7S,Q7D,hq]
    split
    ·omega
    ·simp[Q7R,Q7S,Q7D,hq]
   ·simp only[Q1R]
    (repeat' split)<;>simp[Q7R,Q7S,Q7D,hq]
  case q2 a b=>by_cases hq:m 0=a<;>simp[Q1R,hq]at he<;>simp[Q1R,Q7R,Q7S,Q7D,hq]
  case y2 a b=>by_cases hq:m 0=a<;>simp[Q1R,hq]at he<;>simp[Q1R,Q7R,Q7S,Q7D,hq]
  case z2 a b=>by_cases hq:m 0=a<;>simp[Q1R,hq]at he<;>simp[Q1R,Q7R,Q7S,Q7D,hq]
  all_goals(simp[Q1R]at he)
 ·rcases hh with rfl|rfl<;>simp[tfK,Q8k,Q7R,Q7S,Q7D]
 ·cases p<;>simp[tfK,Q3s]at hw<;>simp[Q7D]at hz
  ·subst hz;rfl
  all_goals(split at hz<;>simp at hz)
 ·obtain⟨h1,h2,U,R,W,T,H⟩:=H
  have hd0:ws tfD ps=0:=by
   refine Q5H (d:=tfK.idle 0) hl (fun i hi=> ?_)
   rcases hall i hi with h|⟨c,pr,hw,_⟩
   ·rw[h];rfl
   ·generalize ps.getD i (tfK.idle 0)=p at hw⊢
    cases p<;>simp[tfK,Q3s]at hw<;>rfl
  intro i hi
  rcases hall i hi with h|⟨c,pr,hw,hpr⟩
  ·exact h
  ·exfalso
   have hti:tfT (ps.getD i (tfK.idle 0))=1:=by
    generalize ps.getD i (tfK.idle 0)=p at hw⊢
    cases p<;>simp[tfK,Q3s]at hw<;>rfl
   have hr:=H.rng i hi hti
   obtain⟨j,hj,g2,g3⟩:=H.sur R (Int.le_refl _) (by omega)
   have haj:=H.at_ j hj
   have nd:=H.nd
   have m1:=H.m1
   have m2:=H.m2
   rcases hall j hj with h|⟨c,pr,hw,hpr⟩
   ·rw[h]at g2;revert g2;decide
   ·generalize ps.getD j (tfK.idle 0)=p at hw haj
    cases p<;>simp[tfK,Q3s]at hw<;>simp only[X0k]at haj
    ·obtain⟨rfl,rfl⟩:=hw
     simp at hpr
     exact hpr (by rw[m1,haj,g3])
    ·obtain⟨rfl,rfl⟩:=hw
     simp at hpr
     exact hpr (by rw[m2,haj,g3];congr 1;omega)
theorem X3q(base:Int)(n:Nat)(mode:Int):tfK.All n mode (tfI base n) 4 2 7 Q7R Q7S (fun m _ p=>Q7D (m 0) (m 1) (m 2) p):=by
 refine⟨Y3c n mode,Y0b base n,Y3a base n,fun b ps m i h H hi hl hp=> ?_,fun b ps m i j H hl hi hj hji hp=> ?_,fun t h=>rfl⟩
 ·obtain⟨h1,h2,U,R,W,T,H⟩:=H
  have:=H.at_ i hi
  rw[hp]at this
  have this:h=0∨h=1∨(h=2∧T i=R∧W=R):=this
  omega
 ·obtain⟨h1,h2,U,R,W,T,H⟩:=H
  have hai:=H.at_ i hi
  have haj:=H.at_ j hj
  have hin:=H.inj i j hi hj (fun h=>hji h.symm)
  have nd:=H.nd
  have d1:=Q0m (d:=tfK.idle 0) X1c (l:=ps) (i:=j) (by omega)
  rw[hp]at hai hin
  have hai:(2:Int)=0∨(2:Int)=1∨((2:Int)=2∧T i=R∧W=R):=hai
  have e2:tfT (tfK.idle 2)=1:=rfl
  have hin:=hin e2
  generalize ps.getD j (tfK.idle 0)=p at haj hin d1
  cases p<;>simp only[X0k,tfT,tfD]at haj hin d1<;>first|rfl|skip
  case idle h=>
   show h=0
   rcases haj with rfl|rfl|⟨rfl,h3,h4⟩
   ·rfl
   ·simp at d1;omega
   ·simp at hin;omega
  case d0=>have:=hin trivial;omega
  all_goals omega
end Go.Proofs.YthnimpkoidablaaGreat.Z
