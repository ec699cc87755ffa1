import Derived.Test.YthnimpkoidablaaGreatZX02
import Derived.Test.YthnimpkoidablaaGreatZB04
set_option linter.unusedVariables false
set_option linter.unusedSimpArgs false
namespace Go.Proofs.YthnimpkoidablaaGreat.Z
open Go.RowKit
def X3B:RfP→Nat
 |.idle h=>if h=0 then 0 else 1
 |.r0=>2| .r1 _=>1| .u0=>1| .v0=>1| .d0=>2
 |_=>2
def X3C:RfP→Nat
 |.idle h=>if h=0 then 0 else 1
 |.d0=>2
 |_=>1
def X0s(x:Int):RfP→Nat
 |.idle h=>if h=0 then 0 else 1
 |.r1 _=>if Q4U x then 5 else 2
 |.w0=>6
 |.w1 _=>if x=0 then 2 else 6
 |.w2 _=>if x=0 then 3 else 5
 |.tr0 _=>2| .tr1 a=>if x=a then 1 else 3
 |.tw0 _=>2| .tw1 _=>if x=0 then 1 else 3
 |.tu0 _=>2| .tu1 _=>if x=1 then 1 else 3
 |_=>1
theorem Y3w(n:Nat):rfK.Live n (rfI n) 2 2 8 X3B X3C (fun m _ p=>X0s (m 0) p):=by
 refine⟨fun p=>by cases p<;>simp[X3B]<;>split<;>omega,fun p=>by cases p<;>simp[X3C]<;>split<;>omega,by decide,fun m t p=>Q8R (by cases p<;>simp[X0s]<;>split<;>omega),fun m t p c pr hw hpr=> ?_,fun m t p c pr hw hpr=> ?_,fun t p c pr v hw=> ?_,
  fun m t p w hw hop he=> ?_,fun b ps m t p hI hpl ht hpt hw hop he=> ?_,fun m t h hh=> ?_,fun m t=>rfl,fun m t p hw hz=> ?_,fun b ps m H hl hall=> ?_⟩
 ·cases p<;>simp[rfK,Q3t]at hw
  ·obtain⟨rfl,rfl⟩:=hw
   have:Q4U (m 0)=false:=by simpa using hpr
   simp[rfK,Q6K,X0s,this]
  ·obtain⟨rfl,rfl⟩:=hw
   have:m 0=0:=by simpa using hpr
   simp[rfK,Q6K,X0s,this]
 ·cases p<;>simp[rfK,Q3t]at hw
  ·obtain⟨rfl,rfl⟩:=hw
   have:Q4U (m 0)=true:=by simpa using hpr
   simp[X0s,this]
  ·obtain⟨rfl,rfl⟩:=hw
   have: ¬m 0=0:=by simpa using hpr
   simp[X0s,this]
 ·cases p<;>simp[rfK,Q3t]at hw<;>simp[rfK,Q6K,X3B,X3C]
 ·have hact:rfK.act t p m=Q1G (m 0) p:=rfl
  rw[hact]at he⊢
  cases p<;>simp[rfK,Q3t]at hw<;>simp[rfK,Q2I,Fr.zero]at hop
  all_goals(simp only[Q1G]at he⊢;(try split at he);(try split);all_goals(try (simp at he;done));all_goals(try (exfalso;contradiction));all_goals(simp[X3B,X3C]);all_goals(try split);all_goals(try simp))
 ·have hact:rfK.act t p m=Q1G (m 0) p:=rfl
  rw[hact]at he⊢
  clear hI hpl ht hpt
  show _∧_∧_∧X0s (m 0) (Q1G (m 0) p).1+1≤X0s (m 0) p
  cases p<;>simp[rfK,Q3t]at hw<;>simp[rfK,Q2I,Fr.zero]at hop
  case w0=>by_cases hq:m 0=0<;>simp[Q1G,X3B,X3C,X0s,hq]
  case w1 a=>by_cases hq:m 0=0<;>simp[Q1G,hq]at he<;>simp[Q1G,X3B,X3C,X0s,hq]
  case tr0 a=>by_cases hq:Q4U (m 0)=true<;>simp[Q1G,X3B,X3C,X0s,hq]
  case tr1 a=>by_cases hq:m 0=a<;>simp[Q1G,hq]at he<;>simp[Q1G,X3B,X3C,X0s,hq]
  case tw0 a=>by_cases hq:m 0=0<;>simp[Q1G,X3B,X3C,X0s,hq]
  case tw1 a=>by_cases hq:m 0=0<;>simp[Q1G,hq]at he<;>simp[Q1G,X3B,X3C,X0s,hq]
  case tu0 a=>by_cases hq:m 0=1<;>simp[Q1G,X3B,X3C,X0s,hq]
  case tu1 a=>by_cases hq:m 0=1<;>simp[Q1G,hq]at he<;>simp[Q1G,X3B,X3C,X0s,hq]
  all_goals(simp[Q1G]at he)
 ·rcases hh with rfl|rfl<;>simp[rfK,Q8p,X3B,X3C,X0s]
 ·cases p<;>simp[rfK,Q3t]at hw<;>simp[X0s]at hz
  ·subst hz;rfl
  all_goals(split at hz<;>simp at hz)
 ·have hin:=X3D H
  obtain⟨h1,h2,h3,h4,h5,h6⟩:=H
  have hw0:ws rfW ps=0:=by
   refine Q5H (d:=rfK.idle 0) hl (fun i hi=> ?_)
   rcases hall i hi with h|⟨c,pr,hw,_⟩
   ·rw[h];rfl
   ·generalize ps.getD i (rfK.idle 0)=p at hw⊢
    cases p<;>simp[rfK,Q3t]at hw<;>rfl
  have hnr: ∀i,i<n→rfR (ps.getD i (rfK.idle 0))=0:=by
   intro i hi
   rcases hall i hi with h|⟨c,pr,hw,hpr⟩
   ·rw[h];rfl
   ·generalize ps.getD i (rfK.idle 0)=p at hw⊢
    cases p<;>simp[rfK,Q3t]at hw
    ·obtain⟨rfl,rfl⟩:=hw
     have:Q4U (m 0)=true:=by simpa using hpr
     rw[this,hw0]at hin
     cases hin
    ·rfl
  have hr0:ws rfR ps=0:=Q5H hl hnr
  intro i hi
  rcases hall i hi with h|⟨c,pr,hw,hpr⟩
  ·exact h
  ·exfalso
   generalize ps.getD i (rfK.idle 0)=p at hw
   cases p<;>simp[rfK,Q3t]at hw
   ·obtain⟨rfl,rfl⟩:=hw
    have:Q4U (m 0)=true:=by simpa using hpr
    rw[this,hw0]at hin
    cases hin
   ·obtain⟨rfl,rfl⟩:=hw
    have: ¬m 0=0:=by simpa using hpr
    omega
theorem X3A(n:Nat)(mode:Int):rfK.All n mode (rfI n) 2 2 8 X3B X3C (fun m _ p=>X0s (m 0) p):=by
 refine⟨Y3y n mode,Y0v n,Y3w n,fun b ps m i h H hi hl hp=> ?_,fun b ps m i j H hl hi hj hji hp=> ?_,fun t h=>rfl⟩
 ·have:=X7n H.2.2.2.2.2 hl hi
  rw[hp]at this
  exact this
 ·obtain⟨h1,h2,h3,h4,h5,h6⟩:=H
  have b1:=Q0m (d:=rfK.idle 0) Q7I (l:=ps) (i:=i) (by omega)
  have b2:=X3g (d:=rfK.idle 0) Q7I (l:=ps) (i:=i) (j:=j) (by omega) (by omega) (fun h=>hji h.symm)
  have b3:=Q0m (d:=rfK.idle 0) X7o (l:=ps) (i:=j) (by omega)
  have hh:=X7n h6 hl hj
  rw[hp]at b1 b2
  have hw2:rfW (rfK.idle 2)=1:=rfl
  rw[hw2]at b1 b2
  have hn0:=h5 (by omega)
  rw[hn0]at b3
  have c1:rfW (ps.getD j (rfK.idle 0))≤0:=by omega
  generalize ps.getD j (rfK.idle 0)=p at c1 b3 hh
  cases p<;>simp[rfW,rfN,X4I,rfK,Q2I]at*
  rcases hh with rfl|rfl|rfl<;>simp at*
end Go.Proofs.YthnimpkoidablaaGreat.Z
