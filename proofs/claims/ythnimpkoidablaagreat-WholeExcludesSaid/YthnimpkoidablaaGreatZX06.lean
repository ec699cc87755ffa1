import Derived.Test.YthnimpkoidablaaGreatZX02
import Derived.Test.YthnimpkoidablaaGreatZB08
set_option linter.unusedVariables false
set_option linter.unusedSimpArgs false
set_option maxHeartbeats 3200000
namespace Go.Proofs.YthnimpkoidablaaGreat.Z
open Go.RowKit
def Q6Y:FqP→Nat
 |.idle h=>if h=0 then 0 else 1
 |.r0=>7
 |.r1=>6
 |.r2=>5
 |.r3 _=>4
 |.r4 _=>3
 |.r5 _=>3
 |.q0 _=>5
 |.q1 _=>4
 |.q5 _=>3
 |.w0=>5
 |.w1=>4
 |.w2=>3
 |.w4 _=>1
 |.w5 _=>1
 |.v0=>1
 |.v1 _=>1
 |.v2 _=>1
 |.v3 _=>1
 |.t0 _=>3
 |.t2 _=>1
 |.t6 _=>1
 |.t7 _=>1
 |.t8 _=>1
 |.t9 _=>1
 |.x0 _=>4
 |.x1 _=>3
 |.u0=>1
 |.d0=>3
 |_=>2
def Q6Z:FqP→Nat
 |.idle h=>if h=0 then 0 else 1
 |.r0=>3
 |.r1=>3
 |.r2=>3
 |.r3 _=>3
 |.w4 _=>1
 |.w5 _=>1
 |.v0=>1
 |.v1 _=>1
 |.v2 _=>1
 |.v3 _=>1
 |.t0 _=>1
 |.t1 _=>1
 |.t2 _=>1
 |.t6 _=>1
 |.t7 _=>1
 |.t8 _=>1
 |.t9 _=>1
 |.u0=>1
 |_=>2
def fqG(n:Nat):Nat:=if n=1 then 4 else 7
def Q7L(n:Nat):FqP→Nat
 |.idle h=>if h=0 then 0 else if h=1 then 1 else fqG n
 |.r4 _=>5
 |.r6 _=>fqG n
 |.r7 _=>fqG n-1
 |.r8 _=>5
 |.q6 _=>fqG n
 |.q7 _=>fqG n-1
 |.q8 _=>5
 |.w4 _=>fqG n+2
 |.w5 _=>fqG n+1
 |.v0=>fqG n
 |.v1 _=>fqG n-1
 |.v2 _=>5
 |.t2 _=>fqG n+1
 |.t6 _=>fqG n
 |.t7 _=>fqG n-1
 |.t8 _=>5
 |.x1 _=>2
 |.x2 _=>fqG n+1
 |.x6 _=>fqG n
 |.x7 _=>fqG n-1
 |.x8 _=>5
 |.d1 _=>fqG n
 |.d2 _=>fqG n-1
 |.d3 _=>5
 |_=>1
theorem Y7d{n t c:Nat}{p:FqP}{pr:Int→Bool}(h:Q2M n t p=some (c,pr)):(c=8+t∧(pr=fun v=>v !=0)∧Q4v p= .g2)∨(c=8+n+t∧(pr=fun v=>v==0)∧Q4v p= .e4∧Q2A p=0)∨(c=1∧(pr=fun v=>v==0)∧Q4v p= .hd∧Q2A p=0):=by
 cases p<;>simp[Q2M]at h<;>obtain⟨rfl,rfl⟩:=h<;>simp[Q4v,Q2A]
theorem fqG_4(n:Nat):4≤fqG n:=by unfold fqG;split<;>omega
theorem Y4d(n:Nat):(fqK n).Live n (fqI n) 7 3 (fqG n+4) Q6Y Q6Z (fun _ _ p=>Q7L n p):=by
 have hg:=fqG_4 n
 refine⟨fun p=>by cases p<;>simp[Q6Y]<;>(repeat' split)<;>omega,fun p=>by cases p<;>simp[Q6Z]<;>(repeat' split)<;>omega,by omega,fun m t p=>Q8R (by cases p<;>simp[Q7L]<;>(repeat' split)<;>omega),fun m t p c pr hw hpr=> ?_,fun m t p c pr hw hpr=> ?_,fun t p c pr v hw=> ?_,
  fun m t p w hw hop he=> ?_,fun b ps m t p hI hpl ht hpt hw hop he=> ?_,fun m t h hh=> ?_,fun m t=>rfl,fun m t p hw hz=> ?_,fun b ps m H hl hall=> ?_⟩
 ·cases p<;>simp[fqK,Q2M]at hw<;>simp[fqK,Q2y,Q7L]
 ·cases p<;>simp[fqK,Q2M]at hw<;>simp[Q7L]<;>omega
 ·cases p<;>simp[fqK,Q2M]at hw<;>simp[fqK,Q2y,Q6Y,Q6Z]
 ·change(Q0U n t m p).2.1=some w at he
  change Q6Y (Q0U n t m p).1+1≤Q6Y p∧Q6Z (Q0U n t m p).1+(if(Q0U n t m p).2.2.isSome then 1 else 0)≤Q6Z p
  cases p<;>simp[fqK,Q2M]at hw<;>simp[fqK,Q0Z,Q2e,Fr.zero]at hop
  all_goals simp only[Q0U]at he⊢
  all_goals first|(cases he;done)|(simp[Q6Y,Q6Z];done)|(by_cases hq:m 0=0<;>simp[hq]at he<;>simp[Q6Y,Q6Z,hq];done)|(by_cases hq:m 0=(t:Int)+1<;>simp[hq]at he<;>simp[Q6Y,Q6Z,hq];done)
 ·change(Q0U n t m p).2.1=none at he
  show(Q0U n t m p).2.2=none∧Q6Y (Q0U n t m p).1≤Q6Y p∧Q6Z (Q0U n t m p).1≤Q6Z p∧Q7L n (Q0U n t m p).1+1≤Q7L n p
  have hal:=fun h=>fun e=>hI.2.2.2.1.alone (i:=t) e ht h
  change ps.getD t (.idle 0)=p at hpt
  rw[hpt]at hal
  clear hI hpl hpt
  cases p<;>simp[fqK,Q2M]at hw<;>simp[fqK,Q0Z,Q2e,Fr.zero]at hop
  case r0=>simp[Q0U]at he
  case r1=>simp[Q0U]at he
  case r2=>simp[Q0U]at he
  case r3 a=>simp[Q0U]at he
  case r5 a=>simp[Q0U]at he
  case r6 a=>by_cases hq:m (8+t)=0<;>simp[Q0U,Q6Y,Q6Z,Q7L,hq]<;>omega
  case r7 a=>
   have hal:=hal rfl
   by_cases hq:m 0=(t:Int)+1
   ·simp[Q0U,hq]at he
   ·have hn1:n≠1:=fun e=>hq (hal e)
    have hg7:fqG n=7:=by unfold fqG;rw[if_neg hn1]
    simp[Q0U,Q6Y,Q6Z,Q7L,hq,hg7]
  case r9 a=>simp[Q0U]at he
  case q0 a=>simp[Q0U]at he
  case q1 a=>by_cases hq:m 0=0<;>simp[Q0U,hq]at he<;>simp[Q0U,Q6Y,Q6Z,Q7L,hq]
  case q5 a=>simp[Q0U]at he
  case q6 a=>by_cases hq:m (8+t)=0<;>simp[Q0U,Q6Y,Q6Z,Q7L,hq]<;>omega
  case q7 a=>
   have hal:=hal rfl
   by_cases hq:m 0=(t:Int)+1
   ·simp[Q0U,hq]at he
   ·have hn1:n≠1:=fun e=>hq (hal e)
    have hg7:fqG n=7:=by unfold fqG;rw[if_neg hn1]
    simp[Q0U,Q6Y,Q6Z,Q7L,hq,hg7]
  case q9 a=>simp[Q0U]at he
  case w0=>simp[Q0U]at he
  case w1=>simp[Q0U]at he
  case w2=>simp[Q0U]at he
  case w3 a=>simp[Q0U]at he
  case v0=>by_cases hq:m (8+t)=0<;>simp[Q0U,Q6Y,Q6Z,Q7L,hq]<;>omega
  case v1 a=>
   have hal:=hal rfl
   by_cases hq:m 0=(t:Int)+1
   ·simp[Q0U,hq]at he
   ·have hn1:n≠1:=fun e=>hq (hal e)
    have hg7:fqG n=7:=by unfold fqG;rw[if_neg hn1]
    simp[Q0U,Q6Y,Q6Z,Q7L,hq,hg7]
  case v3 a=>simp[Q0U]at he
  case t0 a=>simp[Q0U]at he
  case t1 a=>by_cases hq:m 0=0<;>simp[Q0U,hq]at he<;>simp[Q0U,Q6Y,Q6Z,Q7L,hq]
  case t2 a=>by_cases hq:m 1=0<;>simp[Q0U,Q6Y,Q6Z,Q7L,hq]<;>omega
  case t6 a=>by_cases hq:m (8+t)=0<;>simp[Q0U,Q6Y,Q6Z,Q7L,hq]<;>omega
  case t7 a=>
   have hal:=hal rfl
   by_cases hq:m 0=(t:Int)+1
   ·simp[Q0U,hq]at he
   ·have hn1:n≠1:=fun e=>hq (hal e)
    have hg7:fqG n=7:=by unfold fqG;rw[if_neg hn1]
    simp[Q0U,Q6Y,Q6Z,Q7L,hq,hg7]
  case t9 a=>simp[Q0U]at he
  case x0 a=>simp[Q0U]at he
  case x1 a=>by_cases hq:m 0=0<;>simp[Q0U,hq]at he<;>simp[Q0U,Q6Y,Q6Z,Q7L,hq]
  case x2 a=>by_cases hq:m 1=1<;>simp[Q0U,Q6Y,Q6Z,Q7L,hq]<;>omega
  case x3 a=>simp[Q0U]at he
  case x6 a=>by_cases hq:m (8+t)=0<;>simp[Q0U,Q6Y,Q6Z,Q7L,hq]<;>omega
  case x7 a=>
   have hal:=hal rfl
   by_cases hq:m 0=(t:Int)+1
   ·simp[Q0U,hq]at he
   ·have hn1:n≠1:=fun e=>hq (hal e)
    have hg7:fqG n=7:=by unfold fqG;rw[if_neg hn1]
    simp[Q0U,Q6Y,Q6Z,Q7L,hq,hg7]
  case x9 a=>simp[Q0U]at he
  case u0=>simp[Q0U]at he
  case d0=>simp[Q0U]at he
  case d1 a=>by_cases hq:m (8+t)=0<;>simp[Q0U,Q6Y,Q6Z,Q7L,hq]<;>omega
  case d2 a=>
   have hal:=hal rfl
   by_cases hq:m 0=(t:Int)+1
   ·simp[Q0U,hq]at he
   ·have hn1:n≠1:=fun e=>hq (hal e)
    have hg7:fqG n=7:=by unfold fqG;rw[if_neg hn1]
    simp[Q0U,Q6Y,Q6Z,Q7L,hq,hg7]
  case d4 a=>simp[Q0U]at he
 ·rcases hh with rfl|rfl<;>simp[fqK,Q4V,Q6Y,Q6Z,Q7L]
 ·cases p<;>simp[fqK,Q2M]at hw<;>simp[Q7L]at hz
  case idle h=>
   rcases Decidable.em (h=0)with h0|h0
   ·subst h0;rfl
   ·have hz:=hz h0
    split at hz
    ·cases hz
    ·omega
  all_goals omega
 ·obtain⟨h1,h2,_,HQ,hR,ha⟩:=H
  have hk: ∀i,i<n→ps.getD i (.idle 0)= .idle 0∨(Q4v (ps.getD i (.idle 0))= .g2∧m (8+i)=0)∨(Q4v (ps.getD i (.idle 0))= .e4∧Q2A (ps.getD i (.idle 0))=0∧m (8+n+i)≠0)∨(Q4v (ps.getD i (.idle 0))= .hd∧Q2A (ps.getD i (.idle 0))=0∧m 1≠0):=fun i hi=>by
   rcases hall i hi with h|⟨c,pr,hw,hpr⟩
   ·exact Or.inl h
   ·right
    rcases Y7d hw with⟨rfl,rfl,h⟩|⟨rfl,rfl,h,h3⟩|⟨rfl,rfl,h,h3⟩
    ·exact Or.inl ⟨h,by simpa using hpr⟩
    ·exact Or.inr (Or.inl ⟨h,h3,by simpa using hpr⟩)
    ·exact Or.inr (Or.inr ⟨h,h3,by simpa using hpr⟩)
  have e0:Q4v (.idle 0)= .out:=rfl
  rcases HQ.free (fun j hj=>by
   rcases hk j hj with h|⟨h,h3⟩|⟨h,_,h3⟩|⟨h,_⟩
   ·rw[h,e0];exact Or.inl rfl
   ·exact Or.inr (Or.inr (Or.inr ⟨h,h3⟩))
   ·exact Or.inr (Or.inr (Or.inl ⟨h,h3⟩))
   ·exact Or.inr (Or.inl h))with hf|⟨t,ht,hf⟩
  ·intro i hi
   have:=hf i hi
   rcases hk i hi with h|⟨h,h3⟩|⟨h,_,h3⟩|⟨h,_⟩
   ·exact h
   all_goals(rw[h]at this;cases this)
  ·exfalso
   have hz:ws Q2A ps=0:=Q5H (d:=FqP.idle 0) hl (fun j hj=>by
    rcases hk j hj with h|⟨h,h3⟩|⟨_,h,_⟩|⟨_,h,_⟩
    ·rw[h];rfl
    ·exfalso
     have:=HQ.one ht hj (by rw[hf];rfl) (by rw[h];rfl)
     subst this
     rw[h]at hf
     cases hf
    ·exact h
    ·exact h)
   rcases hk t ht with h|⟨h,h3⟩|⟨h,_,h3⟩|⟨h,_,h3⟩
   ·rw[h,e0]at hf;cases hf
   ·rw[h]at hf;cases hf
   ·rw[h]at hf;cases hf
   ·omega
theorem X4e(n:Nat)(mode:Int)(h1:1≤n)(h2:n≤64):(fqK n).All n mode (fqI n) 7 3 (fqG n+4) Q6Y Q6Z (fun _ _ p=>Q7L n p):=by
 refine⟨Y4g n mode h1 h2,Y4e n,Y4d n,fun b ps m i h H hi hl hp=> ?_,fun b ps m i j H hl hi hj hji hp=> ?_,fun t h=>rfl⟩
 ·have hai:=H.2.2.2.2.2 i hi
  change ps.getD i (.idle 0)= .idle h at hp
  rw[hp]at hai
  have hai:h=0∨h=1∨(h=2∧m 1=0):=hai
  omega
 ·obtain⟨_,_,_,HQ,hR,ha⟩:=H
  have hai:=ha i hi
  have haj:=ha j hj
  have hone:=HQ.one (i:=i) (j:=j) hi hj
  have d1:=Q0m (d:=FqP.idle 0) Q8L (l:=ps) (i:=j) (by omega)
  rw[←hR]at d1
  change ps.getD i (.idle 0)= .idle 2 at hp
  rw[hp]at hai hone
  have hai:(2:Int)=0∨(2:Int)=1∨((2:Int)=2∧m 1=0):=hai
  have hone:=hone rfl
  show(Q0Z (ps.getD j (.idle 0))).2=0
  generalize ps.getD j (.idle 0)=p at haj hone d1
  cases p<;>simp only[X9I,Q2A]at haj d1<;>first|rfl|skip
  case idle h=>
   show h=0
   rcases haj with rfl|rfl|⟨rfl,h4⟩
   ·rfl
   ·simp at d1;omega
   ·exact absurd (hone rfl).symm hji
  all_goals first|omega|(exact absurd (hone rfl).symm hji)
end Go.Proofs.YthnimpkoidablaaGreat.Z
