import Derived.Test.YthnimpkoidablaaGreatZX02
import Derived.Test.YthnimpkoidablaaGreatZB07
set_option linter.unusedVariables false
set_option linter.unusedSimpArgs false
set_option maxHeartbeats 6400000
namespace Go.Proofs.YthnimpkoidablaaGreat.Z
open Go.RowKit
def Q5L:PqP→Nat
 |.idle h=>if h=0 then 0 else if h=1 then 1 else 3
 |.r0=>2
 |.q0 _=>2
 |.q1 _=>2
 |.w0=>8
 |.w1=>7
 |.w2=>6
 |.w3 _=>5
 |.w4 _=>4
 |.w5 _=>4
 |.w6 _ _=>4
 |.w7 _ _=>3
 |.v0=>3
 |.v1 _=>3
 |.v2 _=>2
 |.d0=>4
 |.d1 _=>4
 |.d2 _=>3
 |.d3 _=>2
 |.d4 _ _=>2
 |.d5 _ _=>2
 |.d6 _ _=>2
 |.y0=>6
 |.y1=>5
 |.y2=>4
 |.y3 _=>4
 |.y4 _ _=>4
 |.y5 _ _=>4
 |.y6 _ _=>3
 |.z0=>7
 |.z1=>6
 |.z2=>5
 |.z3 _=>5
 |.z4 _ _=>5
 |.z5 _ _=>5
 |.z6 _ _=>4
 |.z7 _ _=>4
 |.z8 _ _=>2
 |.z9 _ _=>2
 |.z10 _ _=>2
 |.z11 _ _=>2
 |_=>1
def Q5M:PqP→Nat
 |.idle h=>if h=0 then 0 else if h=1 then 1 else 2
 |.r0=>1
 |.r1 _=>1
 |.u0=>1
 |.q0 _=>1
 |.q1 _=>1
 |.w0=>3
 |.w1=>3
 |.w2=>3
 |.w3 _=>3
 |.v2 _=>1
 |.v3 _=>1
 |.v4 _ _=>1
 |.v5 _ _=>1
 |.v6 _ _=>1
 |.d0=>3
 |.d1 _=>3
 |.y8 _ _=>1
 |.y9 _ _=>1
 |.y10 _ _=>1
 |.y11 _ _=>1
 |_=>2
def pqG(n:Nat):Nat:=if n=1 then 4 else 7
def Q6v(n:Nat)(m:Nat→Int):PqP→Nat
 |.idle h=>if h=0 then 0 else if h=1 then 1 else 2
 |.r1 a=>if m 0%4 !=a%4 then 2 else 5
 |.q0 _=>2
 |.q1 a=>if m 0=a then 1 else 3
 |.w4 _=>5
 |.w5 _=>2
 |.w7 a _=>if m 1=a then 3 else 5
 |.v0=>2
 |.v3 _=>pqG n
 |.v4 _ _=>pqG n-1
 |.v5 _ _=>5
 |.d0=>2
 |.d3 _=>pqG n
 |.d4 _ _=>pqG n-1
 |.d5 _ _=>5
 |.y2=>pqG n+2
 |.y3 _=>pqG n+1
 |.y4 _ _=>2
 |.y6 a _=>if m 1=a then 3 else 5
 |.y8 _ _=>pqG n
 |.y9 _ _=>pqG n-1
 |.y10 _ _=>5
 |.z1=>2
 |.z2=>pqG n+2
 |.z3 _=>pqG n+1
 |.z4 _ _=>2
 |.z6 a _=>if m 1=(a-256)%4294967296 then 2 else 5
 |.z8 _ _=>pqG n
 |.z9 _ _=>pqG n-1
 |.z10 _ _=>5
 |_=>1
theorem pqG_4(n:Nat):4≤pqG n:=by unfold pqG;split<;>omega
theorem Y6z{n t c:Nat}{p:PqP}{pr:Int→Bool}{m:Nat→Int}(h:Q2P n t p=some (c,pr))(hpr:pr (m c)=false):
 ((Q3Q p).inq=false∧(Q3Q p).turn=false∨Q3Q p= .hd∧(Q0D p).pd=true∨(Q3Q p= .e4∧m (8+n+t)≠0)∨(Q3Q p= .g2∧m (8+t)=0))∧
 ((Q0D p).inn=false∧(Q0D p).up=false∧(Q0D p).a2=false∧((Q0D p).rd=true→(Q0D p).pd=true∨Q3Q p= .g2)∧(∀w,(Q0D p).wt=some w→m 0%4=w)∧((Q0D p).pd=true→ ∃a,(Q0D p).sn=some a∧ ¬m 1=(if(Q0D p).rd then(a-256)%4294967296 else a)))∧
 ((Q3Q p).inq=true∨ ∃w,(Q0D p).wt=some w):=by
 cases p<;>simp[Q2P]at h<;>obtain⟨rfl,rfl⟩:=h<;>simp at hpr<;>simp[Q3Q,Q0D,Mk.inq,Mk.turn]<;>first|exact hpr|omega
theorem Y3L(n:Nat):(pqK n).Live n (pqI n) 8 3 (pqG n+3) Q5L Q5M (fun m _ p=>Q6v n m p):=by
 have hg:=pqG_4 n
 refine⟨fun p=>by cases p<;>simp[Q5L]<;>(repeat' split)<;>omega,fun p=>by cases p<;>simp[Q5M]<;>(repeat' split)<;>omega,by omega,fun m t p=>⟨by cases p<;>simp[Q6v]<;>(repeat' split)<;>omega,fun hw=>by cases p<;>simp[pqK,Q2P]at hw<;>simp[Q6v]<;>(repeat' split)<;>omega⟩,fun m t p c pr hw hpr=> ?_,fun m t p c pr hw hpr=> ?_,fun t p c pr v hw=> ?_,
  fun m t p w hw hop he=> ?_,fun b ps m t p hI hpl ht hpt hw hop he=> ?_,fun m t h hh=> ?_,fun m t=>rfl,fun m t p hw hz=> ?_,fun b ps m H hl hall=> ?_⟩
 ·cases p<;>simp[pqK,Q2P]at hw<;>obtain⟨rfl,rfl⟩:=hw<;>simp at hpr<;>simp[pqK,Q3b,Q6v,hpr]
 ·cases p<;>simp[pqK,Q2P]at hw<;>obtain⟨rfl,rfl⟩:=hw<;>simp at hpr<;>simp[Q6v,hpr]
 ·cases p<;>simp[pqK,Q2P]at hw<;>simp[pqK,Q3b,Q5L,Q5M]
 ·change(Q0F n t m p).2.1=some w at he
  change Q5L (Q0F n t m p).1+1≤Q5L p∧Q5M (Q0F n t m p).1+(if(Q0F n t m p).2.2.isSome then 1 else 0)≤Q5M p
  cases p<;>simp[pqK,Q2P]at hw<;>simp[pqK,Q0Y,Q1V,Fr.zero]at hop
  case r0=>simp only[Q0F];split<;>simp[Q5L,Q5M]
  all_goals simp only[Q0F]at he⊢
  all_goals first|(cases he;done)|(simp[Q5L,Q5M];done)|(by_cases hq:m 2=0<;>simp[hq]at he<;>simp[Q5L,Q5M,hq];done)|(by_cases hq:m 2=(t:Int)+1<;>simp[hq]at he<;>simp[Q5L,Q5M,hq];done)|(rename_i a;by_cases hq:m 0=a<;>simp[hq]at he<;>simp[Q5L,Q5M,hq];done)
 ·change(Q0F n t m p).2.1=none at he
  show(Q0F n t m p).2.2=none∧Q5L (Q0F n t m p).1≤Q5L p∧Q5M (Q0F n t m p).1≤Q5M p∧Q6v n m (Q0F n t m p).1+1≤Q6v n m p
  have hal:=fun h=>fun e=>hI.2.2.2.2.1.alone (i:=t) e ht h
  change ps.getD t (.idle 0)=p at hpt
  rw[hpt]at hal
  clear hI hpl hpt
  cases p<;>simp[pqK,Q2P]at hw<;>simp[pqK,Q0Y,Q1V,Fr.zero]at hop
  case r0=>simp[Q0F]at he
  case u0=>simp[Q0F]at he
  case q0 a=>by_cases hq:m 0%4=0<;>simp[Q0F,Q5L,Q5M,Q6v,hq]
  case q1 a=>by_cases hq:m 0=a<;>simp[Q0F,hq]at he<;>simp[Q0F,Q5L,Q5M,Q6v,hq]
  case w0=>simp[Q0F]at he
  case w1=>simp[Q0F]at he
  case w2=>simp[Q0F]at he
  case w3 a=>simp[Q0F]at he
  case w5 a=>simp[Q0F,Q5L,Q5M,Q6v]
  case w6 a b=>simp[Q0F]at he
  case v0=>simp[Q0F,Q5L,Q5M,Q6v]
  case v1 b=>simp[Q0F]at he
  case v2 b=>simp[Q0F]at he
  case v3 b=>by_cases hq:m (8+t)=0<;>simp[Q0F,Q5L,Q5M,Q6v,hq]<;>omega
  case v4 a b=>
   have hal:=hal rfl
   by_cases hq:m 2=(t:Int)+1
   ·simp[Q0F,hq]at he
   ·have hn1:n≠1:=fun e=>hq (hal e)
    have hg7:pqG n=7:=by unfold pqG;rw[if_neg hn1]
    simp[Q0F,Q5L,Q5M,Q6v,hq,hg7]
  case v6 a b=>simp[Q0F]at he
  case d0=>simp[Q0F,Q5L,Q5M,Q6v]
  case d1 b=>simp[Q0F]at he
  case d2 b=>simp[Q0F]at he
  case d3 b=>by_cases hq:m (8+t)=0<;>simp[Q0F,Q5L,Q5M,Q6v,hq]<;>omega
  case d4 a b=>
   have hal:=hal rfl
   by_cases hq:m 2=(t:Int)+1
   ·simp[Q0F,hq]at he
   ·have hn1:n≠1:=fun e=>hq (hal e)
    have hg7:pqG n=7:=by unfold pqG;rw[if_neg hn1]
    simp[Q0F,Q5L,Q5M,Q6v,hq,hg7]
  case d6 a b=>simp[Q0F]at he
  case y0=>simp[Q0F]at he
  case y1=>by_cases hq:m 2=0<;>simp[Q0F,hq]at he<;>simp[Q0F,Q5L,Q5M,Q6v,hq]
  case y2=>simp[Q0F,Q5L,Q5M,Q6v]
  case y3 a=>by_cases hq:0<Q1s a (m 1)<;>simp[Q0F,Q5L,Q5M,Q6v,hq]<;>omega
  case y4 a b=>simp[Q0F,Q5L,Q5M,Q6v]
  case y5 a b=>simp[Q0F]at he
  case y8 a b=>by_cases hq:m (8+t)=0<;>simp[Q0F,Q5L,Q5M,Q6v,hq]<;>omega
  case y9 a b=>
   have hal:=hal rfl
   by_cases hq:m 2=(t:Int)+1
   ·simp[Q0F,hq]at he
   ·have hn1:n≠1:=fun e=>hq (hal e)
    have hg7:pqG n=7:=by unfold pqG;rw[if_neg hn1]
    simp[Q0F,Q5L,Q5M,Q6v,hq,hg7]
  case y11 a b=>simp[Q0F]at he
  case z0=>simp[Q0F]at he
  case z1=>by_cases hq:m 2=0<;>simp[Q0F,hq]at he<;>simp[Q0F,Q5L,Q5M,Q6v,hq]
  case z2=>simp[Q0F,Q5L,Q5M,Q6v]
  case z3 a=>by_cases hq:256<Q1s a (m 1)<;>simp[Q0F,Q5L,Q5M,Q6v,hq]<;>omega
  case z4 a b=>simp[Q0F,Q5L,Q5M,Q6v]
  case z5 a b=>simp[Q0F]at he
  case z7 a b=>simp[Q0F]at he
  case z8 a b=>by_cases hq:m (8+t)=0<;>simp[Q0F,Q5L,Q5M,Q6v,hq]<;>omega
  case z9 a b=>
   have hal:=hal rfl
   by_cases hq:m 2=(t:Int)+1
   ·simp[Q0F,hq]at he
   ·have hn1:n≠1:=fun e=>hq (hal e)
    have hg7:pqG n=7:=by unfold pqG;rw[if_neg hn1]
    simp[Q0F,Q5L,Q5M,Q6v,hq,hg7]
  case z11 a b=>simp[Q0F]at he
 ·rcases hh with rfl|rfl<;>simp[pqK,Q5q,Q5L,Q5M,Q6v]
 ·cases p<;>simp[pqK,Q2P]at hw<;>simp[Q6v]at hz
  case idle h=>
   rcases Decidable.em (h=0)with h0|h0
   ·subst h0;rfl
   ·have hz:=hz h0
    split at hz<;>simp at hz
  all_goals first|omega|(split at hz<;>simp at hz)
 ·obtain⟨h1,h2,_,⟨Rin,Rout,HP⟩,HQ,h5⟩:=H
  have hk: ∀i,i<n→ps.getD i (.idle 0)= .idle 0∨(((Q3Q (ps.getD i (.idle 0))).inq=false∧(Q3Q (ps.getD i (.idle 0))).turn=false∨Q3Q (ps.getD i (.idle 0))= .hd∧(Q0D (ps.getD i (.idle 0))).pd=true∨(Q3Q (ps.getD i (.idle 0))= .e4∧m (8+n+i)≠0)∨(Q3Q (ps.getD i (.idle 0))= .g2∧m (8+i)=0))∧
   ((Q0D (ps.getD i (.idle 0))).inn=false∧(Q0D (ps.getD i (.idle 0))).up=false∧(Q0D (ps.getD i (.idle 0))).a2=false∧((Q0D (ps.getD i (.idle 0))).rd=true→(Q0D (ps.getD i (.idle 0))).pd=true∨Q3Q (ps.getD i (.idle 0))= .g2)∧(∀w,(Q0D (ps.getD i (.idle 0))).wt=some w→m 0%4=w)∧((Q0D (ps.getD i (.idle 0))).pd=true→ ∃a,(Q0D (ps.getD i (.idle 0))).sn=some a∧ ¬m 1=(if(Q0D (ps.getD i (.idle 0))).rd then(a-256)%4294967296 else a)))∧
   ((Q3Q (ps.getD i (.idle 0))).inq=true∨ ∃w,(Q0D (ps.getD i (.idle 0))).wt=some w)):=fun i hi=>by
   rcases hall i hi with h|⟨c,pr,hw,hpr⟩
   ·exact Or.inl h
   ·exact Or.inr (Y6z hw hpr)
  have e0:Q3Q (.idle 0)= .out:=rfl
  have hin: ∀j,j<n→(Q3Q (ps.getD j (.idle 0))).inq=false∨Q3Q (ps.getD j (.idle 0))= .hd∨(Q3Q (ps.getD j (.idle 0))= .e4∧m (8+n+j)≠0)∨(Q3Q (ps.getD j (.idle 0))= .g2∧m (8+j)=0):=fun j hj=>by
   rcases hk j hj with h|⟨⟨h,_⟩|⟨h,_⟩|h|h,_⟩
   ·rw[h,e0];exact Or.inl rfl
   ·exact Or.inl h
   ·exact Or.inr (Or.inl h)
   ·exact Or.inr (Or.inr (Or.inl h))
   ·exact Or.inr (Or.inr (Or.inr h))
  have hfr:=HQ.free hin
  have hfree:=HP.free (fun q hq=>by
   obtain⟨i,hi,rfl⟩:=List.getElem_of_mem hq
   have hil:i<n:=by simpa[hl]using hi
   have e:(ps.map Q0D)[i]=Q0D (ps.getD i (.idle 0)):=by simp[List.getD,show i<ps.length by omega]
   rw[e]
   rcases hk i hil with h|⟨_,⟨g1,g2,g3,g4,g5,g6⟩,_⟩
   ·rw[h];exact⟨rfl,rfl,rfl,(fun h=>by cases h),(fun w h=>by cases h),(fun h=>by cases h)⟩
   ·refine⟨g1,g2,g3,(fun h=> ?_),g5,g6⟩
    rcases g4 h with g|g
    ·exact g
    ·exfalso
     rcases hfr with hf|⟨t,ht,hf⟩
     ·have:=hf i hil
      rw[g]at this;cases this
     ·have:=HQ.one ht hil (by rw[hf];rfl) (by rw[g];rfl)
      subst this
      rw[hf]at g;cases g)
  have hwt: ∀i,i<n→(Q0D (ps.getD i (.idle 0))).wt=none∧(Q0D (ps.getD i (.idle 0))).pd=false:=fun i hi=>by
   rw[←Q3H (g:=Q0D) (e:=Ph.none) (by omega)]
   exact hfree _ (Q0k (by simpa using(show i<ps.length by omega)))
  intro i hi
  rcases hk i hi with h|⟨_,_,h⟩
  ·exact h
  ·exfalso
   rcases h with h|⟨w,h⟩
   ·rcases hfr with hf|⟨t,ht,hf⟩
    ·have:=hf i hi
     rw[h]at this;cases this
    ·rcases hk t ht with g|⟨⟨g,_⟩|⟨_,g⟩|⟨g,_⟩|⟨g,_⟩,_⟩
     ·rw[g,e0]at hf;cases hf
     ·rw[hf]at g;cases g
     ·have:=(hwt t ht).2
      rw[g]at this;cases this
     ·rw[hf]at g;cases g
     ·rw[hf]at g;cases g
   ·rw[(hwt i hi).1]at h
    cases h
theorem X3I(n:Nat)(mode:Int)(h1:1≤n)(h2:n≤64):(pqK n).All n mode (pqI n) 8 3 (pqG n+3) Q5L Q5M (fun m _ p=>Q6v n m p):=by
 refine⟨Y3O n mode h1 h2,Y3M n,Y3L n,fun b ps m i h H hi hl hp=> ?_,fun b ps m i j H hl hi hj hji hp=> ?_,fun t h=>rfl⟩
 ·have:=Y0N H.2.2.2.2.2 hl hi
  change ps.getD i (.idle 0)= .idle h at hp
  rw[hp]at this
  exact this
 ·obtain⟨h1,h2,_,⟨Rin,Rout,HP⟩,HQ,h5⟩:=H
  change ps.getD i (.idle 0)= .idle 2 at hp
  have hil:i<(ps.map Q0D).length:=by simpa using(show i<ps.length by omega)
  have hjl:j<(ps.map Q0D).length:=by simpa using(show j<ps.length by omega)
  have hqi:(ps.map Q0D).getD i Ph.none=Q0D (.idle 2):=by rw[Q3H (d:=PqP.idle 0) (by omega),hp]
  have hqj:(ps.map Q0D).getD j Ph.none=Q0D (ps.getD j (.idle 0)):=Q3H (by omega)
  have hal:=HP.alone hil hqi rfl hjl hji
  rw[hqj]at hal
  have o1:=Q0m (d:=Ph.none) Q2l hil
  rw[hqi]at o1
  have o1:1≤ws wIn (ps.map Q0D):=o1
  obtain⟨⟨s0,s1,s2,s3,s4,s5,s6,s7⟩,s8,s9⟩:=HP.sums
  have one:=HP.one
  have wr:=(HP.wr (by omega)).1
  have o5:=Q0m (d:=Ph.none) Q2X hjl
  rw[hqj,wr]at o5
  have hok:=Y0N h5 hl hj
  show(Q0Y (ps.getD j (.idle 0))).2=0
  generalize ps.getD j (.idle 0)=p at hal o5 hok
  cases p<;>first|rfl|(exfalso;simp[Q0D]at hal;done)|(exfalso;simp[Q0D,wRd]at o5;done)|skip
  case idle h=>
   show h=0
   have hok:h=0∨h=1∨h=2:=hok
   rcases hok with rfl|rfl|rfl
   ·rfl
   ·exfalso;simp[Q0D,wRd]at o5
   ·exfalso;simp[Q0D]at hal
end Go.Proofs.YthnimpkoidablaaGreat.Z
