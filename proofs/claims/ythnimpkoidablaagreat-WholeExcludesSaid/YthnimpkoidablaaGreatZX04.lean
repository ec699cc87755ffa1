import Derived.Test.YthnimpkoidablaaGreatZX02
import Derived.Test.YthnimpkoidablaaGreatZB06
set_option linter.unusedVariables false
set_option linter.unusedSimpArgs false
set_option maxHeartbeats 3200000
namespace Go.Proofs.YthnimpkoidablaaGreat.Z
open Go.RowKit
def Q8w:PfP→Nat
 |.idle h=>if h=0 then 0 else if h=1 then 1 else 3
 |.r1 _=>1
 |.u0=>1
 |.v3 _=>1
 |.y9 _ _=>1
 |.r0=>2
 |.q0 _=>2
 |.q1 _=>2
 |.v2 _=>2
 |.d3 _=>2
 |.z9 _ _=>2
 |.l4 _ _=>3
 |.v0=>3
 |.v1 _=>3
 |.d2 _=>3
 |.y7 _ _=>3
 |.l1 _=>4
 |.l2 _=>4
 |.l3 _ _=>4
 |.d0=>4
 |.d1 _=>4
 |.y3 _ _=>4
 |.y4 _ _=>4
 |.y5 _ _=>4
 |.y6 _ _=>4
 |.z7 _ _=>4
 |.z8 _ _=>4
 |.l0=>5
 |.y0 _ _=>5
 |.y1 _ _=>5
 |.y2 _ _=>5
 |.z3 _ _=>5
 |.z4 _ _=>5
 |.z5 _ _=>5
 |.z6 _ _=>5
 |_=>6
def Q8x:PfP→Nat
 |.idle h=>if h=0 then 0 else if h=1 then 1 else 2
 |.r0=>1
 |.r1 _=>1
 |.u0=>1
 |.q0 _=>1
 |.q1 _=>1
 |.v2 _=>1
 |.v3 _=>1
 |.y9 _ _=>1
 |.d0=>3
 |.d1 _=>3
 |_=>2
def Q9a(x0 x1 x2 x3:Int):PfP→Nat
 |.idle h=>if h=0 then 0 else if h=1 then 1 else 2
 |.r1 a=>if x0%4 !=a%4 then 2 else 5
 |.q0 _=>2
 |.q1 a=>if x0=a then 1 else 3
 |.l1 a=>if x3=a then 3 else 5
 |.l2 _=>2
 |.l4 a _=>if x1=a then 3 else 5
 |.v0=>2| .d0=>2
 |.y7 a _=>if x1=a then 3 else 5
 |.z7 a _=>if x1=(a-256)%4294967296 then 2 else 5
 |.y0 _ _=>3
 |.y1 a _=>if x2=a then 2 else 5
 |.y2 a _=>if x2=a then 1 else 4
 |.y3 _ _=>4| .y4 _ _=>3| .y5 _ _=>2
 |.z0 _ _=>3
 |.z1 a _=>if x2=a then 2 else 5
 |.z2 a _=>if x2=a then 1 else 4
 |.z3 _ _=>4| .z4 _ _=>3| .z5 _ _=>2
 |_=>1
theorem Y3Q(base:Int)(n:Nat):pfK.Live n (pfI base n) 6 3 7 Q8w Q8x (fun m _ p=>Q9a (m 0) (m 1) (m 2) (m 3) p):=by
 refine⟨fun p=>by cases p<;>simp[Q8w]<;>(repeat' split)<;>omega,fun p=>by cases p<;>simp[Q8x]<;>(repeat' split)<;>omega,by decide,fun m t p=>Q8R (by cases p<;>simp[Q9a]<;>(repeat' split)<;>omega),fun m t p c pr hw hpr=> ?_,fun m t p c pr hw hpr=> ?_,fun t p c pr v hw=> ?_,
  fun m t p w hw hop he=> ?_,fun b ps m t p hI hpl ht hpt hw hop he=> ?_,fun m t h hh=> ?_,fun m t=>rfl,fun m t p hw hz=> ?_,fun b ps m H hl hall=> ?_⟩
 ·cases p<;>simp[pfK,Q3I]at hw<;>obtain⟨rfl,rfl⟩:=hw<;>simp at hpr<;>simp[pfK,Q4E,Q9a,hpr]
 ·cases p<;>simp[pfK,Q3I]at hw<;>obtain⟨rfl,rfl⟩:=hw<;>simp at hpr<;>simp[Q9a,hpr]
 ·cases p<;>simp[pfK,Q3I]at hw<;>simp[pfK,Q4E,Q8w,Q8x]
 ·have hact:pfK.act t p m=Q1z (m 0) (m 1) (m 2) (m 3) (m 4) p:=rfl
  rw[hact]at he⊢
  cases p<;>simp[pfK,Q3I]at hw<;>simp[pfK,Q1v,Q2G,Fr.zero]at hop
  case r0=>simp only[Q1z];split<;>simp[Q8w,Q8x]
  case q1 a=>by_cases hq:m 0=a<;>simp[Q1z,hq]at he<;>simp[Q1z,Q8w,Q8x,hq]
  case y2 a b=>by_cases hq:m 2=a<;>simp[Q1z,hq]at he<;>simp[Q1z,Q8w,Q8x,hq]
  case z2 a b=>by_cases hq:m 2=a<;>simp[Q1z,hq]at he<;>simp[Q1z,Q8w,Q8x,hq]
  all_goals first|(simp[Q1z]at he;done)|simp[Q1z,Q8w,Q8x]
 ·have hact:pfK.act t p m=Q1z (m 0) (m 1) (m 2) (m 3) (m 4) p:=rfl
  rw[hact]at he⊢
  show _∧_∧_∧Q9a (m 0) (m 1) (m 2) (m 3) (Q1z (m 0) (m 1) (m 2) (m 3) (m 4) p).1+1≤Q9a (m 0) (m 1) (m 2) (m 3) p
  obtain⟨h1,h2,_,⟨Wi,Wo,T,HT⟩,_⟩:=hI
  have m2:=HT.m2
  have m3:=HT.m3
  have lo:=HT.lo
  have le:=HT.le
  have hhi:=HT.hi
  clear hact hpt HT
  cases p<;>simp[pfK,Q3I]at hw<;>simp[pfK,Q1v,Q2G,Fr.zero]at hop
  case q0 a=>by_cases hq:m 0%4=0<;>simp[Q1z,Q8w,Q8x,Q9a,hq]
  case q1 a=>by_cases hq:m 0=a<;>simp[Q1z,hq]at he<;>simp[Q1z,Q8w,Q8x,Q9a,hq]
  case y1 a b=>
   by_cases hq:m 2=a
   ·have hah:Q1s a (m 3)=Wi-Wo:=by rw[←hq,m2,m3];exact Q5Z (by omega)
    simp only[Q1z,hah]
    split
    ·simp[Q8w,Q8x,Q9a,hq]
    split
    ·omega
    ·simp[Q8w,Q8x,Q9a,hq]
   ·simp only[Q1z]
    (repeat' split)<;>simp[Q8w,Q8x,Q9a,hq]
  case z1 a b=>
   by_cases hq:m 2=a
   ·have hah:Q1s a (m 3)=Wi-Wo:=by rw[←hq,m2,m3];exact Q5Z (by omega)
    simp only[Q1z,hah]
    split
    ·simp[Q8w,Q8x,Q9a,hq]
    split
    ·omega
    ·simp[Q8w,Q8x,Q9a,hq]
   ·simp only[Q1z]
    (repeat' split)<;>simp[Q8w,Q8x,Q9a,hq]
  case y2 a b=>by_cases hq:m 2=a<;>simp[Q1z,hq]at he<;>simp[Q1z,Q8w,Q8x,Q9a,hq]
  case z2 a b=>by_cases hq:m 2=a<;>simp[Q1z,hq]at he<;>simp[Q1z,Q8w,Q8x,Q9a,hq]
  case y4 a b=>simp only[Q1z];split<;>simp[Q8w,Q8x,Q9a]
  case z4 a b=>simp only[Q1z];split<;>simp[Q8w,Q8x,Q9a]
  all_goals first|(simp[Q1z]at he;done)|simp[Q1z,Q8w,Q8x,Q9a]
 ·rcases hh with rfl|rfl<;>simp[pfK,X0v,Q8w,Q8x,Q9a]
 ·cases p<;>simp[pfK,Q3I]at hw<;>simp[Q9a]at hz
  case idle h=>
   rcases Decidable.em (h=0)with h0|h0
   ·subst h0;rfl
   ·have hz:=hz h0
    split at hz<;>simp at hz
  all_goals(split at hz<;>simp at hz)
 ·obtain⟨h1,h2,⟨Rin,Rout,HP⟩,⟨Wi,Wo,T,HT⟩,h5⟩:=H
  have hfree:=HP.free (fun q hq=>by
   obtain⟨i,hi,rfl⟩:=List.getElem_of_mem hq
   have hin:i<n:=by simpa[hl]using hi
   have e:(ps.map Q1C)[i]=Q1C (ps.getD i (pfK.idle 0)):=by simp[List.getD,show i<ps.length by omega]
   rw[e]
   rcases hall i hin with h|⟨c,pr,hw,hpr⟩
   ·rw[h];exact⟨rfl,rfl,rfl,(fun h=>by cases h),(fun w h=>by cases h),(fun h=>by cases h)⟩
   ·generalize ps.getD i (pfK.idle 0)=p at hw
    cases p<;>simp[pfK,Q3I]at hw<;>obtain⟨rfl,rfl⟩:=hw<;>simp at hpr
    case r1 a=>exact⟨rfl,rfl,rfl,(fun h=>by cases h),(fun w h=>by have:=Option.some.inj h;omega),(fun h=>by cases h)⟩
    case l1 a=>exact⟨rfl,rfl,rfl,(fun h=>by cases h),(fun w h=>by cases h),(fun h=>by cases h)⟩
    case l4 a b'=>exact⟨rfl,rfl,rfl,(fun h=>by cases h),(fun w h=>by cases h),fun _=>⟨a,rfl,hpr⟩⟩
    case y7 a b'=>exact⟨rfl,rfl,rfl,(fun h=>by cases h),(fun w h=>by cases h),fun _=>⟨a,rfl,hpr⟩⟩
    case z7 a b'=>exact⟨rfl,rfl,rfl,fun _=>rfl,(fun w h=>by cases h),fun _=>⟨a,rfl,hpr⟩⟩)
  have hwt: ∀i,i<n→(Q1C (ps.getD i (pfK.idle 0))).wt=none∧(Q1C (ps.getD i (pfK.idle 0))).pd=false:=fun i hi=>by
   rw[←Q4f (g:=Q1C) (e:=Ph.none) (by omega)]
   exact hfree _ (Q0k (by simpa using(show i<ps.length by omega)))
  have hl1: ∀i,i<n→ps.getD i (pfK.idle 0)=pfK.idle 0∨ ∃a,ps.getD i (pfK.idle 0)= .l1 a∧ ¬m 3=a:=fun i hi=>by
   have hq:=hwt i hi
   rcases hall i hi with h|⟨c,pr,hw,hpr⟩
   ·exact Or.inl h
   ·right
    generalize ps.getD i (pfK.idle 0)=p at hw hq⊢
    cases p<;>simp[pfK,Q3I]at hw<;>obtain⟨rfl,rfl⟩:=hw<;>simp at hpr
    case r1 a=>cases hq.1
    case l1 a=>exact⟨a,rfl,hpr⟩
    all_goals cases hq.2
  have hh0:ws pfH ps=0:=Q5H (d:=pfK.idle 0) hl (fun i hi=>by
   rcases hl1 i hi with h|⟨a,h,_⟩<;>rw[h]<;>rfl)
  intro i hi
  rcases hl1 i hi with h|⟨a,h,hne⟩
  ·exact h
  ·exfalso
   have hr:=HT.rng i hi (by rw[h];rfl)
   obtain⟨j,hj,g2,g3⟩:=HT.sur Wo (by omega) (by omega)
   rcases hl1 j hj with h|⟨a,h,hne⟩
   ·rw[h]at g2;exact absurd g2 (by decide)
   ·have haj:=HT.at_ j hj
    rw[h]at haj
    have haj:a=T j%4294967296:=haj
    exact hne (by rw[HT.m3,haj,g3])
theorem X3M(base:Int)(n:Nat)(mode:Int):pfK.All n mode (pfI base n) 6 3 7 Q8w Q8x (fun m _ p=>Q9a (m 0) (m 1) (m 2) (m 3) p):=by
 refine⟨Y3T n mode,Y3R base n,Y3Q base n,fun b ps m i h H hi hl hp=> ?_,fun b ps m i j H hl hi hj hji hp=> ?_,fun t h=>rfl⟩
 ·have:=Y1a H.2.2.2.2 hl hi
  rw[hp]at this
  exact this
 ·obtain⟨h1,h2,⟨Rin,Rout,HP⟩,⟨Wi,Wo,T,HT⟩,h5⟩:=H
  have hil:i<(ps.map Q1C).length:=by simpa using(show i<ps.length by omega)
  have hjl:j<(ps.map Q1C).length:=by simpa using(show j<ps.length by omega)
  have hqi:(ps.map Q1C).getD i Ph.none=Q1C (pfK.idle 2):=by rw[Q4f (d:=pfK.idle 0) (by omega),hp]
  have hqj:(ps.map Q1C).getD j Ph.none=Q1C (ps.getD j (pfK.idle 0)):=Q4f (by omega)
  have hal:=HP.alone hil hqi rfl hjl hji
  rw[hqj]at hal
  have o1:=Q0m (d:=Ph.none) Q2l hil
  rw[hqi]at o1
  have o1:1≤ws wIn (ps.map Q1C):=o1
  obtain⟨⟨s0,s1,s2,s3,s4,s5,s6,s7⟩,s8,s9⟩:=HP.sums
  have one:=HP.one
  have wr:=(HP.wr (by omega)).1
  have o5:=Q0m (d:=Ph.none) Q2X hjl
  rw[hqj,wr]at o5
  have hok:=Y1a h5 hl hj
  generalize ps.getD j (pfK.idle 0)=p at hal o5 hok
  cases p<;>first|rfl|(exfalso;simp[Q1C]at hal;done)|(exfalso;simp[Q1C,wRd]at o5;done)|skip
  case idle h=>
   show h=0
   have hok:h=0∨h=1∨h=2:=hok
   rcases hok with rfl|rfl|rfl
   ·rfl
   ·exfalso;simp[Q1C,wRd]at o5
   ·exfalso;simp[Q1C]at hal
end Go.Proofs.YthnimpkoidablaaGreat.Z
