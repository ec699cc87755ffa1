import Derived.Test.YthnimpkoidablaaGreatZB01
set_option linter.unusedVariables false
set_option linter.unusedSimpArgs false
namespace Go.Proofs.YthnimpkoidablaaGreat.Z
open Go.RowKit
structure Ph where
 hd:Bool
 inn:Bool
 up:Bool
 pd:Bool
 a2:Bool
 rd:Bool
 wt:Option Int
 b:Option Int
 sn:Option Int
def Ph.none:Ph:=⟨false,false,false,false,false,false, .none, .none, .none⟩
def wHd(q:Ph):Int:=if q.hd then 1 else 0
def wIn(q:Ph):Int:=if q.inn then 1 else 0
def wUp(q:Ph):Int:=if q.up then 1 else 0
def wPd(q:Ph):Int:=if q.pd then 1 else 0
def wA2(q:Ph):Int:=if q.a2 then 1 else 0
def wRd(q:Ph):Int:=if q.rd then 1 else 0
def Q2Z(ph:Int)(q:Ph):Int:=if q.wt=some (2+(ph+1)%2)then 1 else 0
def Q3g(ph:Int)(q:Ph):Int:=if q.wt=some (2+ph%2)then 1 else 0
structure PhOk(q:Ph):Prop where
 some:wIn q+wUp q+wPd q+wA2 q≤wHd q
 wt: ∀w,q.wt= .some w→(w=2∨w=3)∧q.hd=false∧q.rd=false
 b: ∀v,q.b= .some v→q.hd=true
 sn: ∀v,q.sn= .some v→q.pd=true
 upr:wUp q≤wRd q
theorem Q2Y: ∀q,0≤wHd q:=by intro q;simp only[wHd];split<;>decide
theorem Q2l: ∀q,0≤wIn q:=by intro q;simp only[wIn];split<;>decide
theorem Q2r: ∀q,0≤wUp q:=by intro q;simp only[wUp];split<;>decide
theorem Q2Q: ∀q,0≤wPd q:=by intro q;simp only[wPd];split<;>decide
theorem Q2s: ∀q,0≤wA2 q:=by intro q;simp only[wA2];split<;>decide
theorem Q2X: ∀q,0≤wRd q:=by intro q;simp only[wRd];split<;>decide
theorem Q2E{ph:Int}: ∀q,0≤Q2Z ph q:=by intro q;simp only[Q2Z];split<;>decide
theorem Q2F{ph:Int}: ∀q,0≤Q3g ph q:=by intro q;simp only[Q3g];split<;>decide
theorem Q6D{P:Type}(f g:P→Int): ∀l,ws (fun x=>f x+g x) l=ws f l+ws g l
 |[]=>rfl
 |x::l=>by have:=Q6D f g l;simp only[ws];omega
theorem X3h{P:Type}{f g:P→Int}: ∀{l:List P},(∀x,x∈l→f x≤g x)→ws f l≤ws g l
 |[],_=>Int.le_refl _
 |x::l,h=>by have:=X3h (l:=l) (fun y hy=>h y (List.mem_cons_of_mem _ hy));have:=h x (by simp);simp only[ws];omega
theorem X2b{P:Type}{f:P→Int}{d:P}: ∀{l:List P} {i:Nat},(∀x,x∈l→0≤f x)→i<l.length→f (l.getD i d)≤ws f l
 |[],i,_,hi=>by simp at hi
 |x::l,0,h,_=>by
  have:=X3h (f:=fun _=>0) (g:=f) (l:=l) (fun y hy=>h y (List.mem_cons_of_mem _ hy))
  have e:ws (fun _:P=>(0:Int)) l=0:=Q6q (fun _ _=>rfl)
  simp only[ws,List.getD_cons_zero]
  omega
 |x::l,i+1,h,hi=>by
  have:=X2b (l:=l) (i:=i) (d:=d) (fun y hy=>h y (List.mem_cons_of_mem _ hy)) (by simpa using hi)
  have:=h x (by simp)
  simp only[ws,List.getD_cons_succ]
  omega
theorem Y1Q{P:Type}(f g:P→Int): ∀l,ws (fun x=>f x-g x) l=ws f l-ws g l
 |[]=>rfl
 |x::l=>by have:=Y1Q f g l;simp only[ws];omega
theorem Q0k{P:Type}{l:List P}{i:Nat}{d:P}(h:i<l.length):l.getD i d∈l:=by simp[List.getD,h]
theorem PhOk.turn{q:Ph}(h:PhOk q)(hp:q.pd=true):q.hd=true:=by
 have h1:=h.some
 have k4:=Q2l q
 have k5:=Q2r q
 have k6:=Q2s q
 cases hh:q.hd with
 |true=>rfl
 |false=>
  simp only[wHd,wPd,hp,hh,if_true,Bool.false_eq_true,if_false]at h1
  omega
structure Q2u(l:List Ph)(x0 x1 ph Rin Rout:Int):Prop where
 len:l.length≤64
 phw:0≤ph∧ph<4294967296
 x1:x1=256*Rout%4294967296
 cnt:Rin-Rout=ws wRd l+ws (Q2Z ph) l+ws (Q3g ph) l
 on:ws wIn l+ws wUp l+ws wPd l=1→x0=(256*Rin+(2+ph%2))%4294967296
 off:ws wIn l+ws wUp l+ws wPd l=0→x0=256*Rin%4294967296
 one:ws wHd l≤1
 wr:ws wIn l=1→ws wRd l=0∧ws (Q2Z ph) l=0
 ups:ws wUp l=1→ws wRd l=1∧ws (Q2Z ph) l=0
 lv:ws wA2 l=1→ws (Q2Z ph) l=0
 nw:ws wIn l+ws wUp l+ws wPd l=0→ws wA2 l=0→ws (Q3g ph) l=0
 ok: ∀q,q∈l→PhOk q
 bs: ∀q,q∈l→ ∀v,q.b=some v→v=ph
 sn: ∀q,q∈l→ ∀a,q.sn=some a→ ∃A,a=256*A%4294967296∧A-Rout=ws wRd l+ws (Q2Z ph) l
section
variable {l:List Ph}{x0 x1 ph Rin Rout:Int}{i:Nat}
theorem Q2u.sums(H:Q2u l x0 x1 ph Rin Rout):(0≤ws wHd l∧0≤ws wIn l∧0≤ws wUp l∧0≤ws wPd l∧0≤ws wA2 l∧0≤ws wRd l∧0≤ws (Q2Z ph) l∧0≤ws (Q3g ph) l)∧ws wIn l+ws wUp l+ws wPd l+ws wA2 l≤ws wHd l∧ws wRd l+ws (Q2Z ph) l+ws (Q3g ph) l≤64:=by
 refine⟨⟨Q1w Q2Y l,Q1w Q2l l,Q1w Q2r l,Q1w Q2Q l,Q1w Q2s l,Q1w Q2X l,Q1w Q2E l,Q1w Q2F l⟩,?_,?_⟩
 ·have h:=X3h (f:=fun q=>wIn q+wUp q+wPd q+wA2 q) (g:=wHd) (l:=l) (fun q hq=>(H.ok q hq).some)
  have e1:=Q6D (fun q=>wIn q+wUp q+wPd q) wA2 l
  have e2:=Q6D (fun q=>wIn q+wUp q) wPd l
  have e3:=Q6D wIn wUp l
  omega
 ·have h:=X3h (f:=fun q=>wRd q+Q2Z ph q+Q3g ph q) (g:=fun _=>1) (l:=l) (fun q hq=>by
   have hw:=(H.ok q hq).wt
   unfold wRd Q2Z Q3g
   cases hq2:q.wt with
   |none=>simp;split<;>decide
   |some w=>
    obtain⟨h1,h2,h3⟩:=hw w hq2
    rw[h3]
    simp only[Option.some.injEq,Bool.false_eq_true,if_false]
    split<;>split<;>omega)
  have e1:=Q6D (fun q=>wRd q+Q2Z ph q) (Q3g ph) l
  have e2:=Q6D wRd (Q2Z ph) l
  have e3:ws (fun _:Ph=>(1:Int)) l=l.length:=by
   have: ∀l:List Ph,ws (fun _:Ph=>(1:Int)) l=l.length:=fun l=>by
    induction l with
    |nil=>rfl
    |cons x l ih=>simp only[ws,List.length_cons];omega
   exact this l
  have:=H.len
  omega
theorem Q2u.own(H:Q2u l x0 x1 ph Rin Rout)(hi:i<l.length){q:Ph}(hq:l.getD i Ph.none=q):wRd q-wUp q≤ws wRd l-ws wUp l∧wHd q-(wIn q+wUp q+wPd q+wA2 q)≤ws wHd l-(ws wIn l+ws wUp l+ws wPd l+ws wA2 l):=by
 have h1:=X2b (f:=fun q=>wRd q-wUp q) (d:=Ph.none) (l:=l) (i:=i) (fun x hx=>by have:=(H.ok x hx).upr;omega) hi
 have h2:=X2b (f:=fun q=>wHd q-(wIn q+wUp q+wPd q+wA2 q)) (d:=Ph.none) (l:=l) (i:=i) (fun x hx=>by have:=(H.ok x hx).some;omega) hi
 rw[hq]at h1 h2
 rw[Y1Q]at h1 h2
 have e1:=Q6D (fun q=>wIn q+wUp q+wPd q) wA2 l
 have e2:=Q6D (fun q=>wIn q+wUp q) wPd l
 have e3:=Q6D wIn wUp l
 constructor<;>omega
theorem Q2u.bits(H:Q2u l x0 x1 ph Rin Rout)(h: ¬x0%4=0):x0%4=2+ph%2:=by
 obtain⟨⟨s0,s1,s2,s3,s4,s5,s6,s7⟩,s8,s9⟩:=H.sums
 have on:=H.on
 have off:=H.off
 have one:=H.one
 omega
theorem Q2u.alone(H:Q2u l x0 x1 ph Rin Rout){q:Ph}(hi:i<l.length)(hq:l.getD i Ph.none=q)(h1:q.hd=true){j:Nat}(hj:j<l.length)(hji:j≠i):(l.getD j Ph.none).hd=false:=by
 have h2:=X3g (d:=Ph.none) Q2Y (l:=l) (i:=i) (j:=j) hi hj (fun h=>hji h.symm)
 have h3:=H.one
 rw[hq]at h2
 cases h:(l.getD j Ph.none).hd with
 |false=>rfl
 |true=>
  exfalso
  unfold wHd at h2
  rw[h,h1]at h2
  simp at h2
  have:ws wHd l≤1:=h3
  unfold wHd at this
  omega
theorem Q0i{q q':Ph}(hi:i<l.length)(h:q∈l.set i q'):q=q'∨ ∃j,j<l.length∧j≠i∧l.getD j Ph.none=q:=by
 obtain⟨j,hj,rfl⟩:=List.getElem_of_mem h
 rw[List.length_set]at hj
 by_cases e:i=j
 ·subst e;left;simp
 ·right
  refine⟨j,hj,fun h=>e h.symm,?_⟩
  rw[List.getElem_set_ne e]
  simp[List.getD,hj]
theorem Q2u.reads(H:Q2u l x0 x1 ph Rin Rout)(hi:i<l.length)(hq:l.getD i Ph.none=⟨false,false,false,false,false,false, .none, .none, .none⟩)(h0:x0%4=0):Q2u (l.set i ⟨false,false,false,false,false,true, .none, .none, .none⟩) ((x0+256)%4294967296) (x1) (ph) (Rin+1) (Rout):=by
 have QM:=Q0k (d:=Ph.none) hi
 have QA:=fun h j hj hji=>H.alone hi hq h (j:=j) hj hji
 have⟨o8,o9⟩:=H.own hi hq
 rw[hq]at QM
 have QB:=H.bs _ QM
 have QS:=H.sn _ QM
 have QK:=H.ok _ QM
 obtain⟨⟨s0,s1,s2,s3,s4,s5,s6,s7⟩,s8,s9⟩:=H.sums
 have phw:=H.phw
 have x1e:=H.x1
 have cnt:=H.cnt
 have on:=H.on
 have off:=H.off
 have one:=H.one
 have wr:=H.wr
 have ups:=H.ups
 have lv:=H.lv
 have nw:=H.nw
 have e0:=Q0l (f:=wHd) (d:=Ph.none) (x:=⟨false,false,false,false,false,true, .none, .none, .none⟩) hi
 have e1:=Q0l (f:=wIn) (d:=Ph.none) (x:=⟨false,false,false,false,false,true, .none, .none, .none⟩) hi
 have e2:=Q0l (f:=wUp) (d:=Ph.none) (x:=⟨false,false,false,false,false,true, .none, .none, .none⟩) hi
 have e3:=Q0l (f:=wPd) (d:=Ph.none) (x:=⟨false,false,false,false,false,true, .none, .none, .none⟩) hi
 have e4:=Q0l (f:=wA2) (d:=Ph.none) (x:=⟨false,false,false,false,false,true, .none, .none, .none⟩) hi
 have e5:=Q0l (f:=wRd) (d:=Ph.none) (x:=⟨false,false,false,false,false,true, .none, .none, .none⟩) hi
 have e6:=Q0l (f:=Q2Z ph) (d:=Ph.none) (x:=⟨false,false,false,false,false,true, .none, .none, .none⟩) hi
 have e7:=Q0l (f:=Q3g ph) (d:=Ph.none) (x:=⟨false,false,false,false,false,true, .none, .none, .none⟩) hi
 have o0:=Q0m (d:=Ph.none) Q2Y hi
 have o1:=Q0m (d:=Ph.none) Q2l hi
 have o2:=Q0m (d:=Ph.none) Q2r hi
 have o3:=Q0m (d:=Ph.none) Q2Q hi
 have o4:=Q0m (d:=Ph.none) Q2s hi
 have o5:=Q0m (d:=Ph.none) Q2X hi
 have o6:=Q0m (d:=Ph.none) (Q2E (ph:=ph)) hi
 have o7:=Q0m (d:=Ph.none) (Q2F (ph:=ph)) hi
 rw[hq]at e0 e1 e2 e3 e4 e5 e6 e7 o0 o1 o2 o3 o4 o5 o6 o7
 simp only[wHd,wIn,wUp,wPd,wA2,wRd,Q2Z,Q3g,if_true,if_false,Bool.false_eq_true,reduceCtorEq,Option.some.injEq]at e0 e1 e2 e3 e4 e5 e6 e7 o0 o1 o2 o3 o4 o5 o6 o7 o8 o9
 refine⟨by rw[List.length_set];exact H.len,phw,by omega,by omega,by omega,by omega,by omega,by omega,by omega,by omega,by omega,fun q hm=> ?_,fun q hm v hv=> ?_,fun q hm a ha=> ?_⟩
 ·rcases Q0i hi hm with rfl|⟨j,hj,hji,rfl⟩
  ·refine⟨by simp[wHd,wIn,wUp,wPd,wA2],fun w hw=> ?_,fun v hv=> ?_,fun v hv=> ?_,by simp[wUp,wRd]⟩
   ·first|(cases hw;done)|(obtain rfl:=Option.some.inj hw;exact⟨by omega,rfl,rfl⟩)
   ·first|(cases hv;done)|rfl
   ·first|(cases hv;done)|rfl
  ·exact H.ok _ (Q0k hj)
 ·rcases Q0i hi hm with rfl|⟨j,hj,hji,rfl⟩
  ·first|(cases hv;done)|(obtain rfl:=Option.some.inj hv;exact QB _ rfl)
  ·exact H.bs _ (Q0k hj) v hv
 ·rcases Q0i hi hm with rfl|⟨j,hj,hji,rfl⟩
  ·first|(cases ha;done)|(obtain rfl:=Option.some.inj ha;omega)
  ·exfalso
   have k2:=(H.ok _ (Q0k hj)).sn a ha
   have k3:=Q0m (d:=Ph.none) Q2Q hj
   simp only[wPd,k2,if_true]at k3
   have k3:1≤ws wPd l:=k3
   omega
theorem Q2u.Y5V(H:Q2u l x0 x1 ph Rin Rout)(hi:i<l.length)(hq:l.getD i Ph.none=⟨false,false,false,false,false,false, .none, .none, .none⟩)(h0: ¬x0%4=0):Q2u (l.set i ⟨false,false,false,false,false,false,some (2+ph%2), .none, .none⟩) ((x0+256)%4294967296) (x1) (ph) (Rin+1) (Rout):=by
 have QM:=Q0k (d:=Ph.none) hi
 have QA:=fun h j hj hji=>H.alone hi hq h (j:=j) hj hji
 have⟨o8,o9⟩:=H.own hi hq
 rw[hq]at QM
 have QB:=H.bs _ QM
 have QS:=H.sn _ QM
 have QK:=H.ok _ QM
 obtain⟨⟨s0,s1,s2,s3,s4,s5,s6,s7⟩,s8,s9⟩:=H.sums
 have phw:=H.phw
 have x1e:=H.x1
 have cnt:=H.cnt
 have on:=H.on
 have off:=H.off
 have one:=H.one
 have wr:=H.wr
 have ups:=H.ups
 have lv:=H.lv
 have nw:=H.nw
 have e0:=Q0l (f:=wHd) (d:=Ph.none) (x:=⟨false,false,false,false,false,false,some (2+ph%2), .none, .none⟩) hi
 have e1:=Q0l (f:=wIn) (d:=Ph.none) (x:=⟨false,false,false,false,false,false,some (2+ph%2), .none, .none⟩) hi
 have e2:=Q0l (f:=wUp) (d:=Ph.none) (x:=⟨false,false,false,false,false,false,some (2+ph%2), .none, .none⟩) hi
 have e3:=Q0l (f:=wPd) (d:=Ph.none) (x:=⟨false,false,false,false,false,false,some (2+ph%2), .none, .none⟩) hi
 have e4:=Q0l (f:=wA2) (d:=Ph.none) (x:=⟨false,false,false,false,false,false,some (2+ph%2), .none, .none⟩) hi
 have e5:=Q0l (f:=wRd) (d:=Ph.none) (x:=⟨false,false,false,false,false,false,some (2+ph%2), .none, .none⟩) hi
 have e6:=Q0l (f:=Q2Z ph) (d:=Ph.none) (x:=⟨false,false,false,false,false,false,some (2+ph%2), .none, .none⟩) hi
 have e7:=Q0l (f:=Q3g ph) (d:=Ph.none) (x:=⟨false,false,false,false,false,false,some (2+ph%2), .none, .none⟩) hi
 have o0:=Q0m (d:=Ph.none) Q2Y hi
 have o1:=Q0m (d:=Ph.none) Q2l hi
 have o2:=Q0m (d:=Ph.none) Q2r hi
 have o3:=Q0m (d:=Ph.none) Q2Q hi
 have o4:=Q0m (d:=Ph.none) Q2s hi
 have o5:=Q0m (d:=Ph.none) Q2X hi
 have o6:=Q0m (d:=Ph.none) (Q2E (ph:=ph)) hi
 have o7:=Q0m (d:=Ph.none) (Q2F (ph:=ph)) hi
 rw[hq]at e0 e1 e2 e3 e4 e5 e6 e7 o0 o1 o2 o3 o4 o5 o6 o7
 simp only[wHd,wIn,wUp,wPd,wA2,wRd,Q2Z,Q3g,if_true,if_false,Bool.false_eq_true,reduceCtorEq,Option.some.injEq]at e0 e1 e2 e3 e4 e5 e6 e7 o0 o1 o2 o3 o4 o5 o6 o7 o8 o9
 have g1: ¬(2+(ph+1)%2=2+ph%2):=by omega
 have g2: ¬(2+ph%2=2+(ph+1)%2):=by omega
 simp only[if_neg g1,if_neg g2,if_true]at e6 e7 o6 o7
 refine⟨by rw[List.length_set];exact H.len,phw,by omega,by omega,by omega,by omega,by omega,by omega,by omega,by omega,by omega,fun q hm=> ?_,fun q hm v hv=> ?_,fun q hm a ha=> ?_⟩
 ·rcases Q0i hi hm with rfl|⟨j,hj,hji,rfl⟩
  ·refine⟨by simp[wHd,wIn,wUp,wPd,wA2],fun w hw=> ?_,fun v hv=> ?_,fun v hv=> ?_,by simp[wUp,wRd]⟩
   ·first|(cases hw;done)|(obtain rfl:=Option.some.inj hw;exact⟨by omega,rfl,rfl⟩)
   ·first|(cases hv;done)|rfl
   ·first|(cases hv;done)|rfl
  ·exact H.ok _ (Q0k hj)
 ·rcases Q0i hi hm with rfl|⟨j,hj,hji,rfl⟩
  ·first|(cases hv;done)|(obtain rfl:=Option.some.inj hv;exact QB _ rfl)
  ·exact H.bs _ (Q0k hj) v hv
 ·rcases Q0i hi hm with rfl|⟨j,hj,hji,rfl⟩
  ·first|(cases ha;done)|(obtain rfl:=Option.some.inj ha;omega)
  ·obtain⟨A,a1,a2⟩:=H.sn _ (Q0k hj) a ha
   exact⟨A,a1,by omega⟩
theorem Q2u.waits(H:Q2u l x0 x1 ph Rin Rout)(hi:i<l.length)(hq:l.getD i Ph.none=⟨false,false,false,false,false,false, .none, .none, .none⟩)(h0: ¬x0%4=0):Q2u (l.set i ⟨false,false,false,false,false,false,some (x0%4), .none, .none⟩) ((x0+256)%4294967296) x1 ph (Rin+1) Rout:=by
 rw[H.bits h0]
 exact H.Y5V hi hq h0
theorem Q2u.lets0(H:Q2u l x0 x1 ph Rin Rout)(hi:i<l.length)(hq:l.getD i Ph.none=⟨false,false,false,false,false,false,some (2+(ph+1)%2), .none, .none⟩):Q2u (l.set i ⟨false,false,false,false,false,true, .none, .none, .none⟩) (x0) (x1) (ph) (Rin) (Rout):=by
 have QM:=Q0k (d:=Ph.none) hi
 have QA:=fun h j hj hji=>H.alone hi hq h (j:=j) hj hji
 have⟨o8,o9⟩:=H.own hi hq
 rw[hq]at QM
 have QB:=H.bs _ QM
 have QS:=H.sn _ QM
 have QK:=H.ok _ QM
 obtain⟨⟨s0,s1,s2,s3,s4,s5,s6,s7⟩,s8,s9⟩:=H.sums
 have phw:=H.phw
 have x1e:=H.x1
 have cnt:=H.cnt
 have on:=H.on
 have off:=H.off
 have one:=H.one
 have wr:=H.wr
 have ups:=H.ups
 have lv:=H.lv
 have nw:=H.nw
 have e0:=Q0l (f:=wHd) (d:=Ph.none) (x:=⟨false,false,false,false,false,true, .none, .none, .none⟩) hi
 have e1:=Q0l (f:=wIn) (d:=Ph.none) (x:=⟨false,false,false,false,false,true, .none, .none, .none⟩) hi
 have e2:=Q0l (f:=wUp) (d:=Ph.none) (x:=⟨false,false,false,false,false,true, .none, .none, .none⟩) hi
 have e3:=Q0l (f:=wPd) (d:=Ph.none) (x:=⟨false,false,false,false,false,true, .none, .none, .none⟩) hi
 have e4:=Q0l (f:=wA2) (d:=Ph.none) (x:=⟨false,false,false,false,false,true, .none, .none, .none⟩) hi
 have e5:=Q0l (f:=wRd) (d:=Ph.none) (x:=⟨false,false,false,false,false,true, .none, .none, .none⟩) hi
 have e6:=Q0l (f:=Q2Z ph) (d:=Ph.none) (x:=⟨false,false,false,false,false,true, .none, .none, .none⟩) hi
 have e7:=Q0l (f:=Q3g ph) (d:=Ph.none) (x:=⟨false,false,false,false,false,true, .none, .none, .none⟩) hi
 have o0:=Q0m (d:=Ph.none) Q2Y hi
 have o1:=Q0m (d:=Ph.none) Q2l hi
 have o2:=Q0m (d:=Ph.none) Q2r hi
 have o3:=Q0m (d:=Ph.none) Q2Q hi
 have o4:=Q0m (d:=Ph.none) Q2s hi
 have o5:=Q0m (d:=Ph.none) Q2X hi
 have o6:=Q0m (d:=Ph.none) (Q2E (ph:=ph)) hi
 have o7:=Q0m (d:=Ph.none) (Q2F (ph:=ph)) hi
 rw[hq]at e0 e1 e2 e3 e4 e5 e6 e7 o0 o1 o2 o3 o4 o5 o6 o7
 simp only[wHd,wIn,wUp,wPd,wA2,wRd,Q2Z,Q3g,if_true,if_false,Bool.false_eq_true,reduceCtorEq,Option.some.injEq]at e0 e1 e2 e3 e4 e5 e6 e7 o0 o1 o2 o3 o4 o5 o6 o7 o8 o9
 have g1: ¬(2+(ph+1)%2=2+ph%2):=by omega
 have g2: ¬(2+ph%2=2+(ph+1)%2):=by omega
 simp only[if_neg g1,if_neg g2,if_true]at e6 e7 o6 o7
 refine⟨by rw[List.length_set];exact H.len,phw,by omega,by omega,by omega,by omega,by omega,by omega,by omega,by omega,by omega,fun q hm=> ?_,fun q hm v hv=> ?_,fun q hm a ha=> ?_⟩
 ·rcases Q0i hi hm with rfl|⟨j,hj,hji,rfl⟩
  ·refine⟨by simp[wHd,wIn,wUp,wPd,wA2],fun w hw=> ?_,fun v hv=> ?_,fun v hv=> ?_,by simp[wUp,wRd]⟩
   ·first|(cases hw;done)|(obtain rfl:=Option.some.inj hw;exact⟨by omega,rfl,rfl⟩)
   ·first|(cases hv;done)|rfl
   ·first|(cases hv;done)|rfl
  ·exact H.ok _ (Q0k hj)
 ·rcases Q0i hi hm with rfl|⟨j,hj,hji,rfl⟩
  ·first|(cases hv;done)|(obtain rfl:=Option.some.inj hv;exact QB _ rfl)
  ·exact H.bs _ (Q0k hj) v hv
 ·rcases Q0i hi hm with rfl|⟨j,hj,hji,rfl⟩
  ·first|(cases ha;done)|(obtain rfl:=Option.some.inj ha;omega)
  ·obtain⟨A,a1,a2⟩:=H.sn _ (Q0k hj) a ha
   exact⟨A,a1,by omega⟩
theorem Q2u.lets1(H:Q2u l x0 x1 ph Rin Rout)(hi:i<l.length)(hq:l.getD i Ph.none=⟨false,false,false,false,false,false,some (2+ph%2), .none, .none⟩)(h0: ¬x0%4=2+ph%2):Q2u (l.set i ⟨false,false,false,false,false,true, .none, .none, .none⟩) (x0) (x1) (ph) (Rin) (Rout):=by
 have QM:=Q0k (d:=Ph.none) hi
 have QA:=fun h j hj hji=>H.alone hi hq h (j:=j) hj hji
 have⟨o8,o9⟩:=H.own hi hq
 rw[hq]at QM
 have QB:=H.bs _ QM
 have QS:=H.sn _ QM
 have QK:=H.ok _ QM
 obtain⟨⟨s0,s1,s2,s3,s4,s5,s6,s7⟩,s8,s9⟩:=H.sums
 have phw:=H.phw
 have x1e:=H.x1
 have cnt:=H.cnt
 have on:=H.on
 have off:=H.off
 have one:=H.one
 have wr:=H.wr
 have ups:=H.ups
 have lv:=H.lv
 have nw:=H.nw
 have e0:=Q0l (f:=wHd) (d:=Ph.none) (x:=⟨false,false,false,false,false,true, .none, .none, .none⟩) hi
 have e1:=Q0l (f:=wIn) (d:=Ph.none) (x:=⟨false,false,false,false,false,true, .none, .none, .none⟩) hi
 have e2:=Q0l (f:=wUp) (d:=Ph.none) (x:=⟨false,false,false,false,false,true, .none, .none, .none⟩) hi
 have e3:=Q0l (f:=wPd) (d:=Ph.none) (x:=⟨false,false,false,false,false,true, .none, .none, .none⟩) hi
 have e4:=Q0l (f:=wA2) (d:=Ph.none) (x:=⟨false,false,false,false,false,true, .none, .none, .none⟩) hi
 have e5:=Q0l (f:=wRd) (d:=Ph.none) (x:=⟨false,false,false,false,false,true, .none, .none, .none⟩) hi
 have e6:=Q0l (f:=Q2Z ph) (d:=Ph.none) (x:=⟨false,false,false,false,false,true, .none, .none, .none⟩) hi
 have e7:=Q0l (f:=Q3g ph) (d:=Ph.none) (x:=⟨false,false,false,false,false,true, .none, .none, .none⟩) hi
 have o0:=Q0m (d:=Ph.none) Q2Y hi
 have o1:=Q0m (d:=Ph.none) Q2l hi
 have o2:=Q0m (d:=Ph.none) Q2r hi
 have o3:=Q0m (d:=Ph.none) Q2Q hi
 have o4:=Q0m (d:=Ph.none) Q2s hi
 have o5:=Q0m (d:=Ph.none) Q2X hi
 have o6:=Q0m (d:=Ph.none) (Q2E (ph:=ph)) hi
 have o7:=Q0m (d:=Ph.none) (Q2F (ph:=ph)) hi
 rw[hq]at e0 e1 e2 e3 e4 e5 e6 e7 o0 o1 o2 o3 o4 o5 o6 o7
 simp only[wHd,wIn,wUp,wPd,wA2,wRd,Q2Z,Q3g,if_true,if_false,Bool.false_eq_true,reduceCtorEq,Option.some.injEq]at e0 e1 e2 e3 e4 e5 e6 e7 o0 o1 o2 o3 o4 o5 o6 o7 o8 o9
 have g1: ¬(2+(ph+1)%2=2+ph%2):=by omega
 have g2: ¬(2+ph%2=2+(ph+1)%2):=by omega
 simp only[if_neg g1,if_neg g2,if_true]at e6 e7 o6 o7
 refine⟨by rw[List.length_set];exact H.len,phw,by omega,by omega,by omega,by omega,by omega,by omega,by omega,by omega,by omega,fun q hm=> ?_,fun q hm v hv=> ?_,fun q hm a ha=> ?_⟩
 ·rcases Q0i hi hm with rfl|⟨j,hj,hji,rfl⟩
  ·refine⟨by simp[wHd,wIn,wUp,wPd,wA2],fun w hw=> ?_,fun v hv=> ?_,fun v hv=> ?_,by simp[wUp,wRd]⟩
   ·first|(cases hw;done)|(obtain rfl:=Option.some.inj hw;exact⟨by omega,rfl,rfl⟩)
   ·first|(cases hv;done)|rfl
   ·first|(cases hv;done)|rfl
  ·exact H.ok _ (Q0k hj)
 ·rcases Q0i hi hm with rfl|⟨j,hj,hji,rfl⟩
  ·first|(cases hv;done)|(obtain rfl:=Option.some.inj hv;exact QB _ rfl)
  ·exact H.bs _ (Q0k hj) v hv
 ·rcases Q0i hi hm with rfl|⟨j,hj,hji,rfl⟩
  ·first|(cases ha;done)|(obtain rfl:=Option.some.inj ha;omega)
  ·exfalso
   have k2:=(H.ok _ (Q0k hj)).sn a ha
   have k3:=Q0m (d:=Ph.none) Q2Q hj
   simp only[wPd,k2,if_true]at k3
   have k3:1≤ws wPd l:=k3
   omega
theorem Q2u.lets(H:Q2u l x0 x1 ph Rin Rout){w:Int}(hi:i<l.length)(hq:l.getD i Ph.none=⟨false,false,false,false,false,false,some w, .none, .none⟩)(h0: ¬x0%4=w):Q2u (l.set i ⟨false,false,false,false,false,true, .none, .none, .none⟩) x0 x1 ph Rin Rout:=by
 have QM:=Q0k (d:=Ph.none) hi
 rw[hq]at QM
 have hw:=((H.ok _ QM).wt w rfl).1
 rcases(show w=2+(ph+1)%2∨w=2+ph%2 by omega)with rfl|rfl
 ·exact H.lets0 hi hq
 ·exact H.lets1 hi hq h0
theorem Q2u.goes(H:Q2u l x0 x1 ph Rin Rout)(hi:i<l.length)(hq:l.getD i Ph.none=⟨false,false,false,false,false,true, .none, .none, .none⟩):Q2u (l.set i ⟨false,false,false,false,false,false, .none, .none, .none⟩) (x0) ((x1+256)%4294967296) (ph) (Rin) (Rout+1):=by
 have QM:=Q0k (d:=Ph.none) hi
 have QA:=fun h j hj hji=>H.alone hi hq h (j:=j) hj hji
 have⟨o8,o9⟩:=H.own hi hq
 rw[hq]at QM
 have QB:=H.bs _ QM
 have QS:=H.sn _ QM
 have QK:=H.ok _ QM
 obtain⟨⟨s0,s1,s2,s3,s4,s5,s6,s7⟩,s8,s9⟩:=H.sums
 have phw:=H.phw
 have x1e:=H.x1
 have cnt:=H.cnt
 have on:=H.on
 have off:=H.off
 have one:=H.one
 have wr:=H.wr
 have ups:=H.ups
 have lv:=H.lv
 have nw:=H.nw
 have e0:=Q0l (f:=wHd) (d:=Ph.none) (x:=⟨false,false,false,false,false,false, .none, .none, .none⟩) hi
 have e1:=Q0l (f:=wIn) (d:=Ph.none) (x:=⟨false,false,false,false,false,false, .none, .none, .none⟩) hi
 have e2:=Q0l (f:=wUp) (d:=Ph.none) (x:=⟨false,false,false,false,false,false, .none, .none, .none⟩) hi
 have e3:=Q0l (f:=wPd) (d:=Ph.none) (x:=⟨false,false,false,false,false,false, .none, .none, .none⟩) hi
 have e4:=Q0l (f:=wA2) (d:=Ph.none) (x:=⟨false,false,false,false,false,false, .none, .none, .none⟩) hi
 have e5:=Q0l (f:=wRd) (d:=Ph.none) (x:=⟨false,false,false,false,false,false, .none, .none, .none⟩) hi
 have e6:=Q0l (f:=Q2Z ph) (d:=Ph.none) (x:=⟨false,false,false,false,false,false, .none, .none, .none⟩) hi
 have e7:=Q0l (f:=Q3g ph) (d:=Ph.none) (x:=⟨false,false,false,false,false,false, .none, .none, .none⟩) hi
 have o0:=Q0m (d:=Ph.none) Q2Y hi
 have o1:=Q0m (d:=Ph.none) Q2l hi
 have o2:=Q0m (d:=Ph.none) Q2r hi
 have o3:=Q0m (d:=Ph.none) Q2Q hi
 have o4:=Q0m (d:=Ph.none) Q2s hi
 have o5:=Q0m (d:=Ph.none) Q2X hi
 have o6:=Q0m (d:=Ph.none) (Q2E (ph:=ph)) hi
 have o7:=Q0m (d:=Ph.none) (Q2F (ph:=ph)) hi
 rw[hq]at e0 e1 e2 e3 e4 e5 e6 e7 o0 o1 o2 o3 o4 o5 o6 o7
 simp only[wHd,wIn,wUp,wPd,wA2,wRd,Q2Z,Q3g,if_true,if_false,Bool.false_eq_true,reduceCtorEq,Option.some.injEq]at e0 e1 e2 e3 e4 e5 e6 e7 o0 o1 o2 o3 o4 o5 o6 o7 o8 o9
 refine⟨by rw[List.length_set];exact H.len,phw,by omega,by omega,by omega,by omega,by omega,by omega,by omega,by omega,by omega,fun q hm=> ?_,fun q hm v hv=> ?_,fun q hm a ha=> ?_⟩
 ·rcases Q0i hi hm with rfl|⟨j,hj,hji,rfl⟩
  ·refine⟨by simp[wHd,wIn,wUp,wPd,wA2],fun w hw=> ?_,fun v hv=> ?_,fun v hv=> ?_,by simp[wUp,wRd]⟩
   ·first|(cases hw;done)|(obtain rfl:=Option.some.inj hw;exact⟨by omega,rfl,rfl⟩)
   ·first|(cases hv;done)|rfl
   ·first|(cases hv;done)|rfl
  ·exact H.ok _ (Q0k hj)
 ·rcases Q0i hi hm with rfl|⟨j,hj,hji,rfl⟩
  ·first|(cases hv;done)|(obtain rfl:=Option.some.inj hv;exact QB _ rfl)
  ·exact H.bs _ (Q0k hj) v hv
 ·rcases Q0i hi hm with rfl|⟨j,hj,hji,rfl⟩
  ·first|(cases ha;done)|(obtain rfl:=Option.some.inj ha;omega)
  ·obtain⟨A,a1,a2⟩:=H.sn _ (Q0k hj) a ha
   exact⟨A,a1,by omega⟩
theorem Q2u.take(H:Q2u l x0 x1 ph Rin Rout)(hi:i<l.length)(hq:l.getD i Ph.none=⟨false,false,false,false,false,false, .none, .none, .none⟩)(h0:ws wHd l=0):Q2u (l.set i ⟨true,false,false,false,false,false, .none, .none, .none⟩) (x0) (x1) (ph) (Rin) (Rout):=by
 have QM:=Q0k (d:=Ph.none) hi
 have QA:=fun h j hj hji=>H.alone hi hq h (j:=j) hj hji
 have⟨o8,o9⟩:=H.own hi hq
 rw[hq]at QM
 have QB:=H.bs _ QM
 have QS:=H.sn _ QM
 have QK:=H.ok _ QM
 obtain⟨⟨s0,s1,s2,s3,s4,s5,s6,s7⟩,s8,s9⟩:=H.sums
 have phw:=H.phw
 have x1e:=H.x1
 have cnt:=H.cnt
 have on:=H.on
 have off:=H.off
 have one:=H.one
 have wr:=H.wr
 have ups:=H.ups
 have lv:=H.lv
 have nw:=H.nw
 have e0:=Q0l (f:=wHd) (d:=Ph.none) (x:=⟨true,false,false,false,false,false, .none, .none, .none⟩) hi
 have e1:=Q0l (f:=wIn) (d:=Ph.none) (x:=⟨true,false,false,false,false,false, .none, .none, .none⟩) hi
 have e2:=Q0l (f:=wUp) (d:=Ph.none) (x:=⟨true,false,false,false,false,false, .none, .none, .none⟩) hi
 have e3:=Q0l (f:=wPd) (d:=Ph.none) (x:=⟨true,false,false,false,false,false, .none, .none, .none⟩) hi
 have e4:=Q0l (f:=wA2) (d:=Ph.none) (x:=⟨true,false,false,false,false,false, .none, .none, .none⟩) hi
 have e5:=Q0l (f:=wRd) (d:=Ph.none) (x:=⟨true,false,false,false,false,false, .none, .none, .none⟩) hi
 have e6:=Q0l (f:=Q2Z ph) (d:=Ph.none) (x:=⟨true,false,false,false,false,false, .none, .none, .none⟩) hi
 have e7:=Q0l (f:=Q3g ph) (d:=Ph.none) (x:=⟨true,false,false,false,false,false, .none, .none, .none⟩) hi
 have o0:=Q0m (d:=Ph.none) Q2Y hi
 have o1:=Q0m (d:=Ph.none) Q2l hi
 have o2:=Q0m (d:=Ph.none) Q2r hi
 have o3:=Q0m (d:=Ph.none) Q2Q hi
 have o4:=Q0m (d:=Ph.none) Q2s hi
 have o5:=Q0m (d:=Ph.none) Q2X hi
 have o6:=Q0m (d:=Ph.none) (Q2E (ph:=ph)) hi
 have o7:=Q0m (d:=Ph.none) (Q2F (ph:=ph)) hi
 rw[hq]at e0 e1 e2 e3 e4 e5 e6 e7 o0 o1 o2 o3 o4 o5 o6 o7
 simp only[wHd,wIn,wUp,wPd,wA2,wRd,Q2Z,Q3g,if_true,if_false,Bool.false_eq_true,reduceCtorEq,Option.some.injEq]at e0 e1 e2 e3 e4 e5 e6 e7 o0 o1 o2 o3 o4 o5 o6 o7 o8 o9
 refine⟨by rw[List.length_set];exact H.len,phw,by omega,by omega,by omega,by omega,by omega,by omega,by omega,by omega,by omega,fun q hm=> ?_,fun q hm v hv=> ?_,fun q hm a ha=> ?_⟩
 ·rcases Q0i hi hm with rfl|⟨j,hj,hji,rfl⟩
  ·refine⟨by simp[wHd,wIn,wUp,wPd,wA2],fun w hw=> ?_,fun v hv=> ?_,fun v hv=> ?_,by simp[wUp,wRd]⟩
   ·first|(cases hw;done)|(obtain rfl:=Option.some.inj hw;exact⟨by omega,rfl,rfl⟩)
   ·first|(cases hv;done)|rfl
   ·first|(cases hv;done)|rfl
  ·exact H.ok _ (Q0k hj)
 ·rcases Q0i hi hm with rfl|⟨j,hj,hji,rfl⟩
  ·first|(cases hv;done)|(obtain rfl:=Option.some.inj hv;exact QB _ rfl)
  ·exact H.bs _ (Q0k hj) v hv
 ·rcases Q0i hi hm with rfl|⟨j,hj,hji,rfl⟩
  ·first|(cases ha;done)|(obtain rfl:=Option.some.inj ha;omega)
  ·obtain⟨A,a1,a2⟩:=H.sn _ (Q0k hj) a ha
   exact⟨A,a1,by omega⟩
theorem Q2u.pass(H:Q2u l x0 x1 ph Rin Rout)(hi:i<l.length)(hq:l.getD i Ph.none=⟨true,false,false,false,false,false, .none, .none, .none⟩):Q2u (l.set i ⟨false,false,false,false,false,false, .none, .none, .none⟩) (x0) (x1) (ph) (Rin) (Rout):=by
 have QM:=Q0k (d:=Ph.none) hi
 have QA:=fun h j hj hji=>H.alone hi hq h (j:=j) hj hji
 have⟨o8,o9⟩:=H.own hi hq
 rw[hq]at QM
 have QB:=H.bs _ QM
 have QS:=H.sn _ QM
 have QK:=H.ok _ QM
 obtain⟨⟨s0,s1,s2,s3,s4,s5,s6,s7⟩,s8,s9⟩:=H.sums
 have phw:=H.phw
 have x1e:=H.x1
 have cnt:=H.cnt
 have on:=H.on
 have off:=H.off
 have one:=H.one
 have wr:=H.wr
 have ups:=H.ups
 have lv:=H.lv
 have nw:=H.nw
 have e0:=Q0l (f:=wHd) (d:=Ph.none) (x:=⟨false,false,false,false,false,false, .none, .none, .none⟩) hi
 have e1:=Q0l (f:=wIn) (d:=Ph.none) (x:=⟨false,false,false,false,false,false, .none, .none, .none⟩) hi
 have e2:=Q0l (f:=wUp) (d:=Ph.none) (x:=⟨false,false,false,false,false,false, .none, .none, .none⟩) hi
 have e3:=Q0l (f:=wPd) (d:=Ph.none) (x:=⟨false,false,false,false,false,false, .none, .none, .none⟩) hi
 have e4:=Q0l (f:=wA2) (d:=Ph.none) (x:=⟨false,false,false,false,false,false, .none, .none, .none⟩) hi
 have e5:=Q0l (f:=wRd) (d:=Ph.none) (x:=⟨false,false,false,false,false,false, .none, .none, .none⟩) hi
 have e6:=Q0l (f:=Q2Z ph) (d:=Ph.none) (x:=⟨false,false,false,false,false,false, .none, .none, .none⟩) hi
 have e7:=Q0l (f:=Q3g ph) (d:=Ph.none) (x:=⟨false,false,false,false,false,false, .none, .none, .none⟩) hi
 have o0:=Q0m (d:=Ph.none) Q2Y hi
 have o1:=Q0m (d:=Ph.none) Q2l hi
 have o2:=Q0m (d:=Ph.none) Q2r hi
 have o3:=Q0m (d:=Ph.none) Q2Q hi
 have o4:=Q0m (d:=Ph.none) Q2s hi
 have o5:=Q0m (d:=Ph.none) Q2X hi
 have o6:=Q0m (d:=Ph.none) (Q2E (ph:=ph)) hi
 have o7:=Q0m (d:=Ph.none) (Q2F (ph:=ph)) hi
 rw[hq]at e0 e1 e2 e3 e4 e5 e6 e7 o0 o1 o2 o3 o4 o5 o6 o7
 simp only[wHd,wIn,wUp,wPd,wA2,wRd,Q2Z,Q3g,if_true,if_false,Bool.false_eq_true,reduceCtorEq,Option.some.injEq]at e0 e1 e2 e3 e4 e5 e6 e7 o0 o1 o2 o3 o4 o5 o6 o7 o8 o9
 refine⟨by rw[List.length_set];exact H.len,phw,by omega,by omega,by omega,by omega,by omega,by omega,by omega,by omega,by omega,fun q hm=> ?_,fun q hm v hv=> ?_,fun q hm a ha=> ?_⟩
 ·rcases Q0i hi hm with rfl|⟨j,hj,hji,rfl⟩
  ·refine⟨by simp[wHd,wIn,wUp,wPd,wA2],fun w hw=> ?_,fun v hv=> ?_,fun v hv=> ?_,by simp[wUp,wRd]⟩
   ·first|(cases hw;done)|(obtain rfl:=Option.some.inj hw;exact⟨by omega,rfl,rfl⟩)
   ·first|(cases hv;done)|rfl
   ·first|(cases hv;done)|rfl
  ·exact H.ok _ (Q0k hj)
 ·rcases Q0i hi hm with rfl|⟨j,hj,hji,rfl⟩
  ·first|(cases hv;done)|(obtain rfl:=Option.some.inj hv;exact QB _ rfl)
  ·exact H.bs _ (Q0k hj) v hv
 ·rcases Q0i hi hm with rfl|⟨j,hj,hji,rfl⟩
  ·first|(cases ha;done)|(obtain rfl:=Option.some.inj ha;omega)
  ·obtain⟨A,a1,a2⟩:=H.sn _ (Q0k hj) a ha
   exact⟨A,a1,by omega⟩
theorem Q2u.phase(H:Q2u l x0 x1 ph Rin Rout)(hi:i<l.length)(hq:l.getD i Ph.none=⟨true,false,false,false,false,false, .none, .none, .none⟩):Q2u (l.set i ⟨true,false,false,false,false,false, .none,some ph, .none⟩) (x0) (x1) (ph) (Rin) (Rout):=by
 have QM:=Q0k (d:=Ph.none) hi
 have QA:=fun h j hj hji=>H.alone hi hq h (j:=j) hj hji
 have⟨o8,o9⟩:=H.own hi hq
 rw[hq]at QM
 have QB:=H.bs _ QM
 have QS:=H.sn _ QM
 have QK:=H.ok _ QM
 obtain⟨⟨s0,s1,s2,s3,s4,s5,s6,s7⟩,s8,s9⟩:=H.sums
 have phw:=H.phw
 have x1e:=H.x1
 have cnt:=H.cnt
 have on:=H.on
 have off:=H.off
 have one:=H.one
 have wr:=H.wr
 have ups:=H.ups
 have lv:=H.lv
 have nw:=H.nw
 have e0:=Q0l (f:=wHd) (d:=Ph.none) (x:=⟨true,false,false,false,false,false, .none,some ph, .none⟩) hi
 have e1:=Q0l (f:=wIn) (d:=Ph.none) (x:=⟨true,false,false,false,false,false, .none,some ph, .none⟩) hi
 have e2:=Q0l (f:=wUp) (d:=Ph.none) (x:=⟨true,false,false,false,false,false, .none,some ph, .none⟩) hi
 have e3:=Q0l (f:=wPd) (d:=Ph.none) (x:=⟨true,false,false,false,false,false, .none,some ph, .none⟩) hi
 have e4:=Q0l (f:=wA2) (d:=Ph.none) (x:=⟨true,false,false,false,false,false, .none,some ph, .none⟩) hi
 have e5:=Q0l (f:=wRd) (d:=Ph.none) (x:=⟨true,false,false,false,false,false, .none,some ph, .none⟩) hi
 have e6:=Q0l (f:=Q2Z ph) (d:=Ph.none) (x:=⟨true,false,false,false,false,false, .none,some ph, .none⟩) hi
 have e7:=Q0l (f:=Q3g ph) (d:=Ph.none) (x:=⟨true,false,false,false,false,false, .none,some ph, .none⟩) hi
 have o0:=Q0m (d:=Ph.none) Q2Y hi
 have o1:=Q0m (d:=Ph.none) Q2l hi
 have o2:=Q0m (d:=Ph.none) Q2r hi
 have o3:=Q0m (d:=Ph.none) Q2Q hi
 have o4:=Q0m (d:=Ph.none) Q2s hi
 have o5:=Q0m (d:=Ph.none) Q2X hi
 have o6:=Q0m (d:=Ph.none) (Q2E (ph:=ph)) hi
 have o7:=Q0m (d:=Ph.none) (Q2F (ph:=ph)) hi
 rw[hq]at e0 e1 e2 e3 e4 e5 e6 e7 o0 o1 o2 o3 o4 o5 o6 o7
 simp only[wHd,wIn,wUp,wPd,wA2,wRd,Q2Z,Q3g,if_true,if_false,Bool.false_eq_true,reduceCtorEq,Option.some.injEq]at e0 e1 e2 e3 e4 e5 e6 e7 o0 o1 o2 o3 o4 o5 o6 o7 o8 o9
 refine⟨by rw[List.length_set];exact H.len,phw,by omega,by omega,by omega,by omega,by omega,by omega,by omega,by omega,by omega,fun q hm=> ?_,fun q hm v hv=> ?_,fun q hm a ha=> ?_⟩
 ·rcases Q0i hi hm with rfl|⟨j,hj,hji,rfl⟩
  ·refine⟨by simp[wHd,wIn,wUp,wPd,wA2],fun w hw=> ?_,fun v hv=> ?_,fun v hv=> ?_,by simp[wUp,wRd]⟩
   ·first|(cases hw;done)|(obtain rfl:=Option.some.inj hw;exact⟨by omega,rfl,rfl⟩)
   ·first|(cases hv;done)|rfl
   ·first|(cases hv;done)|rfl
  ·exact H.ok _ (Q0k hj)
 ·rcases Q0i hi hm with rfl|⟨j,hj,hji,rfl⟩
  ·first|(cases hv;done)|(obtain rfl:=Option.some.inj hv;rfl)
  ·exact H.bs _ (Q0k hj) v hv
 ·rcases Q0i hi hm with rfl|⟨j,hj,hji,rfl⟩
  ·first|(cases ha;done)|(obtain rfl:=Option.some.inj ha;omega)
  ·obtain⟨A,a1,a2⟩:=H.sn _ (Q0k hj) a ha
   exact⟨A,a1,by omega⟩
theorem Q2u.present(H:Q2u l x0 x1 ph Rin Rout){v:Int}(hi:i<l.length)(hq:l.getD i Ph.none=⟨true,false,false,false,false,false, .none,some v, .none⟩):Q2u (l.set i ⟨true,false,false,true,false,false, .none, .none,some x0⟩) ((x0+(2+v%2))%4294967296) (x1) (ph) (Rin) (Rout):=by
 have QM:=Q0k (d:=Ph.none) hi
 have QA:=fun h j hj hji=>H.alone hi hq h (j:=j) hj hji
 have⟨o8,o9⟩:=H.own hi hq
 rw[hq]at QM
 have QB:=H.bs _ QM
 have QS:=H.sn _ QM
 have QK:=H.ok _ QM
 obtain⟨⟨s0,s1,s2,s3,s4,s5,s6,s7⟩,s8,s9⟩:=H.sums
 have phw:=H.phw
 have x1e:=H.x1
 have cnt:=H.cnt
 have on:=H.on
 have off:=H.off
 have one:=H.one
 have wr:=H.wr
 have ups:=H.ups
 have lv:=H.lv
 have nw:=H.nw
 have e0:=Q0l (f:=wHd) (d:=Ph.none) (x:=⟨true,false,false,true,false,false, .none, .none,some x0⟩) hi
 have e1:=Q0l (f:=wIn) (d:=Ph.none) (x:=⟨true,false,false,true,false,false, .none, .none,some x0⟩) hi
 have e2:=Q0l (f:=wUp) (d:=Ph.none) (x:=⟨true,false,false,true,false,false, .none, .none,some x0⟩) hi
 have e3:=Q0l (f:=wPd) (d:=Ph.none) (x:=⟨true,false,false,true,false,false, .none, .none,some x0⟩) hi
 have e4:=Q0l (f:=wA2) (d:=Ph.none) (x:=⟨true,false,false,true,false,false, .none, .none,some x0⟩) hi
 have e5:=Q0l (f:=wRd) (d:=Ph.none) (x:=⟨true,false,false,true,false,false, .none, .none,some x0⟩) hi
 have e6:=Q0l (f:=Q2Z ph) (d:=Ph.none) (x:=⟨true,false,false,true,false,false, .none, .none,some x0⟩) hi
 have e7:=Q0l (f:=Q3g ph) (d:=Ph.none) (x:=⟨true,false,false,true,false,false, .none, .none,some x0⟩) hi
 have o0:=Q0m (d:=Ph.none) Q2Y hi
 have o1:=Q0m (d:=Ph.none) Q2l hi
 have o2:=Q0m (d:=Ph.none) Q2r hi
 have o3:=Q0m (d:=Ph.none) Q2Q hi
 have o4:=Q0m (d:=Ph.none) Q2s hi
 have o5:=Q0m (d:=Ph.none) Q2X hi
 have o6:=Q0m (d:=Ph.none) (Q2E (ph:=ph)) hi
 have o7:=Q0m (d:=Ph.none) (Q2F (ph:=ph)) hi
 rw[hq]at e0 e1 e2 e3 e4 e5 e6 e7 o0 o1 o2 o3 o4 o5 o6 o7
 simp only[wHd,wIn,wUp,wPd,wA2,wRd,Q2Z,Q3g,if_true,if_false,Bool.false_eq_true,reduceCtorEq,Option.some.injEq]at e0 e1 e2 e3 e4 e5 e6 e7 o0 o1 o2 o3 o4 o5 o6 o7 o8 o9
 have hv:=QB _ rfl
 subst hv
 refine⟨by rw[List.length_set];exact H.len,phw,by omega,by omega,by omega,by omega,by omega,by omega,by omega,by omega,by omega,fun q hm=> ?_,fun q hm v hv=> ?_,fun q hm a ha=> ?_⟩
 ·rcases Q0i hi hm with rfl|⟨j,hj,hji,rfl⟩
  ·refine⟨by simp[wHd,wIn,wUp,wPd,wA2],fun w hw=> ?_,fun v hv=> ?_,fun v hv=> ?_,by simp[wUp,wRd]⟩
   ·first|(cases hw;done)|(obtain rfl:=Option.some.inj hw;exact⟨by omega,rfl,rfl⟩)
   ·first|(cases hv;done)|rfl
   ·first|(cases hv;done)|rfl
  ·exact H.ok _ (Q0k hj)
 ·rcases Q0i hi hm with rfl|⟨j,hj,hji,rfl⟩
  ·first|(cases hv;done)|(obtain rfl:=Option.some.inj hv;exact QB _ rfl)
  ·exact H.bs _ (Q0k hj) v hv
 ·rcases Q0i hi hm with rfl|⟨j,hj,hji,rfl⟩
  ·first|(cases ha;done)|(obtain rfl:=Option.some.inj ha;exact⟨Rin,by omega,by omega⟩)
  ·exfalso
   have k1:=QA rfl j hj hji
   have k2:=(H.ok _ (Q0k (d:=Ph.none) hj)).sn a ha
   have k3:=(H.ok _ (Q0k (d:=Ph.none) hj)).some
   have k4:=Q2l (l.getD j Ph.none)
   have k5:=Q2r (l.getD j Ph.none)
   have k6:=Q2s (l.getD j Ph.none)
   simp only[wHd,wPd,k1,k2,if_true,Bool.false_eq_true,if_false]at k3
   omega
theorem Q2u.Y5X(H:Q2u l x0 x1 ph Rin Rout)(hi:i<l.length)(hq:l.getD i Ph.none=⟨false,false,false,false,false,true, .none, .none, .none⟩)(h0:ws wHd l=0):Q2u (l.set i ⟨true,false,false,false,false,true, .none, .none, .none⟩) (x0) (x1) (ph) (Rin) (Rout):=by
 have QM:=Q0k (d:=Ph.none) hi
 have QA:=fun h j hj hji=>H.alone hi hq h (j:=j) hj hji
 have⟨o8,o9⟩:=H.own hi hq
 rw[hq]at QM
 have QB:=H.bs _ QM
 have QS:=H.sn _ QM
 have QK:=H.ok _ QM
 obtain⟨⟨s0,s1,s2,s3,s4,s5,s6,s7⟩,s8,s9⟩:=H.sums
 have phw:=H.phw
 have x1e:=H.x1
 have cnt:=H.cnt
 have on:=H.on
 have off:=H.off
 have one:=H.one
 have wr:=H.wr
 have ups:=H.ups
 have lv:=H.lv
 have nw:=H.nw
 have e0:=Q0l (f:=wHd) (d:=Ph.none) (x:=⟨true,false,false,false,false,true, .none, .none, .none⟩) hi
 have e1:=Q0l (f:=wIn) (d:=Ph.none) (x:=⟨true,false,false,false,false,true, .none, .none, .none⟩) hi
 have e2:=Q0l (f:=wUp) (d:=Ph.none) (x:=⟨true,false,false,false,false,true, .none, .none, .none⟩) hi
 have e3:=Q0l (f:=wPd) (d:=Ph.none) (x:=⟨true,false,false,false,false,true, .none, .none, .none⟩) hi
 have e4:=Q0l (f:=wA2) (d:=Ph.none) (x:=⟨true,false,false,false,false,true, .none, .none, .none⟩) hi
 have e5:=Q0l (f:=wRd) (d:=Ph.none) (x:=⟨true,false,false,false,false,true, .none, .none, .none⟩) hi
 have e6:=Q0l (f:=Q2Z ph) (d:=Ph.none) (x:=⟨true,false,false,false,false,true, .none, .none, .none⟩) hi
 have e7:=Q0l (f:=Q3g ph) (d:=Ph.none) (x:=⟨true,false,false,false,false,true, .none, .none, .none⟩) hi
 have o0:=Q0m (d:=Ph.none) Q2Y hi
 have o1:=Q0m (d:=Ph.none) Q2l hi
 have o2:=Q0m (d:=Ph.none) Q2r hi
 have o3:=Q0m (d:=Ph.none) Q2Q hi
 have o4:=Q0m (d:=Ph.none) Q2s hi
 have o5:=Q0m (d:=Ph.none) Q2X hi
 have o6:=Q0m (d:=Ph.none) (Q2E (ph:=ph)) hi
 have o7:=Q0m (d:=Ph.none) (Q2F (ph:=ph)) hi
 rw[hq]at e0 e1 e2 e3 e4 e5 e6 e7 o0 o1 o2 o3 o4 o5 o6 o7
 simp only[wHd,wIn,wUp,wPd,wA2,wRd,Q2Z,Q3g,if_true,if_false,Bool.false_eq_true,reduceCtorEq,Option.some.injEq]at e0 e1 e2 e3 e4 e5 e6 e7 o0 o1 o2 o3 o4 o5 o6 o7 o8 o9
 refine⟨by rw[List.length_set];exact H.len,phw,by omega,by omega,by omega,by omega,by omega,by omega,by omega,by omega,by omega,fun q hm=> ?_,fun q hm v hv=> ?_,fun q hm a ha=> ?_⟩
 ·rcases Q0i hi hm with rfl|⟨j,hj,hji,rfl⟩
  ·refine⟨by simp[wHd,wIn,wUp,wPd,wA2],fun w hw=> ?_,fun v hv=> ?_,fun v hv=> ?_,by simp[wUp,wRd]⟩
   ·first|(cases hw;done)|(obtain rfl:=Option.some.inj hw;exact⟨by omega,rfl,rfl⟩)
   ·first|(cases hv;done)|rfl
   ·first|(cases hv;done)|rfl
  ·exact H.ok _ (Q0k hj)
 ·rcases Q0i hi hm with rfl|⟨j,hj,hji,rfl⟩
  ·first|(cases hv;done)|(obtain rfl:=Option.some.inj hv;exact QB _ rfl)
  ·exact H.bs _ (Q0k hj) v hv
 ·rcases Q0i hi hm with rfl|⟨j,hj,hji,rfl⟩
  ·first|(cases ha;done)|(obtain rfl:=Option.some.inj ha;omega)
  ·obtain⟨A,a1,a2⟩:=H.sn _ (Q0k hj) a ha
   exact⟨A,a1,by omega⟩
theorem Q2u.X5u(H:Q2u l x0 x1 ph Rin Rout)(hi:i<l.length)(hq:l.getD i Ph.none=⟨true,false,false,false,false,true, .none, .none, .none⟩):Q2u (l.set i ⟨false,false,false,false,false,true, .none, .none, .none⟩) (x0) (x1) (ph) (Rin) (Rout):=by
 have QM:=Q0k (d:=Ph.none) hi
 have QA:=fun h j hj hji=>H.alone hi hq h (j:=j) hj hji
 have⟨o8,o9⟩:=H.own hi hq
 rw[hq]at QM
 have QB:=H.bs _ QM
 have QS:=H.sn _ QM
 have QK:=H.ok _ QM
 obtain⟨⟨s0,s1,s2,s3,s4,s5,s6,s7⟩,s8,s9⟩:=H.sums
 have phw:=H.phw
 have x1e:=H.x1
 have cnt:=H.cnt
 have on:=H.on
 have off:=H.off
 have one:=H.one
 have wr:=H.wr
 have ups:=H.ups
 have lv:=H.lv
 have nw:=H.nw
 have e0:=Q0l (f:=wHd) (d:=Ph.none) (x:=⟨false,false,false,false,false,true, .none, .none, .none⟩) hi
 have e1:=Q0l (f:=wIn) (d:=Ph.none) (x:=⟨false,false,false,false,false,true, .none, .none, .none⟩) hi
 have e2:=Q0l (f:=wUp) (d:=Ph.none) (x:=⟨false,false,false,false,false,true, .none, .none, .none⟩) hi
 have e3:=Q0l (f:=wPd) (d:=Ph.none) (x:=⟨false,false,false,false,false,true, .none, .none, .none⟩) hi
 have e4:=Q0l (f:=wA2) (d:=Ph.none) (x:=⟨false,false,false,false,false,true, .none, .none, .none⟩) hi
 have e5:=Q0l (f:=wRd) (d:=Ph.none) (x:=⟨false,false,false,false,false,true, .none, .none, .none⟩) hi
 have e6:=Q0l (f:=Q2Z ph) (d:=Ph.none) (x:=⟨false,false,false,false,false,true, .none, .none, .none⟩) hi
 have e7:=Q0l (f:=Q3g ph) (d:=Ph.none) (x:=⟨false,false,false,false,false,true, .none, .none, .none⟩) hi
 have o0:=Q0m (d:=Ph.none) Q2Y hi
 have o1:=Q0m (d:=Ph.none) Q2l hi
 have o2:=Q0m (d:=Ph.none) Q2r hi
 have o3:=Q0m (d:=Ph.none) Q2Q hi
 have o4:=Q0m (d:=Ph.none) Q2s hi
 have o5:=Q0m (d:=Ph.none) Q2X hi
 have o6:=Q0m (d:=Ph.none) (Q2E (ph:=ph)) hi
 have o7:=Q0m (d:=Ph.none) (Q2F (ph:=ph)) hi
 rw[hq]at e0 e1 e2 e3 e4 e5 e6 e7 o0 o1 o2 o3 o4 o5 o6 o7
 simp only[wHd,wIn,wUp,wPd,wA2,wRd,Q2Z,Q3g,if_true,if_false,Bool.false_eq_true,reduceCtorEq,Option.some.injEq]at e0 e1 e2 e3 e4 e5 e6 e7 o0 o1 o2 o3 o4 o5 o6 o7 o8 o9
 refine⟨by rw[List.length_set];exact H.len,phw,by omega,by omega,by omega,by omega,by omega,by omega,by omega,by omega,by omega,fun q hm=> ?_,fun q hm v hv=> ?_,fun q hm a ha=> ?_⟩
 ·rcases Q0i hi hm with rfl|⟨j,hj,hji,rfl⟩
  ·refine⟨by simp[wHd,wIn,wUp,wPd,wA2],fun w hw=> ?_,fun v hv=> ?_,fun v hv=> ?_,by simp[wUp,wRd]⟩
   ·first|(cases hw;done)|(obtain rfl:=Option.some.inj hw;exact⟨by omega,rfl,rfl⟩)
   ·first|(cases hv;done)|rfl
   ·first|(cases hv;done)|rfl
  ·exact H.ok _ (Q0k hj)
 ·rcases Q0i hi hm with rfl|⟨j,hj,hji,rfl⟩
  ·first|(cases hv;done)|(obtain rfl:=Option.some.inj hv;exact QB _ rfl)
  ·exact H.bs _ (Q0k hj) v hv
 ·rcases Q0i hi hm with rfl|⟨j,hj,hji,rfl⟩
  ·first|(cases ha;done)|(obtain rfl:=Option.some.inj ha;omega)
  ·obtain⟨A,a1,a2⟩:=H.sn _ (Q0k hj) a ha
   exact⟨A,a1,by omega⟩
theorem Q2u.Y2l(H:Q2u l x0 x1 ph Rin Rout)(hi:i<l.length)(hq:l.getD i Ph.none=⟨true,false,false,false,false,true, .none, .none, .none⟩):Q2u (l.set i ⟨true,false,false,false,false,true, .none,some ph, .none⟩) (x0) (x1) (ph) (Rin) (Rout):=by
 have QM:=Q0k (d:=Ph.none) hi
 have QA:=fun h j hj hji=>H.alone hi hq h (j:=j) hj hji
 have⟨o8,o9⟩:=H.own hi hq
 rw[hq]at QM
 have QB:=H.bs _ QM
 have QS:=H.sn _ QM
 have QK:=H.ok _ QM
 obtain⟨⟨s0,s1,s2,s3,s4,s5,s6,s7⟩,s8,s9⟩:=H.sums
 have phw:=H.phw
 have x1e:=H.x1
 have cnt:=H.cnt
 have on:=H.on
 have off:=H.off
 have one:=H.one
 have wr:=H.wr
 have ups:=H.ups
 have lv:=H.lv
 have nw:=H.nw
 have e0:=Q0l (f:=wHd) (d:=Ph.none) (x:=⟨true,false,false,false,false,true, .none,some ph, .none⟩) hi
 have e1:=Q0l (f:=wIn) (d:=Ph.none) (x:=⟨true,false,false,false,false,true, .none,some ph, .none⟩) hi
 have e2:=Q0l (f:=wUp) (d:=Ph.none) (x:=⟨true,false,false,false,false,true, .none,some ph, .none⟩) hi
 have e3:=Q0l (f:=wPd) (d:=Ph.none) (x:=⟨true,false,false,false,false,true, .none,some ph, .none⟩) hi
 have e4:=Q0l (f:=wA2) (d:=Ph.none) (x:=⟨true,false,false,false,false,true, .none,some ph, .none⟩) hi
 have e5:=Q0l (f:=wRd) (d:=Ph.none) (x:=⟨true,false,false,false,false,true, .none,some ph, .none⟩) hi
 have e6:=Q0l (f:=Q2Z ph) (d:=Ph.none) (x:=⟨true,false,false,false,false,true, .none,some ph, .none⟩) hi
 have e7:=Q0l (f:=Q3g ph) (d:=Ph.none) (x:=⟨true,false,false,false,false,true, .none,some ph, .none⟩) hi
 have o0:=Q0m (d:=Ph.none) Q2Y hi
 have o1:=Q0m (d:=Ph.none) Q2l hi
 have o2:=Q0m (d:=Ph.none) Q2r hi
 have o3:=Q0m (d:=Ph.none) Q2Q hi
 have o4:=Q0m (d:=Ph.none) Q2s hi
 have o5:=Q0m (d:=Ph.none) Q2X hi
 have o6:=Q0m (d:=Ph.none) (Q2E (ph:=ph)) hi
 have o7:=Q0m (d:=Ph.none) (Q2F (ph:=ph)) hi
 rw[hq]at e0 e1 e2 e3 e4 e5 e6 e7 o0 o1 o2 o3 o4 o5 o6 o7
 simp only[wHd,wIn,wUp,wPd,wA2,wRd,Q2Z,Q3g,if_true,if_false,Bool.false_eq_true,reduceCtorEq,Option.some.injEq]at e0 e1 e2 e3 e4 e5 e6 e7 o0 o1 o2 o3 o4 o5 o6 o7 o8 o9
 refine⟨by rw[List.length_set];exact H.len,phw,by omega,by omega,by omega,by omega,by omega,by omega,by omega,by omega,by omega,fun q hm=> ?_,fun q hm v hv=> ?_,fun q hm a ha=> ?_⟩
 ·rcases Q0i hi hm with rfl|⟨j,hj,hji,rfl⟩
  ·refine⟨by simp[wHd,wIn,wUp,wPd,wA2],fun w hw=> ?_,fun v hv=> ?_,fun v hv=> ?_,by simp[wUp,wRd]⟩
   ·first|(cases hw;done)|(obtain rfl:=Option.some.inj hw;exact⟨by omega,rfl,rfl⟩)
   ·first|(cases hv;done)|rfl
   ·first|(cases hv;done)|rfl
  ·exact H.ok _ (Q0k hj)
 ·rcases Q0i hi hm with rfl|⟨j,hj,hji,rfl⟩
  ·first|(cases hv;done)|(obtain rfl:=Option.some.inj hv;rfl)
  ·exact H.bs _ (Q0k hj) v hv
 ·rcases Q0i hi hm with rfl|⟨j,hj,hji,rfl⟩
  ·first|(cases ha;done)|(obtain rfl:=Option.some.inj ha;omega)
  ·obtain⟨A,a1,a2⟩:=H.sn _ (Q0k hj) a ha
   exact⟨A,a1,by omega⟩
theorem Q2u.X3G(H:Q2u l x0 x1 ph Rin Rout){v:Int}(hi:i<l.length)(hq:l.getD i Ph.none=⟨true,false,false,false,false,true, .none,some v, .none⟩):Q2u (l.set i ⟨true,false,false,true,false,true, .none, .none,some x0⟩) ((x0+(2+v%2))%4294967296) (x1) (ph) (Rin) (Rout):=by
 have QM:=Q0k (d:=Ph.none) hi
 have QA:=fun h j hj hji=>H.alone hi hq h (j:=j) hj hji
 have⟨o8,o9⟩:=H.own hi hq
 rw[hq]at QM
 have QB:=H.bs _ QM
 have QS:=H.sn _ QM
 have QK:=H.ok _ QM
 obtain⟨⟨s0,s1,s2,s3,s4,s5,s6,s7⟩,s8,s9⟩:=H.sums
 have phw:=H.phw
 have x1e:=H.x1
 have cnt:=H.cnt
 have on:=H.on
 have off:=H.off
 have one:=H.one
 have wr:=H.wr
 have ups:=H.ups
 have lv:=H.lv
 have nw:=H.nw
 have e0:=Q0l (f:=wHd) (d:=Ph.none) (x:=⟨true,false,false,true,false,true, .none, .none,some x0⟩) hi
 have e1:=Q0l (f:=wIn) (d:=Ph.none) (x:=⟨true,false,false,true,false,true, .none, .none,some x0⟩) hi
 have e2:=Q0l (f:=wUp) (d:=Ph.none) (x:=⟨true,false,false,true,false,true, .none, .none,some x0⟩) hi
 have e3:=Q0l (f:=wPd) (d:=Ph.none) (x:=⟨true,false,false,true,false,true, .none, .none,some x0⟩) hi
 have e4:=Q0l (f:=wA2) (d:=Ph.none) (x:=⟨true,false,false,true,false,true, .none, .none,some x0⟩) hi
 have e5:=Q0l (f:=wRd) (d:=Ph.none) (x:=⟨true,false,false,true,false,true, .none, .none,some x0⟩) hi
 have e6:=Q0l (f:=Q2Z ph) (d:=Ph.none) (x:=⟨true,false,false,true,false,true, .none, .none,some x0⟩) hi
 have e7:=Q0l (f:=Q3g ph) (d:=Ph.none) (x:=⟨true,false,false,true,false,true, .none, .none,some x0⟩) hi
 have o0:=Q0m (d:=Ph.none) Q2Y hi
 have o1:=Q0m (d:=Ph.none) Q2l hi
 have o2:=Q0m (d:=Ph.none) Q2r hi
 have o3:=Q0m (d:=Ph.none) Q2Q hi
 have o4:=Q0m (d:=Ph.none) Q2s hi
 have o5:=Q0m (d:=Ph.none) Q2X hi
 have o6:=Q0m (d:=Ph.none) (Q2E (ph:=ph)) hi
 have o7:=Q0m (d:=Ph.none) (Q2F (ph:=ph)) hi
 rw[hq]at e0 e1 e2 e3 e4 e5 e6 e7 o0 o1 o2 o3 o4 o5 o6 o7
 simp only[wHd,wIn,wUp,wPd,wA2,wRd,Q2Z,Q3g,if_true,if_false,Bool.false_eq_true,reduceCtorEq,Option.some.injEq]at e0 e1 e2 e3 e4 e5 e6 e7 o0 o1 o2 o3 o4 o5 o6 o7 o8 o9
 have hv:=QB _ rfl
 subst hv
 refine⟨by rw[List.length_set];exact H.len,phw,by omega,by omega,by omega,by omega,by omega,by omega,by omega,by omega,by omega,fun q hm=> ?_,fun q hm v hv=> ?_,fun q hm a ha=> ?_⟩
 ·rcases Q0i hi hm with rfl|⟨j,hj,hji,rfl⟩
  ·refine⟨by simp[wHd,wIn,wUp,wPd,wA2],fun w hw=> ?_,fun v hv=> ?_,fun v hv=> ?_,by simp[wUp,wRd]⟩
   ·first|(cases hw;done)|(obtain rfl:=Option.some.inj hw;exact⟨by omega,rfl,rfl⟩)
   ·first|(cases hv;done)|rfl
   ·first|(cases hv;done)|rfl
  ·exact H.ok _ (Q0k hj)
 ·rcases Q0i hi hm with rfl|⟨j,hj,hji,rfl⟩
  ·first|(cases hv;done)|(obtain rfl:=Option.some.inj hv;exact QB _ rfl)
  ·exact H.bs _ (Q0k hj) v hv
 ·rcases Q0i hi hm with rfl|⟨j,hj,hji,rfl⟩
  ·first|(cases ha;done)|(obtain rfl:=Option.some.inj ha;exact⟨Rin,by omega,by omega⟩)
  ·exfalso
   have k1:=QA rfl j hj hji
   have k2:=(H.ok _ (Q0k (d:=Ph.none) hj)).sn a ha
   have k3:=(H.ok _ (Q0k (d:=Ph.none) hj)).some
   have k4:=Q2l (l.getD j Ph.none)
   have k5:=Q2r (l.getD j Ph.none)
   have k6:=Q2s (l.getD j Ph.none)
   simp only[wHd,wPd,k1,k2,if_true,Bool.false_eq_true,if_false]at k3
   omega
theorem Q2u.X3K(H:Q2u l x0 x1 ph Rin Rout)(hi:i<l.length)(hq:l.getD i Ph.none=⟨true,true,false,false,false,false, .none, .none, .none⟩):Q2u (l.set i ⟨true,true,false,false,false,false, .none,some ph, .none⟩) (x0) (x1) (ph) (Rin) (Rout):=by
 have QM:=Q0k (d:=Ph.none) hi
 have QA:=fun h j hj hji=>H.alone hi hq h (j:=j) hj hji
 have⟨o8,o9⟩:=H.own hi hq
 rw[hq]at QM
 have QB:=H.bs _ QM
 have QS:=H.sn _ QM
 have QK:=H.ok _ QM
 obtain⟨⟨s0,s1,s2,s3,s4,s5,s6,s7⟩,s8,s9⟩:=H.sums
 have phw:=H.phw
 have x1e:=H.x1
 have cnt:=H.cnt
 have on:=H.on
 have off:=H.off
 have one:=H.one
 have wr:=H.wr
 have ups:=H.ups
 have lv:=H.lv
 have nw:=H.nw
 have e0:=Q0l (f:=wHd) (d:=Ph.none) (x:=⟨true,true,false,false,false,false, .none,some ph, .none⟩) hi
 have e1:=Q0l (f:=wIn) (d:=Ph.none) (x:=⟨true,true,false,false,false,false, .none,some ph, .none⟩) hi
 have e2:=Q0l (f:=wUp) (d:=Ph.none) (x:=⟨true,true,false,false,false,false, .none,some ph, .none⟩) hi
 have e3:=Q0l (f:=wPd) (d:=Ph.none) (x:=⟨true,true,false,false,false,false, .none,some ph, .none⟩) hi
 have e4:=Q0l (f:=wA2) (d:=Ph.none) (x:=⟨true,true,false,false,false,false, .none,some ph, .none⟩) hi
 have e5:=Q0l (f:=wRd) (d:=Ph.none) (x:=⟨true,true,false,false,false,false, .none,some ph, .none⟩) hi
 have e6:=Q0l (f:=Q2Z ph) (d:=Ph.none) (x:=⟨true,true,false,false,false,false, .none,some ph, .none⟩) hi
 have e7:=Q0l (f:=Q3g ph) (d:=Ph.none) (x:=⟨true,true,false,false,false,false, .none,some ph, .none⟩) hi
 have o0:=Q0m (d:=Ph.none) Q2Y hi
 have o1:=Q0m (d:=Ph.none) Q2l hi
 have o2:=Q0m (d:=Ph.none) Q2r hi
 have o3:=Q0m (d:=Ph.none) Q2Q hi
 have o4:=Q0m (d:=Ph.none) Q2s hi
 have o5:=Q0m (d:=Ph.none) Q2X hi
 have o6:=Q0m (d:=Ph.none) (Q2E (ph:=ph)) hi
 have o7:=Q0m (d:=Ph.none) (Q2F (ph:=ph)) hi
 rw[hq]at e0 e1 e2 e3 e4 e5 e6 e7 o0 o1 o2 o3 o4 o5 o6 o7
 simp only[wHd,wIn,wUp,wPd,wA2,wRd,Q2Z,Q3g,if_true,if_false,Bool.false_eq_true,reduceCtorEq,Option.some.injEq]at e0 e1 e2 e3 e4 e5 e6 e7 o0 o1 o2 o3 o4 o5 o6 o7 o8 o9
 refine⟨by rw[List.length_set];exact H.len,phw,by omega,by omega,by omega,by omega,by omega,by omega,by omega,by omega,by omega,fun q hm=> ?_,fun q hm v hv=> ?_,fun q hm a ha=> ?_⟩
 ·rcases Q0i hi hm with rfl|⟨j,hj,hji,rfl⟩
  ·refine⟨by simp[wHd,wIn,wUp,wPd,wA2],fun w hw=> ?_,fun v hv=> ?_,fun v hv=> ?_,by simp[wUp,wRd]⟩
   ·first|(cases hw;done)|(obtain rfl:=Option.some.inj hw;exact⟨by omega,rfl,rfl⟩)
   ·first|(cases hv;done)|rfl
   ·first|(cases hv;done)|rfl
  ·exact H.ok _ (Q0k hj)
 ·rcases Q0i hi hm with rfl|⟨j,hj,hji,rfl⟩
  ·first|(cases hv;done)|(obtain rfl:=Option.some.inj hv;rfl)
  ·exact H.bs _ (Q0k hj) v hv
 ·rcases Q0i hi hm with rfl|⟨j,hj,hji,rfl⟩
  ·first|(cases ha;done)|(obtain rfl:=Option.some.inj ha;omega)
  ·obtain⟨A,a1,a2⟩:=H.sn _ (Q0k hj) a ha
   exact⟨A,a1,by omega⟩
theorem Q2u.Y1J(H:Q2u l x0 x1 ph Rin Rout){a:Int}(hi:i<l.length)(hq:l.getD i Ph.none=⟨true,false,false,true,false,false, .none, .none,some a⟩)(h0:x1=a):Q2u (l.set i ⟨true,true,false,false,false,false, .none, .none, .none⟩) (x0) (x1) (ph) (Rin) (Rout):=by
 have QM:=Q0k (d:=Ph.none) hi
 have QA:=fun h j hj hji=>H.alone hi hq h (j:=j) hj hji
 have⟨o8,o9⟩:=H.own hi hq
 rw[hq]at QM
 have QB:=H.bs _ QM
 have QS:=H.sn _ QM
 have QK:=H.ok _ QM
 obtain⟨⟨s0,s1,s2,s3,s4,s5,s6,s7⟩,s8,s9⟩:=H.sums
 have phw:=H.phw
 have x1e:=H.x1
 have cnt:=H.cnt
 have on:=H.on
 have off:=H.off
 have one:=H.one
 have wr:=H.wr
 have ups:=H.ups
 have lv:=H.lv
 have nw:=H.nw
 have e0:=Q0l (f:=wHd) (d:=Ph.none) (x:=⟨true,true,false,false,false,false, .none, .none, .none⟩) hi
 have e1:=Q0l (f:=wIn) (d:=Ph.none) (x:=⟨true,true,false,false,false,false, .none, .none, .none⟩) hi
 have e2:=Q0l (f:=wUp) (d:=Ph.none) (x:=⟨true,true,false,false,false,false, .none, .none, .none⟩) hi
 have e3:=Q0l (f:=wPd) (d:=Ph.none) (x:=⟨true,true,false,false,false,false, .none, .none, .none⟩) hi
 have e4:=Q0l (f:=wA2) (d:=Ph.none) (x:=⟨true,true,false,false,false,false, .none, .none, .none⟩) hi
 have e5:=Q0l (f:=wRd) (d:=Ph.none) (x:=⟨true,true,false,false,false,false, .none, .none, .none⟩) hi
 have e6:=Q0l (f:=Q2Z ph) (d:=Ph.none) (x:=⟨true,true,false,false,false,false, .none, .none, .none⟩) hi
 have e7:=Q0l (f:=Q3g ph) (d:=Ph.none) (x:=⟨true,true,false,false,false,false, .none, .none, .none⟩) hi
 have o0:=Q0m (d:=Ph.none) Q2Y hi
 have o1:=Q0m (d:=Ph.none) Q2l hi
 have o2:=Q0m (d:=Ph.none) Q2r hi
 have o3:=Q0m (d:=Ph.none) Q2Q hi
 have o4:=Q0m (d:=Ph.none) Q2s hi
 have o5:=Q0m (d:=Ph.none) Q2X hi
 have o6:=Q0m (d:=Ph.none) (Q2E (ph:=ph)) hi
 have o7:=Q0m (d:=Ph.none) (Q2F (ph:=ph)) hi
 rw[hq]at e0 e1 e2 e3 e4 e5 e6 e7 o0 o1 o2 o3 o4 o5 o6 o7
 simp only[wHd,wIn,wUp,wPd,wA2,wRd,Q2Z,Q3g,if_true,if_false,Bool.false_eq_true,reduceCtorEq,Option.some.injEq]at e0 e1 e2 e3 e4 e5 e6 e7 o0 o1 o2 o3 o4 o5 o6 o7 o8 o9
 obtain⟨A,a1,a2⟩:=QS a rfl
 refine⟨by rw[List.length_set];exact H.len,phw,by omega,by omega,by omega,by omega,by omega,by omega,by omega,by omega,by omega,fun q hm=> ?_,fun q hm v hv=> ?_,fun q hm a ha=> ?_⟩
 ·rcases Q0i hi hm with rfl|⟨j,hj,hji,rfl⟩
  ·refine⟨by simp[wHd,wIn,wUp,wPd,wA2],fun w hw=> ?_,fun v hv=> ?_,fun v hv=> ?_,by simp[wUp,wRd]⟩
   ·first|(cases hw;done)|(obtain rfl:=Option.some.inj hw;exact⟨by omega,rfl,rfl⟩)
   ·first|(cases hv;done)|rfl
   ·first|(cases hv;done)|rfl
  ·exact H.ok _ (Q0k hj)
 ·rcases Q0i hi hm with rfl|⟨j,hj,hji,rfl⟩
  ·first|(cases hv;done)|(obtain rfl:=Option.some.inj hv;exact QB _ rfl)
  ·exact H.bs _ (Q0k hj) v hv
 ·rcases Q0i hi hm with rfl|⟨j,hj,hji,rfl⟩
  ·first|(cases ha;done)|(obtain rfl:=Option.some.inj ha;omega)
  ·exfalso
   have k1:=QA rfl j hj hji
   have k2:=(H.ok _ (Q0k (d:=Ph.none) hj)).sn a ha
   have k3:=(H.ok _ (Q0k (d:=Ph.none) hj)).some
   have k4:=Q2l (l.getD j Ph.none)
   have k5:=Q2r (l.getD j Ph.none)
   have k6:=Q2s (l.getD j Ph.none)
   simp only[wHd,wPd,k1,k2,if_true,Bool.false_eq_true,if_false]at k3
   omega
theorem Q2u.Y2B(H:Q2u l x0 x1 ph Rin Rout){a:Int}(hi:i<l.length)(hq:l.getD i Ph.none=⟨true,false,false,true,false,true, .none, .none,some a⟩)(h0:x1=(a-256)%4294967296):Q2u (l.set i ⟨true,false,true,false,false,true, .none, .none, .none⟩) (x0) (x1) (ph) (Rin) (Rout):=by
 have QM:=Q0k (d:=Ph.none) hi
 have QA:=fun h j hj hji=>H.alone hi hq h (j:=j) hj hji
 have⟨o8,o9⟩:=H.own hi hq
 rw[hq]at QM
 have QB:=H.bs _ QM
 have QS:=H.sn _ QM
 have QK:=H.ok _ QM
 obtain⟨⟨s0,s1,s2,s3,s4,s5,s6,s7⟩,s8,s9⟩:=H.sums
 have phw:=H.phw
 have x1e:=H.x1
 have cnt:=H.cnt
 have on:=H.on
 have off:=H.off
 have one:=H.one
 have wr:=H.wr
 have ups:=H.ups
 have lv:=H.lv
 have nw:=H.nw
 have e0:=Q0l (f:=wHd) (d:=Ph.none) (x:=⟨true,false,true,false,false,true, .none, .none, .none⟩) hi
 have e1:=Q0l (f:=wIn) (d:=Ph.none) (x:=⟨true,false,true,false,false,true, .none, .none, .none⟩) hi
 have e2:=Q0l (f:=wUp) (d:=Ph.none) (x:=⟨true,false,true,false,false,true, .none, .none, .none⟩) hi
 have e3:=Q0l (f:=wPd) (d:=Ph.none) (x:=⟨true,false,true,false,false,true, .none, .none, .none⟩) hi
 have e4:=Q0l (f:=wA2) (d:=Ph.none) (x:=⟨true,false,true,false,false,true, .none, .none, .none⟩) hi
 have e5:=Q0l (f:=wRd) (d:=Ph.none) (x:=⟨true,false,true,false,false,true, .none, .none, .none⟩) hi
 have e6:=Q0l (f:=Q2Z ph) (d:=Ph.none) (x:=⟨true,false,true,false,false,true, .none, .none, .none⟩) hi
 have e7:=Q0l (f:=Q3g ph) (d:=Ph.none) (x:=⟨true,false,true,false,false,true, .none, .none, .none⟩) hi
 have o0:=Q0m (d:=Ph.none) Q2Y hi
 have o1:=Q0m (d:=Ph.none) Q2l hi
 have o2:=Q0m (d:=Ph.none) Q2r hi
 have o3:=Q0m (d:=Ph.none) Q2Q hi
 have o4:=Q0m (d:=Ph.none) Q2s hi
 have o5:=Q0m (d:=Ph.none) Q2X hi
 have o6:=Q0m (d:=Ph.none) (Q2E (ph:=ph)) hi
 have o7:=Q0m (d:=Ph.none) (Q2F (ph:=ph)) hi
 rw[hq]at e0 e1 e2 e3 e4 e5 e6 e7 o0 o1 o2 o3 o4 o5 o6 o7
 simp only[wHd,wIn,wUp,wPd,wA2,wRd,Q2Z,Q3g,if_true,if_false,Bool.false_eq_true,reduceCtorEq,Option.some.injEq]at e0 e1 e2 e3 e4 e5 e6 e7 o0 o1 o2 o3 o4 o5 o6 o7 o8 o9
 obtain⟨A,a1,a2⟩:=QS a rfl
 refine⟨by rw[List.length_set];exact H.len,phw,by omega,by omega,by omega,by omega,by omega,by omega,by omega,by omega,by omega,fun q hm=> ?_,fun q hm v hv=> ?_,fun q hm a ha=> ?_⟩
 ·rcases Q0i hi hm with rfl|⟨j,hj,hji,rfl⟩
  ·refine⟨by simp[wHd,wIn,wUp,wPd,wA2],fun w hw=> ?_,fun v hv=> ?_,fun v hv=> ?_,by simp[wUp,wRd]⟩
   ·first|(cases hw;done)|(obtain rfl:=Option.some.inj hw;exact⟨by omega,rfl,rfl⟩)
   ·first|(cases hv;done)|rfl
   ·first|(cases hv;done)|rfl
  ·exact H.ok _ (Q0k hj)
 ·rcases Q0i hi hm with rfl|⟨j,hj,hji,rfl⟩
  ·first|(cases hv;done)|(obtain rfl:=Option.some.inj hv;exact QB _ rfl)
  ·exact H.bs _ (Q0k hj) v hv
 ·rcases Q0i hi hm with rfl|⟨j,hj,hji,rfl⟩
  ·first|(cases ha;done)|(obtain rfl:=Option.some.inj ha;omega)
  ·exfalso
   have k1:=QA rfl j hj hji
   have k2:=(H.ok _ (Q0k (d:=Ph.none) hj)).sn a ha
   have k3:=(H.ok _ (Q0k (d:=Ph.none) hj)).some
   have k4:=Q2l (l.getD j Ph.none)
   have k5:=Q2r (l.getD j Ph.none)
   have k6:=Q2s (l.getD j Ph.none)
   simp only[wHd,wPd,k1,k2,if_true,Bool.false_eq_true,if_false]at k3
   omega
theorem Q2u.leave(H:Q2u l x0 x1 ph Rin Rout){v:Int}(hi:i<l.length)(hq:l.getD i Ph.none=⟨true,true,false,false,false,false, .none,some v, .none⟩):Q2u (l.set i ⟨true,false,false,false,true,false, .none,some v, .none⟩) ((x0+ -(2+v%2)%4294967296)%4294967296) (x1) (ph) (Rin) (Rout):=by
 have QM:=Q0k (d:=Ph.none) hi
 have QA:=fun h j hj hji=>H.alone hi hq h (j:=j) hj hji
 have⟨o8,o9⟩:=H.own hi hq
 rw[hq]at QM
 have QB:=H.bs _ QM
 have QS:=H.sn _ QM
 have QK:=H.ok _ QM
 obtain⟨⟨s0,s1,s2,s3,s4,s5,s6,s7⟩,s8,s9⟩:=H.sums
 have phw:=H.phw
 have x1e:=H.x1
 have cnt:=H.cnt
 have on:=H.on
 have off:=H.off
 have one:=H.one
 have wr:=H.wr
 have ups:=H.ups
 have lv:=H.lv
 have nw:=H.nw
 have e0:=Q0l (f:=wHd) (d:=Ph.none) (x:=⟨true,false,false,false,true,false, .none,some v, .none⟩) hi
 have e1:=Q0l (f:=wIn) (d:=Ph.none) (x:=⟨true,false,false,false,true,false, .none,some v, .none⟩) hi
 have e2:=Q0l (f:=wUp) (d:=Ph.none) (x:=⟨true,false,false,false,true,false, .none,some v, .none⟩) hi
 have e3:=Q0l (f:=wPd) (d:=Ph.none) (x:=⟨true,false,false,false,true,false, .none,some v, .none⟩) hi
 have e4:=Q0l (f:=wA2) (d:=Ph.none) (x:=⟨true,false,false,false,true,false, .none,some v, .none⟩) hi
 have e5:=Q0l (f:=wRd) (d:=Ph.none) (x:=⟨true,false,false,false,true,false, .none,some v, .none⟩) hi
 have e6:=Q0l (f:=Q2Z ph) (d:=Ph.none) (x:=⟨true,false,false,false,true,false, .none,some v, .none⟩) hi
 have e7:=Q0l (f:=Q3g ph) (d:=Ph.none) (x:=⟨true,false,false,false,true,false, .none,some v, .none⟩) hi
 have o0:=Q0m (d:=Ph.none) Q2Y hi
 have o1:=Q0m (d:=Ph.none) Q2l hi
 have o2:=Q0m (d:=Ph.none) Q2r hi
 have o3:=Q0m (d:=Ph.none) Q2Q hi
 have o4:=Q0m (d:=Ph.none) Q2s hi
 have o5:=Q0m (d:=Ph.none) Q2X hi
 have o6:=Q0m (d:=Ph.none) (Q2E (ph:=ph)) hi
 have o7:=Q0m (d:=Ph.none) (Q2F (ph:=ph)) hi
 rw[hq]at e0 e1 e2 e3 e4 e5 e6 e7 o0 o1 o2 o3 o4 o5 o6 o7
 simp only[wHd,wIn,wUp,wPd,wA2,wRd,Q2Z,Q3g,if_true,if_false,Bool.false_eq_true,reduceCtorEq,Option.some.injEq]at e0 e1 e2 e3 e4 e5 e6 e7 o0 o1 o2 o3 o4 o5 o6 o7 o8 o9
 have hv:=QB _ rfl
 subst hv
 refine⟨by rw[List.length_set];exact H.len,phw,by omega,by omega,by omega,by omega,by omega,by omega,by omega,by omega,by omega,fun q hm=> ?_,fun q hm v hv=> ?_,fun q hm a ha=> ?_⟩
 ·rcases Q0i hi hm with rfl|⟨j,hj,hji,rfl⟩
  ·refine⟨by simp[wHd,wIn,wUp,wPd,wA2],fun w hw=> ?_,fun v hv=> ?_,fun v hv=> ?_,by simp[wUp,wRd]⟩
   ·first|(cases hw;done)|(obtain rfl:=Option.some.inj hw;exact⟨by omega,rfl,rfl⟩)
   ·first|(cases hv;done)|rfl
   ·first|(cases hv;done)|rfl
  ·exact H.ok _ (Q0k hj)
 ·rcases Q0i hi hm with rfl|⟨j,hj,hji,rfl⟩
  ·first|(cases hv;done)|(obtain rfl:=Option.some.inj hv;rfl)
  ·exact H.bs _ (Q0k hj) v hv
 ·rcases Q0i hi hm with rfl|⟨j,hj,hji,rfl⟩
  ·first|(cases ha;done)|(obtain rfl:=Option.some.inj ha;omega)
  ·exfalso
   have k1:=QA rfl j hj hji
   have k2:=(H.ok _ (Q0k (d:=Ph.none) hj)).sn a ha
   have k3:=(H.ok _ (Q0k (d:=Ph.none) hj)).some
   have k4:=Q2l (l.getD j Ph.none)
   have k5:=Q2r (l.getD j Ph.none)
   have k6:=Q2s (l.getD j Ph.none)
   simp only[wHd,wPd,k1,k2,if_true,Bool.false_eq_true,if_false]at k3
   omega
theorem Q2u.down(H:Q2u l x0 x1 ph Rin Rout){v:Int}(hi:i<l.length)(hq:l.getD i Ph.none=⟨true,true,false,false,false,false, .none,some v, .none⟩):Q2u (l.set i ⟨true,false,false,false,true,true, .none,some v, .none⟩) ((x0+(256-(2+v%2))%4294967296)%4294967296) (x1) (ph) (Rin+1) (Rout):=by
 have QM:=Q0k (d:=Ph.none) hi
 have QA:=fun h j hj hji=>H.alone hi hq h (j:=j) hj hji
 have⟨o8,o9⟩:=H.own hi hq
 rw[hq]at QM
 have QB:=H.bs _ QM
 have QS:=H.sn _ QM
 have QK:=H.ok _ QM
 obtain⟨⟨s0,s1,s2,s3,s4,s5,s6,s7⟩,s8,s9⟩:=H.sums
 have phw:=H.phw
 have x1e:=H.x1
 have cnt:=H.cnt
 have on:=H.on
 have off:=H.off
 have one:=H.one
 have wr:=H.wr
 have ups:=H.ups
 have lv:=H.lv
 have nw:=H.nw
 have e0:=Q0l (f:=wHd) (d:=Ph.none) (x:=⟨true,false,false,false,true,true, .none,some v, .none⟩) hi
 have e1:=Q0l (f:=wIn) (d:=Ph.none) (x:=⟨true,false,false,false,true,true, .none,some v, .none⟩) hi
 have e2:=Q0l (f:=wUp) (d:=Ph.none) (x:=⟨true,false,false,false,true,true, .none,some v, .none⟩) hi
 have e3:=Q0l (f:=wPd) (d:=Ph.none) (x:=⟨true,false,false,false,true,true, .none,some v, .none⟩) hi
 have e4:=Q0l (f:=wA2) (d:=Ph.none) (x:=⟨true,false,false,false,true,true, .none,some v, .none⟩) hi
 have e5:=Q0l (f:=wRd) (d:=Ph.none) (x:=⟨true,false,false,false,true,true, .none,some v, .none⟩) hi
 have e6:=Q0l (f:=Q2Z ph) (d:=Ph.none) (x:=⟨true,false,false,false,true,true, .none,some v, .none⟩) hi
 have e7:=Q0l (f:=Q3g ph) (d:=Ph.none) (x:=⟨true,false,false,false,true,true, .none,some v, .none⟩) hi
 have o0:=Q0m (d:=Ph.none) Q2Y hi
 have o1:=Q0m (d:=Ph.none) Q2l hi
 have o2:=Q0m (d:=Ph.none) Q2r hi
 have o3:=Q0m (d:=Ph.none) Q2Q hi
 have o4:=Q0m (d:=Ph.none) Q2s hi
 have o5:=Q0m (d:=Ph.none) Q2X hi
 have o6:=Q0m (d:=Ph.none) (Q2E (ph:=ph)) hi
 have o7:=Q0m (d:=Ph.none) (Q2F (ph:=ph)) hi
 rw[hq]at e0 e1 e2 e3 e4 e5 e6 e7 o0 o1 o2 o3 o4 o5 o6 o7
 simp only[wHd,wIn,wUp,wPd,wA2,wRd,Q2Z,Q3g,if_true,if_false,Bool.false_eq_true,reduceCtorEq,Option.some.injEq]at e0 e1 e2 e3 e4 e5 e6 e7 o0 o1 o2 o3 o4 o5 o6 o7 o8 o9
 have hv:=QB _ rfl
 subst hv
 refine⟨by rw[List.length_set];exact H.len,phw,by omega,by omega,by omega,by omega,by omega,by omega,by omega,by omega,by omega,fun q hm=> ?_,fun q hm v hv=> ?_,fun q hm a ha=> ?_⟩
 ·rcases Q0i hi hm with rfl|⟨j,hj,hji,rfl⟩
  ·refine⟨by simp[wHd,wIn,wUp,wPd,wA2],fun w hw=> ?_,fun v hv=> ?_,fun v hv=> ?_,by simp[wUp,wRd]⟩
   ·first|(cases hw;done)|(obtain rfl:=Option.some.inj hw;exact⟨by omega,rfl,rfl⟩)
   ·first|(cases hv;done)|rfl
   ·first|(cases hv;done)|rfl
  ·exact H.ok _ (Q0k hj)
 ·rcases Q0i hi hm with rfl|⟨j,hj,hji,rfl⟩
  ·first|(cases hv;done)|(obtain rfl:=Option.some.inj hv;rfl)
  ·exact H.bs _ (Q0k hj) v hv
 ·rcases Q0i hi hm with rfl|⟨j,hj,hji,rfl⟩
  ·first|(cases ha;done)|(obtain rfl:=Option.some.inj ha;omega)
  ·exfalso
   have k1:=QA rfl j hj hji
   have k2:=(H.ok _ (Q0k (d:=Ph.none) hj)).sn a ha
   have k3:=(H.ok _ (Q0k (d:=Ph.none) hj)).some
   have k4:=Q2l (l.getD j Ph.none)
   have k5:=Q2r (l.getD j Ph.none)
   have k6:=Q2s (l.getD j Ph.none)
   simp only[wHd,wPd,k1,k2,if_true,Bool.false_eq_true,if_false]at k3
   omega
theorem Q2u.upin(H:Q2u l x0 x1 ph Rin Rout)(hi:i<l.length)(hq:l.getD i Ph.none=⟨true,false,true,false,false,true, .none, .none, .none⟩):Q2u (l.set i ⟨true,true,false,false,false,false, .none, .none, .none⟩) (x0) ((x1+256)%4294967296) (ph) (Rin) (Rout+1):=by
 have QM:=Q0k (d:=Ph.none) hi
 have QA:=fun h j hj hji=>H.alone hi hq h (j:=j) hj hji
 have⟨o8,o9⟩:=H.own hi hq
 rw[hq]at QM
 have QB:=H.bs _ QM
 have QS:=H.sn _ QM
 have QK:=H.ok _ QM
 obtain⟨⟨s0,s1,s2,s3,s4,s5,s6,s7⟩,s8,s9⟩:=H.sums
 have phw:=H.phw
 have x1e:=H.x1
 have cnt:=H.cnt
 have on:=H.on
 have off:=H.off
 have one:=H.one
 have wr:=H.wr
 have ups:=H.ups
 have lv:=H.lv
 have nw:=H.nw
 have e0:=Q0l (f:=wHd) (d:=Ph.none) (x:=⟨true,true,false,false,false,false, .none, .none, .none⟩) hi
 have e1:=Q0l (f:=wIn) (d:=Ph.none) (x:=⟨true,true,false,false,false,false, .none, .none, .none⟩) hi
 have e2:=Q0l (f:=wUp) (d:=Ph.none) (x:=⟨true,true,false,false,false,false, .none, .none, .none⟩) hi
 have e3:=Q0l (f:=wPd) (d:=Ph.none) (x:=⟨true,true,false,false,false,false, .none, .none, .none⟩) hi
 have e4:=Q0l (f:=wA2) (d:=Ph.none) (x:=⟨true,true,false,false,false,false, .none, .none, .none⟩) hi
 have e5:=Q0l (f:=wRd) (d:=Ph.none) (x:=⟨true,true,false,false,false,false, .none, .none, .none⟩) hi
 have e6:=Q0l (f:=Q2Z ph) (d:=Ph.none) (x:=⟨true,true,false,false,false,false, .none, .none, .none⟩) hi
 have e7:=Q0l (f:=Q3g ph) (d:=Ph.none) (x:=⟨true,true,false,false,false,false, .none, .none, .none⟩) hi
 have o0:=Q0m (d:=Ph.none) Q2Y hi
 have o1:=Q0m (d:=Ph.none) Q2l hi
 have o2:=Q0m (d:=Ph.none) Q2r hi
 have o3:=Q0m (d:=Ph.none) Q2Q hi
 have o4:=Q0m (d:=Ph.none) Q2s hi
 have o5:=Q0m (d:=Ph.none) Q2X hi
 have o6:=Q0m (d:=Ph.none) (Q2E (ph:=ph)) hi
 have o7:=Q0m (d:=Ph.none) (Q2F (ph:=ph)) hi
 rw[hq]at e0 e1 e2 e3 e4 e5 e6 e7 o0 o1 o2 o3 o4 o5 o6 o7
 simp only[wHd,wIn,wUp,wPd,wA2,wRd,Q2Z,Q3g,if_true,if_false,Bool.false_eq_true,reduceCtorEq,Option.some.injEq]at e0 e1 e2 e3 e4 e5 e6 e7 o0 o1 o2 o3 o4 o5 o6 o7 o8 o9
 refine⟨by rw[List.length_set];exact H.len,phw,by omega,by omega,by omega,by omega,by omega,by omega,by omega,by omega,by omega,fun q hm=> ?_,fun q hm v hv=> ?_,fun q hm a ha=> ?_⟩
 ·rcases Q0i hi hm with rfl|⟨j,hj,hji,rfl⟩
  ·refine⟨by simp[wHd,wIn,wUp,wPd,wA2],fun w hw=> ?_,fun v hv=> ?_,fun v hv=> ?_,by simp[wUp,wRd]⟩
   ·first|(cases hw;done)|(obtain rfl:=Option.some.inj hw;exact⟨by omega,rfl,rfl⟩)
   ·first|(cases hv;done)|rfl
   ·first|(cases hv;done)|rfl
  ·exact H.ok _ (Q0k hj)
 ·rcases Q0i hi hm with rfl|⟨j,hj,hji,rfl⟩
  ·first|(cases hv;done)|(obtain rfl:=Option.some.inj hv;exact QB _ rfl)
  ·exact H.bs _ (Q0k hj) v hv
 ·rcases Q0i hi hm with rfl|⟨j,hj,hji,rfl⟩
  ·first|(cases ha;done)|(obtain rfl:=Option.some.inj ha;omega)
  ·exfalso
   have k1:=QA rfl j hj hji
   have k2:=(H.ok _ (Q0k (d:=Ph.none) hj)).sn a ha
   have k3:=(H.ok _ (Q0k (d:=Ph.none) hj)).some
   have k4:=Q2l (l.getD j Ph.none)
   have k5:=Q2r (l.getD j Ph.none)
   have k6:=Q2s (l.getD j Ph.none)
   simp only[wHd,wPd,k1,k2,if_true,Bool.false_eq_true,if_false]at k3
   omega
theorem Q2u.store(H:Q2u l x0 x1 ph Rin Rout){v:Int}(hi:i<l.length)(hq:l.getD i Ph.none=⟨true,false,false,false,true,false, .none,some v, .none⟩):Q2u (l.set i ⟨true,false,false,false,false,false, .none, .none, .none⟩) (x0) (x1) ((v+1)%4294967296) (Rin) (Rout):=by
 have QM:=Q0k (d:=Ph.none) hi
 have QA:=fun h j hj hji=>H.alone hi hq h (j:=j) hj hji
 have⟨o8,o9⟩:=H.own hi hq
 rw[hq]at QM
 have QB:=H.bs _ QM
 have QS:=H.sn _ QM
 have QK:=H.ok _ QM
 obtain⟨⟨s0,s1,s2,s3,s4,s5,s6,s7⟩,s8,s9⟩:=H.sums
 have phw:=H.phw
 have x1e:=H.x1
 have cnt:=H.cnt
 have on:=H.on
 have off:=H.off
 have one:=H.one
 have wr:=H.wr
 have ups:=H.ups
 have lv:=H.lv
 have nw:=H.nw
 have e0:=Q0l (f:=wHd) (d:=Ph.none) (x:=⟨true,false,false,false,false,false, .none, .none, .none⟩) hi
 have e1:=Q0l (f:=wIn) (d:=Ph.none) (x:=⟨true,false,false,false,false,false, .none, .none, .none⟩) hi
 have e2:=Q0l (f:=wUp) (d:=Ph.none) (x:=⟨true,false,false,false,false,false, .none, .none, .none⟩) hi
 have e3:=Q0l (f:=wPd) (d:=Ph.none) (x:=⟨true,false,false,false,false,false, .none, .none, .none⟩) hi
 have e4:=Q0l (f:=wA2) (d:=Ph.none) (x:=⟨true,false,false,false,false,false, .none, .none, .none⟩) hi
 have e5:=Q0l (f:=wRd) (d:=Ph.none) (x:=⟨true,false,false,false,false,false, .none, .none, .none⟩) hi
 have e6:=Q0l (f:=Q2Z ph) (d:=Ph.none) (x:=⟨true,false,false,false,false,false, .none, .none, .none⟩) hi
 have e7:=Q0l (f:=Q3g ph) (d:=Ph.none) (x:=⟨true,false,false,false,false,false, .none, .none, .none⟩) hi
 have o0:=Q0m (d:=Ph.none) Q2Y hi
 have o1:=Q0m (d:=Ph.none) Q2l hi
 have o2:=Q0m (d:=Ph.none) Q2r hi
 have o3:=Q0m (d:=Ph.none) Q2Q hi
 have o4:=Q0m (d:=Ph.none) Q2s hi
 have o5:=Q0m (d:=Ph.none) Q2X hi
 have o6:=Q0m (d:=Ph.none) (Q2E (ph:=ph)) hi
 have o7:=Q0m (d:=Ph.none) (Q2F (ph:=ph)) hi
 rw[hq]at e0 e1 e2 e3 e4 e5 e6 e7 o0 o1 o2 o3 o4 o5 o6 o7
 simp only[wHd,wIn,wUp,wPd,wA2,wRd,Q2Z,Q3g,if_true,if_false,Bool.false_eq_true,reduceCtorEq,Option.some.injEq]at e0 e1 e2 e3 e4 e5 e6 e7 o0 o1 o2 o3 o4 o5 o6 o7 o8 o9
 have hv:=QB _ rfl
 subst hv
 have eo:Q2Z ((v+1)%4294967296)=Q3g v:=by
  funext q
  unfold Q2Z Q3g
  rw[show(2:Int)+((v+1)%4294967296+1)%2=2+v%2 by omega]
 have en:Q3g ((v+1)%4294967296)=Q2Z v:=by
  funext q
  unfold Q2Z Q3g
  rw[show(2:Int)+(v+1)%4294967296%2=2+(v+1)%2 by omega]
 refine⟨by rw[List.length_set];exact H.len,by omega,by omega,by(try simp only[eo,en]);omega,by(try simp only[eo,en]);omega,by(try simp only[eo,en]);omega,by(try simp only[eo,en]);omega,by(try simp only[eo,en]);omega,by(try simp only[eo,en]);omega,by(try simp only[eo,en]);omega,by(try simp only[eo,en]);omega,fun q hm=> ?_,fun q hm v hv=> ?_,fun q hm a ha=> ?_⟩
 ·rcases Q0i hi hm with rfl|⟨j,hj,hji,rfl⟩
  ·refine⟨by simp[wHd,wIn,wUp,wPd,wA2],fun w hw=> ?_,fun v hv=> ?_,fun v hv=> ?_,by simp[wUp,wRd]⟩
   ·first|(cases hw;done)|(obtain rfl:=Option.some.inj hw;exact⟨by omega,rfl,rfl⟩)
   ·first|(cases hv;done)|rfl
   ·first|(cases hv;done)|rfl
  ·exact H.ok _ (Q0k hj)
 ·rcases Q0i hi hm with rfl|⟨j,hj,hji,rfl⟩
  ·first|(cases hv;done)|(obtain rfl:=Option.some.inj hv;exact QB _ rfl)
  ·exfalso
   have k1:=QA rfl j hj hji
   have k2:=(H.ok _ (Q0k (d:=Ph.none) hj)).b _ hv
   rw[k1]at k2
   cases k2
 ·rcases Q0i hi hm with rfl|⟨j,hj,hji,rfl⟩
  ·first|(cases ha;done)|(obtain rfl:=Option.some.inj ha;omega)
  ·exfalso
   have k1:=QA rfl j hj hji
   have k2:=(H.ok _ (Q0k (d:=Ph.none) hj)).sn a ha
   have k3:=(H.ok _ (Q0k (d:=Ph.none) hj)).some
   have k4:=Q2l (l.getD j Ph.none)
   have k5:=Q2r (l.getD j Ph.none)
   have k6:=Q2s (l.getD j Ph.none)
   simp only[wHd,wPd,k1,k2,if_true,Bool.false_eq_true,if_false]at k3
   omega
theorem Q2u.Y1X(H:Q2u l x0 x1 ph Rin Rout){v:Int}(hi:i<l.length)(hq:l.getD i Ph.none=⟨true,false,false,false,true,true, .none,some v, .none⟩):Q2u (l.set i ⟨true,false,false,false,false,true, .none, .none, .none⟩) (x0) (x1) ((v+1)%4294967296) (Rin) (Rout):=by
 have QM:=Q0k (d:=Ph.none) hi
 have QA:=fun h j hj hji=>H.alone hi hq h (j:=j) hj hji
 have⟨o8,o9⟩:=H.own hi hq
 rw[hq]at QM
 have QB:=H.bs _ QM
 have QS:=H.sn _ QM
 have QK:=H.ok _ QM
 obtain⟨⟨s0,s1,s2,s3,s4,s5,s6,s7⟩,s8,s9⟩:=H.sums
 have phw:=H.phw
 have x1e:=H.x1
 have cnt:=H.cnt
 have on:=H.on
 have off:=H.off
 have one:=H.one
 have wr:=H.wr
 have ups:=H.ups
 have lv:=H.lv
 have nw:=H.nw
 have e0:=Q0l (f:=wHd) (d:=Ph.none) (x:=⟨true,false,false,false,false,true, .none, .none, .none⟩) hi
 have e1:=Q0l (f:=wIn) (d:=Ph.none) (x:=⟨true,false,false,false,false,true, .none, .none, .none⟩) hi
 have e2:=Q0l (f:=wUp) (d:=Ph.none) (x:=⟨true,false,false,false,false,true, .none, .none, .none⟩) hi
 have e3:=Q0l (f:=wPd) (d:=Ph.none) (x:=⟨true,false,false,false,false,true, .none, .none, .none⟩) hi
 have e4:=Q0l (f:=wA2) (d:=Ph.none) (x:=⟨true,false,false,false,false,true, .none, .none, .none⟩) hi
 have e5:=Q0l (f:=wRd) (d:=Ph.none) (x:=⟨true,false,false,false,false,true, .none, .none, .none⟩) hi
 have e6:=Q0l (f:=Q2Z ph) (d:=Ph.none) (x:=⟨true,false,false,false,false,true, .none, .none, .none⟩) hi
 have e7:=Q0l (f:=Q3g ph) (d:=Ph.none) (x:=⟨true,false,false,false,false,true, .none, .none, .none⟩) hi
 have o0:=Q0m (d:=Ph.none) Q2Y hi
 have o1:=Q0m (d:=Ph.none) Q2l hi
 have o2:=Q0m (d:=Ph.none) Q2r hi
 have o3:=Q0m (d:=Ph.none) Q2Q hi
 have o4:=Q0m (d:=Ph.none) Q2s hi
 have o5:=Q0m (d:=Ph.none) Q2X hi
 have o6:=Q0m (d:=Ph.none) (Q2E (ph:=ph)) hi
 have o7:=Q0m (d:=Ph.none) (Q2F (ph:=ph)) hi
 rw[hq]at e0 e1 e2 e3 e4 e5 e6 e7 o0 o1 o2 o3 o4 o5 o6 o7
 simp only[wHd,wIn,wUp,wPd,wA2,wRd,Q2Z,Q3g,if_true,if_false,Bool.false_eq_true,reduceCtorEq,Option.some.injEq]at e0 e1 e2 e3 e4 e5 e6 e7 o0 o1 o2 o3 o4 o5 o6 o7 o8 o9
 have hv:=QB _ rfl
 subst hv
 have eo:Q2Z ((v+1)%4294967296)=Q3g v:=by
  funext q
  unfold Q2Z Q3g
  rw[show(2:Int)+((v+1)%4294967296+1)%2=2+v%2 by omega]
 have en:Q3g ((v+1)%4294967296)=Q2Z v:=by
  funext q
  unfold Q2Z Q3g
  rw[show(2:Int)+(v+1)%4294967296%2=2+(v+1)%2 by omega]
 refine⟨by rw[List.length_set];exact H.len,by omega,by omega,by(try simp only[eo,en]);omega,by(try simp only[eo,en]);omega,by(try simp only[eo,en]);omega,by(try simp only[eo,en]);omega,by(try simp only[eo,en]);omega,by(try simp only[eo,en]);omega,by(try simp only[eo,en]);omega,by(try simp only[eo,en]);omega,fun q hm=> ?_,fun q hm v hv=> ?_,fun q hm a ha=> ?_⟩
 ·rcases Q0i hi hm with rfl|⟨j,hj,hji,rfl⟩
  ·refine⟨by simp[wHd,wIn,wUp,wPd,wA2],fun w hw=> ?_,fun v hv=> ?_,fun v hv=> ?_,by simp[wUp,wRd]⟩
   ·first|(cases hw;done)|(obtain rfl:=Option.some.inj hw;exact⟨by omega,rfl,rfl⟩)
   ·first|(cases hv;done)|rfl
   ·first|(cases hv;done)|rfl
  ·exact H.ok _ (Q0k hj)
 ·rcases Q0i hi hm with rfl|⟨j,hj,hji,rfl⟩
  ·first|(cases hv;done)|(obtain rfl:=Option.some.inj hv;exact QB _ rfl)
  ·exfalso
   have k1:=QA rfl j hj hji
   have k2:=(H.ok _ (Q0k (d:=Ph.none) hj)).b _ hv
   rw[k1]at k2
   cases k2
 ·rcases Q0i hi hm with rfl|⟨j,hj,hji,rfl⟩
  ·first|(cases ha;done)|(obtain rfl:=Option.some.inj ha;omega)
  ·exfalso
   have k1:=QA rfl j hj hji
   have k2:=(H.ok _ (Q0k (d:=Ph.none) hj)).sn a ha
   have k3:=(H.ok _ (Q0k (d:=Ph.none) hj)).some
   have k4:=Q2l (l.getD j Ph.none)
   have k5:=Q2r (l.getD j Ph.none)
   have k6:=Q2s (l.getD j Ph.none)
   simp only[wHd,wPd,k1,k2,if_true,Bool.false_eq_true,if_false]at k3
   omega
end
inductive Mk
 |out|nx|nb|e3 (a:Int)|e4|hd|g1|g2|g3 (a:Int)
def Mk.turn:Mk→Bool
 |.hd=>true| .g1=>true| .g2=>true| .g3 _=>true
 |_=>false
def Mk.inq:Mk→Bool
 |.out=>false| .nx=>false| .nb=>false
 |_=>true
def tlw:List Nat→Int
 |[]=>0
 |[x]=>x+1
 |_::y::r=>tlw (y::r)
def Chain(ks:Nat→Mk)(nx bl:Nat→Int):List Nat→Prop
 |[]=>True
 |[x]=>nx x=0
 |x::y::r=>((ks y= .e3 (x+1)∧nx x=0)∨(ks y= .e4∧nx x=y+1))∧bl y=1∧Chain ks nx bl (y::r)
def Head(ks:Nat→Mk)(nx bl:Nat→Int):List Nat→Prop
 |[]=>True
 |x::r=>ks x= .hd∨ks x= .g1∨(ks x= .g2∧r≠[])∨(∃a,ks x= .g3 a∧nx x=a∧a≠0)∨(ks x= .e4∧bl x=0)
theorem Q3N{ks:Nat→Mk}{nx bl:Nat→Int}{x:Nat}{r:List Nat}:Head ks nx bl (x::r)↔(ks x= .hd∨ks x= .g1∨(ks x= .g2∧r≠[])∨(∃a,ks x= .g3 a∧nx x=a∧a≠0)∨(ks x= .e4∧bl x=0)):=Iff.rfl
structure Q5z(n:Nat)(ks:Nat→Mk)(tail:Int)(nx bl:Nat→Int)(Q:List Nat):Prop where
 nd:Q.Nodup
 lt: ∀x,x∈Q→x<n
 inq: ∀i,i<n→(i∈Q↔(ks i).inq=true)
 tl:tail=tlw Q
 ch:Chain ks nx bl Q
 hd:Head ks nx bl Q
 pre: ∀i,i<n→((ks i= .nx∨ks i= .nb)→nx i=0)∧(ks i= .nb→bl i=1)
theorem Q4I{ks ks':Nat→Mk}{nx nx' bl bl':Nat→Int}: ∀{Q:List Nat},(∀z,z∈Q→nx' z=nx z)→(∀z,z∈Q.tail→ks' z=ks z∧bl' z=bl z)→Chain ks nx bl Q→Chain ks' nx' bl' Q
 |[],_,_,_=>trivial
 |[x],h1,_,h=>by
  show nx' x=0
  rw[h1 x (by simp)]
  exact h
 |x::y::r,h1,h2,h=>by
  obtain⟨h3,h4,h5⟩:=h
  obtain⟨k1,k2⟩:=h2 y (by simp)
  refine⟨?_,by rw[k2];exact h4,Q4I (fun z hz=>h1 z (List.mem_cons_of_mem _ hz)) (fun z hz=>h2 z (by simp only[List.tail_cons]at hz⊢;exact List.mem_cons_of_mem _ hz)) h5⟩
  rw[k1,h1 x (by simp)]
  exact h3
theorem Q9x: ∀(Q:List Nat) (t:Nat),tlw (Q++[t])=t+1
 |[],t=>rfl
 |[x],t=>rfl
 |x::y::r,t=>Q9x (y::r) t
theorem X2i: ∀{Q:List Nat},Q≠[]→ ∃z,z∈Q∧tlw Q=(z:Int)+1
 |[],h=>absurd rfl h
 |[x],_=>⟨x,by simp,rfl⟩
 |x::y::r,_=>by
  obtain⟨z,h1,h2⟩:=X2i (Q:=y::r) (by simp)
  exact⟨z,List.mem_cons_of_mem _ h1,h2⟩
theorem X3o{Q:List Nat}(h:tlw Q=0):Q=[]:=by
 cases Q with
 |nil=>rfl
 |cons x r=>
  obtain⟨z,_,h2⟩:=X2i (Q:=x::r) (by simp)
  omega
theorem Q7M{ks ks':Nat→Mk}{nx nx' bl bl':Nat→Int}{t:Nat}: ∀{Q:List Nat},Q≠[]→t∉Q→(∀z,z≠t→nx' z=nx z∧ks' z=ks z∧bl' z=bl z)→ks' t= .e3 (tlw Q)→bl' t=1→nx' t=0→Chain ks nx bl Q→Chain ks' nx' bl' (Q++[t])
 |[],h,_,_,_,_,_,_=>absurd rfl h
 |[x],_,hn,h,h1,h2,h3,hc=>by
  have hx:x≠t:=by simpa using fun h=>hn (by simp[h])
  exact⟨Or.inl ⟨h1,by rw[(h x hx).1];exact hc⟩,h2,h3⟩
 |x::y::r,_,hn,h,h1,h2,h3,hc=>by
  obtain⟨c1,c2,c3⟩:=hc
  have hx:x≠t:=fun e=>hn (by simp[e])
  have hy:y≠t:=fun e=>hn (by simp[e])
  refine⟨?_,by rw[(h y hy).2.2];exact c2,Q7M (Q:=y::r) (by simp) (fun e=>hn (List.mem_cons_of_mem _ e)) h h1 h2 h3 c3⟩
  rw[(h x hx).1,(h y hy).2.1]
  exact c1
theorem Q4x{ks:Nat→Mk}{nx bl:Nat→Int}{t:Nat}: ∀{x:Nat} {r:List Nat},Chain ks nx bl (x::r)→t∈r→ ∃p,p∈x::r∧((ks t= .e3 (p+1)∧nx p=0)∨(ks t= .e4∧nx p=t+1))∧bl t=1
 |x,[],_,h=>by simp at h
 |x,y::r,hc,h=>by
  obtain⟨c1,c2,c3⟩:=hc
  rcases List.mem_cons.1 h with rfl|h
  ·exact⟨x,by simp,c1,c2⟩
  ·obtain⟨p,h1,h2,h3⟩:=Q4x c3 h
   exact⟨p,List.mem_cons_of_mem _ h1,h2,h3⟩
theorem X0a{ks ks':Nat→Mk}{nx nx' bl:Nat→Int}{t p:Nat}: ∀{x:Nat} {r:List Nat},(x::r).Nodup→Chain ks nx bl (x::r)→t∈r→ks t= .e3 (p+1)→(∀z,z≠t→ks' z=ks z)→ks' t= .e4→(∀z,z≠p→nx' z=nx z)→nx' p=t+1→Chain ks' nx' bl (x::r)
 |x,[],_,_,h,_,_,_,_,_=>by simp at h
 |x,y::r,hnd,hc,h,ht,hk,hkt,hn,hnp=>by
  obtain⟨c1,c2,c3⟩:=hc
  have hxn:x∉y::r:=(List.nodup_cons.1 hnd).1
  have hnd2:=(List.nodup_cons.1 hnd).2
  rcases List.mem_cons.1 h with rfl|h
  ·have hpx:p=x:=by
    rcases c1 with⟨c1,_⟩|⟨c1,_⟩
    ·rw[ht]at c1
     have:=Mk.e3.inj c1
     omega
    ·rw[ht]at c1;cases c1
   subst hpx
   have htr:t∉r:=(List.nodup_cons.1 hnd2).1
   refine⟨Or.inr ⟨hkt,hnp⟩,c2,Q4I (fun z hz=>hn z (fun e=>hxn (e▸hz))) (fun z hz=>⟨hk z (fun e=>htr (by simpa[e]using hz)),rfl⟩) c3⟩
  ·have hyt:y≠t:=fun e=>(List.nodup_cons.1 hnd2).1 (e▸h)
   obtain⟨q,q1,q2,_⟩:=Q4x c3 h
   have hqp:q=p:=by
    rcases q2 with⟨q2,_⟩|⟨q2,_⟩
    ·rw[ht]at q2
     have:=Mk.e3.inj q2
     omega
    ·rw[ht]at q2;cases q2
   have hxp:x≠p:=fun e=>hxn (by rw[e,←hqp];exact q1)
   refine⟨?_,c2,X0a hnd2 c3 h ht hk hkt hn hnp⟩
   rw[hk y hyt,hn x hxp]
   exact c1
section
variable {n:Nat}{ks ks':Nat→Mk}{tail tail':Int}{nx nx' bl bl':Nat→Int}{Q:List Nat}{t:Nat}
theorem Q5z.Q5s(H:Q5z n ks tail nx bl Q)(ht:t<n)(h:(ks t).turn=true): ∃r,Q=t::r:=by
 have hm:t∈Q:=(H.inq t ht).2 (by cases hk:ks t<;>rw[hk]at h<;>first|rfl|(cases h))
 have ch:=H.ch
 cases Q with
 |nil=>simp at hm
 |cons x r=>
  rcases List.mem_cons.1 hm with rfl|hm
  ·exact⟨r,rfl⟩
  ·obtain⟨p,_,h2,_⟩:=Q4x ch hm
   rcases h2 with⟨h2,_⟩|⟨h2,_⟩<;>rw[h2]at h<;>cases h
theorem Q5z.one(H:Q5z n ks tail nx bl Q){i j:Nat}(hi:i<n)(hj:j<n)(h1:(ks i).turn=true)(h2:(ks j).turn=true):i=j:=by
 obtain⟨r,e1⟩:=H.Q5s hi h1
 obtain⟨r',e2⟩:=H.Q5s hj h2
 rw[e1]at e2
 exact(List.cons.inj e2).1
theorem Q5z.Q8D(H:Q5z n ks tail nx bl Q)(h:tail=0): ∀i,i<n→(ks i).turn=false:=fun i hi=>by
 cases hk:(ks i).turn with
 |false=>rfl
 |true=>
  obtain⟨r,e⟩:=H.Q5s hi hk
  have:Q=[]:=X3o (by rw[←H.tl];exact h)
  rw[this]at e
  cases e
theorem Q5z.X4g(H:Q5z n ks tail nx bl Q)(ht:t<n)(h:ks t= .e4)(hb:bl t≠1):(∃r,Q=t::r)∧ ∀i,i<n→(ks i).turn=false:=by
 have hm:t∈Q:=(H.inq t ht).2 (by rw[h];rfl)
 have ch:=H.ch
 have hq: ∃r,Q=t::r:=by
  cases Q with
  |nil=>simp at hm
  |cons x r=>
   rcases List.mem_cons.1 hm with rfl|hm
   ·exact⟨r,rfl⟩
   ·obtain⟨p,_,_,h3⟩:=Q4x ch hm
    exact absurd h3 hb
 refine⟨hq,fun i hi=> ?_⟩
 cases hk:(ks i).turn with
 |false=>rfl
 |true=>
  obtain⟨r,e⟩:=hq
  obtain⟨r',e2⟩:=H.Q5s hi hk
  rw[e]at e2
  have:=(List.cons.inj e2).1
  subst this
  rw[h]at hk
  cases hk
theorem X5z(hx: ∀z,z∈Q→nx' z=nx z∧ks' z=ks z∧bl' z=bl z)(h:Head ks nx bl Q):Head ks' nx' bl' Q:=by
 cases Q with
 |nil=>trivial
 |cons x r=>
  obtain⟨k1,k2,k3⟩:=hx x (by simp)
  rw[Q3N]at h⊢
  rw[k1,k2,k3]
  exact h
theorem Q5z.outs(H:Q5z n ks tail nx bl Q)(ht:t<n)(h0:(ks t).inq=false)(hk: ∀j,j≠t→ks' j=ks j)(h1:(ks' t).inq=false)(hn: ∀j,j≠t→nx' j=nx j)(hb: ∀j,j≠t→bl' j=bl j)(e:tail'=tail)
 (hp:((ks' t= .nx∨ks' t= .nb)→nx' t=0)∧(ks' t= .nb→bl' t=1)):Q5z n ks' tail' nx' bl' Q:=by
 have hq:t∉Q:=fun h=>by rw[(H.inq t ht).1 h]at h0;cases h0
 have hz: ∀z,z∈Q→z≠t:=fun z hz e=>hq (e▸hz)
 refine⟨H.nd,H.lt,fun i hi=> ?_,e.trans H.tl,Q4I (fun z h=>hn z (hz z h)) (fun z h=>⟨hk z (hz z (List.mem_of_mem_tail h)),hb z (hz z (List.mem_of_mem_tail h))⟩) H.ch,X5z (fun z h=>⟨hn z (hz z h),hk z (hz z h),hb z (hz z h)⟩) H.hd,fun i hi=> ?_⟩
 ·by_cases e:i=t
  ·subst e;rw[h1];simp[hq]
  ·rw[hk i e];exact H.inq i hi
 ·by_cases e:i=t
  ·subst e;exact hp
  ·rw[hk i e,hn i e,hb i e];exact H.pre i hi
theorem Q5z.comes(H:Q5z n ks tail nx bl Q)(ht:t<n)(h0:(ks t).inq=false)(hz:tail=0)(hnx:nx t=0)(hk: ∀j,j≠t→ks' j=ks j)(h1:ks' t= .hd)(hn: ∀j,nx' j=nx j)(hb: ∀j,bl' j=bl j)(e:tail'=t+1):Q5z n ks' tail' nx' bl' [t]:=by
 have hq:Q=[]:=X3o (by rw[←H.tl];exact hz)
 refine⟨by simp,by simpa using ht,fun i hi=> ?_,e,by show nx' t=0;rw[hn];exact hnx,Or.inl h1,fun i hi=> ?_⟩
 ·by_cases e:i=t
  ·subst e;rw[h1];simp[Mk.inq]
  ·have:=H.inq i hi
   rw[hq]at this
   rw[hk i e]
   simp only[List.mem_singleton,e,false_iff]
   intro h
   simpa using this.2 h
 ·by_cases e:i=t
  ·subst e;rw[h1];exact⟨(fun h=>by rcases h with h|h<;>cases h),(fun h=>by cases h)⟩
  ·rw[hk i e,hn,hb];exact H.pre i hi
theorem Q5z.behind(H:Q5z n ks tail nx bl Q)(ht:t<n)(h0:ks t= .nb)(hz:tail≠0)(hk: ∀j,j≠t→ks' j=ks j)(h1:ks' t= .e3 tail)(hn: ∀j,nx' j=nx j)(hb: ∀j,bl' j=bl j)(e:tail'=t+1):Q5z n ks' tail' nx' bl' (Q++[t]):=by
 have hq:t∉Q:=fun h=>by have:=(H.inq t ht).1 h;rw[h0]at this;cases this
 have hne:Q≠[]:=fun h=>hz (by rw[H.tl,h];rfl)
 have hpre:=H.pre t ht
 refine⟨?_,fun x hx=> ?_,fun i hi=> ?_,by rw[e,Q9x],Q7M hne hq (fun z hz=>⟨hn z,hk z hz,hb z⟩) (by rw[h1,H.tl]) (by rw[hb];exact hpre.2 h0) (by rw[hn];exact hpre.1 (Or.inr h0)) H.ch,?_,fun i hi=> ?_⟩
 ·rw[List.nodup_append]
  refine⟨H.nd,by simp,fun a ha b hb=> ?_⟩
  simp only[List.mem_singleton]at hb
  subst hb
  exact fun e=>hq (e▸ha)
 ·rcases List.mem_append.1 hx with hx|hx
  ·exact H.lt x hx
  ·simp only[List.mem_singleton]at hx;omega
 ·by_cases e:i=t
  ·subst e;rw[h1];simp[Mk.inq]
  ·rw[hk i e];simp only[List.mem_append,List.mem_singleton,e,or_false];exact H.inq i hi
 ·have hh:=H.hd
  cases Q with
  |nil=>exact absurd rfl hne
  |cons x r=>
   have hx:x≠t:=fun e=>hq (by simp[e])
   rw[Q3N]at hh
   show Head ks' nx' bl' (x::(r++[t]))
   rw[Q3N]
   rw[hk x hx,hn,hb]
   rcases hh with h|h|⟨h,h2⟩|h|h
   ·exact Or.inl h
   ·exact Or.inr (Or.inl h)
   ·exact Or.inr (Or.inr (Or.inl ⟨h,by simp⟩))
   ·exact Or.inr (Or.inr (Or.inr (Or.inl h)))
   ·exact Or.inr (Or.inr (Or.inr (Or.inr h)))
 ·by_cases e:i=t
  ·subst e;rw[h1];exact⟨(fun h=>by rcases h with h|h<;>cases h),(fun h=>by cases h)⟩
  ·rw[hk i e,hn,hb];exact H.pre i hi
theorem Q5z.pred(H:Q5z n ks tail nx bl Q)(ht:t<n){a:Int}(h0:ks t= .e3 a): ∃p x r,Q=x::r∧t∈r∧p∈Q∧p<n∧a=(p:Int)+1:=by
 have hm:t∈Q:=(H.inq t ht).2 (by rw[h0];rfl)
 have ch:=H.ch
 have hh:=H.hd
 cases Q with
 |nil=>simp at hm
 |cons x r=>
  rcases List.mem_cons.1 hm with rfl|hm
  ·rw[Q3N]at hh
   rw[h0]at hh
   rcases hh with h|h|⟨h,_⟩|⟨_,h,_⟩|⟨h,_⟩<;>cases h
  ·obtain⟨p,h1,h2,_⟩:=Q4x ch hm
   refine⟨p,x,r,rfl,hm,h1,H.lt p h1,?_⟩
   rcases h2 with⟨h2,_⟩|⟨h2,_⟩
   ·rw[h0]at h2;exact Mk.e3.inj h2
   ·rw[h0]at h2;cases h2
theorem Q5z.link(H:Q5z n ks tail nx bl Q)(ht:t<n){p:Nat}(h0:ks t= .e3 (p+1))(hk: ∀j,j≠t→ks' j=ks j)(h1:ks' t= .e4)(hn: ∀j,j≠p→nx' j=nx j)(hnp:nx' p=t+1)(hb: ∀j,bl' j=bl j)(e:tail'=tail):Q5z n ks' tail' nx' bl' Q:=by
 obtain⟨q,x,r,e1,e2,e3,e4,e5⟩:=H.pred ht h0
 have hqp:q=p:=by omega
 subst hqp
 have hnd:=H.nd
 have ch:=H.ch
 have hh:=H.hd
 rw[e1]at hnd ch hh
 have hxt:x≠t:=fun e=>(List.nodup_cons.1 hnd).1 (e▸e2)
 have hbl:bl'=bl:=funext hb
 subst hbl
 refine⟨H.nd,H.lt,fun i hi=> ?_,e.trans H.tl,by rw[e1];exact X0a hnd ch e2 h0 hk h1 hn hnp,?_,fun i hi=> ?_⟩
 ·by_cases e:i=t
  ·subst e;rw[h1];have:=H.inq i hi;rw[h0]at this;exact this
  ·rw[hk i e];exact H.inq i hi
 ·rw[e1]
  rw[Q3N]at hh⊢
  rw[hk x hxt]
  rcases hh with h|h|h|⟨a,h,h2,h3⟩|h
  ·exact Or.inl h
  ·exact Or.inr (Or.inl h)
  ·exact Or.inr (Or.inr (Or.inl h))
  ·refine Or.inr (Or.inr (Or.inr (Or.inl ⟨a,h,?_,h3⟩)))
   by_cases e:x=q
   ·
    exfalso
    subst e
    obtain⟨p,g1,g2,g3⟩:=Q4x ch e2
    rcases g2 with⟨g2,g4⟩|⟨g2,_⟩
    ·rw[h0]at g2
     have:p=x:=by have:=Mk.e3.inj g2;omega
     subst this
     omega
    ·rw[h0]at g2;cases g2
   ·rw[hn x e];exact h2
  ·exact Or.inr (Or.inr (Or.inr (Or.inr h)))
 ·by_cases e:i=t
  ·subst e;rw[h1];exact⟨(fun h=>by rcases h with h|h<;>cases h),(fun h=>by cases h)⟩
  ·rw[hk i e]
   by_cases e2:i=q
   ·subst e2
    have hq:=(H.inq i hi).1 e3
    refine⟨fun h=> ?_,fun h=> ?_⟩
    ·rcases h with h|h<;>rw[h]at hq<;>cases hq
    ·rw[h]at hq;cases hq
   ·rw[hn i e2];exact H.pre i hi
theorem Q5z.heads(H:Q5z n ks tail nx bl Q)(ht:t<n){r:List Nat}(hq:Q=t::r)(hk: ∀j,j≠t→ks' j=ks j)(h1:Head ks' nx' bl' (t::r))(hn: ∀j,nx' j=nx j)(hb: ∀j,bl' j=bl j)(e:tail'=tail)(hi1:(ks' t).inq=true):Q5z n ks' tail' nx' bl' Q:=by
 have hnd:=H.nd
 rw[hq]at hnd
 have htr:=(List.nodup_cons.1 hnd).1
 refine⟨H.nd,H.lt,fun i hi=> ?_,e.trans H.tl,Q4I (fun z _=>hn z) (fun z hz=>⟨hk z (fun e=>htr (by rw[hq]at hz;simpa[e]using hz)),hb z⟩) H.ch,by rw[hq];exact h1,fun i hi=> ?_⟩
 ·by_cases e:i=t
  ·subst e;rw[hi1,hq];simp
  ·rw[hk i e];exact H.inq i hi
 ·by_cases e:i=t
  ·subst e
   refine⟨fun h=> ?_,fun h=> ?_⟩
   ·rcases h with h|h<;>rw[h]at hi1<;>cases hi1
   ·rw[h]at hi1;cases hi1
  ·rw[hk i e,hn,hb];exact H.pre i hi
theorem Q5z.leaves(H:Q5z n ks tail nx bl Q)(ht:t<n)(h0:(ks t).turn=true)(hz:tail=t+1)(hk: ∀j,j≠t→ks' j=ks j)(h1:ks' t= .out)(hn: ∀j,nx' j=nx j)(hb: ∀j,bl' j=bl j)(e:tail'=0):Q5z n ks' tail' nx' bl' []:=by
 obtain⟨r,hq⟩:=H.Q5s ht h0
 have hr:r=[]:=by
  cases r with
  |nil=>rfl
  |cons y r=>
   exfalso
   obtain⟨z,z1,z2⟩:=X2i (Q:=y::r) (by simp)
   have h2:=H.tl
   rw[hq,hz]at h2
   have h3:(t:Int)+1=tlw (y::r):=h2
   have:z=t:=by omega
   subst this
   have hnd:=H.nd
   rw[hq]at hnd
   exact(List.nodup_cons.1 hnd).1 z1
 subst hr
 refine⟨List.nodup_nil,by simp,fun i hi=> ?_,e,trivial,trivial,fun i hi=> ?_⟩
 ·have:=H.inq i hi
  rw[hq]at this
  by_cases e:i=t
  ·subst e;rw[h1];simp[Mk.inq]
  ·rw[hk i e]
   simp only[List.mem_singleton,e,false_iff]at this
   simp only[List.not_mem_nil,false_iff]
   exact this
 ·by_cases e:i=t
  ·subst e;rw[h1];exact⟨(fun h=>by rcases h with h|h<;>cases h),(fun h=>by cases h)⟩
  ·rw[hk i e,hn,hb];exact H.pre i hi
theorem Q5z.more(H:Q5z n ks tail nx bl Q)(ht:t<n){r:List Nat}(hq:Q=t::r)(hz:tail≠t+1):r≠[]:=by
 rintro rfl
 exact hz (by rw[H.tl,hq];rfl)
theorem Q5z.succ(H:Q5z n ks tail nx bl Q){r:List Nat}(hq:Q=t::r){a:Int}(ha:nx t=a)(hne:a≠0): ∃y r',r=y::r'∧y<n∧a=(y:Int)+1∧ks y= .e4∧y≠t:=by
 have ch:=H.ch
 rw[hq]at ch
 cases r with
 |nil=>
  have ch:nx t=0:=ch
  omega
 |cons y r'=>
  obtain⟨c1,c2,c3⟩:=ch
  have hnd:=H.nd
  rw[hq]at hnd
  refine⟨y,r',rfl,H.lt y (by rw[hq];simp),?_,?_,fun e=>(List.nodup_cons.1 hnd).1 (by simp[e])⟩
  ·rcases c1 with⟨_,c1⟩|⟨_,c1⟩<;>omega
  ·rcases c1 with⟨_,c1⟩|⟨c1,_⟩
   ·omega
   ·exact c1
theorem Q5z.gives(H:Q5z n ks tail nx bl Q)(ht:t<n){a:Int}(h0:ks t= .g3 a)(hk: ∀j,j≠t→ks' j=ks j)(h1:ks' t= .out)(hn: ∀j,nx' j=nx j)(hb: ∀j:Nat,(j:Int)+1≠a→bl' j=bl j)(hb0: ∀j:Nat,(j:Int)+1=a→bl' j=0)(e:tail'=tail): ∃r,Q=t::r∧Q5z n ks' tail' nx' bl' r:=by
 obtain⟨r,hq⟩:=H.Q5s ht (by rw[h0];rfl)
 have hh:=H.hd
 rw[hq]at hh
 rw[Q3N]at hh
 rw[h0]at hh
 have hna:nx t=a∧a≠0:=by
  rcases hh with h|h|⟨h,_⟩|⟨a',h,h2,h3⟩|⟨h,_⟩
  ·cases h
  ·cases h
  ·cases h
  ·obtain rfl:=Mk.g3.inj h
   exact⟨h2,h3⟩
  ·cases h
 obtain⟨y,r',hr,hy,hay,hyk,hyt⟩:=H.succ hq hna.1 hna.2
 subst hr
 have hnd:=H.nd
 rw[hq]at hnd
 obtain⟨nd1,nd2⟩:=List.nodup_cons.1 hnd
 have hyr:y∉r':=(List.nodup_cons.1 nd2).1
 have ch:=H.ch
 rw[hq]at ch
 obtain⟨_,_,c3⟩:=ch
 refine⟨y::r',hq,nd2,fun x hx=>H.lt x (by rw[hq];exact List.mem_cons_of_mem _ hx),fun i hi=> ?_,by rw[e,H.tl,hq];rfl,
  Q4I (fun z _=>hn z) (fun z hz=> ?_) c3,Or.inr (Or.inr (Or.inr (Or.inr ⟨by rw[hk y hyt];exact hyk,hb0 y hay.symm⟩))),fun i hi=> ?_⟩
 ·by_cases e:i=t
  ·subst e;rw[h1];simp only[Mk.inq,Bool.false_eq_true,iff_false];exact nd1
  ·rw[hk i e]
   have:=H.inq i hi
   rw[hq]at this
   simp only[List.mem_cons,e,false_or]at this⊢
   exact this
 ·simp only[List.tail_cons]at hz
  have hzt:z≠t:=fun e=>nd1 (by simp[←e,hz])
  have hzy:(z:Int)+1≠a:=fun e=>hyr (by have:z=y:=by omega
                                       rw[←this];exact hz)
  exact⟨hk z hzt,hb z hzy⟩
 ·by_cases e:i=t
  ·subst e;rw[h1];exact⟨(fun h=>by rcases h with h|h<;>cases h),(fun h=>by cases h)⟩
  ·rw[hk i e,hn]
   by_cases e2:(i:Int)+1=a
   ·have:i=y:=by omega
    subst this
    rw[hyk]
    exact⟨(fun h=>by rcases h with h|h<;>cases h),(fun h=>by cases h)⟩
   ·rw[hb i e2];exact H.pre i hi
end
def Q8C(n:Nat)(m:Nat→Int):Nat→Int:=fun j=>if j<n then m (8+j)else 0
def Q8U(n:Nat)(m:Nat→Int):Nat→Int:=fun j=>if j<n then m (8+n+j)else 0
def QI{P:Type}(n tc:Nat)(mk:P→Mk)(d:P)(ps:List P)(m:Nat→Int):Prop:= ∃Q,Q5z n (fun j=>mk (ps.getD j d)) (m tc) (Q8C n m) (Q8U n m) Q
def Q1N(n tc:Nat)(m m':Nat→Int):Prop:=m' tc=m tc∧ ∀j,j<n→m' (8+j)=m (8+j)∧m' (8+n+j)=m (8+n+j)
section
variable {P:Type}{n tc:Nat}{mk:P→Mk}{d p p':P}{ps:List P}{m m':Nat→Int}{i:Nat}
theorem X2m(hl:ps.length=n)(hi:i<n):mk ((ps.set i p').getD i d)=mk p':=by rw[Q2K (by omega),if_pos rfl]
theorem Q8t(hl:ps.length=n)(hi:i<n){j:Nat}(hj:j≠i):mk ((ps.set i p').getD j d)=mk (ps.getD j d):=by rw[Q2K (by omega),if_neg (Ne.symm hj)]
theorem Q1N.refl:Q1N n tc m m:=⟨rfl,fun _ _=>⟨rfl,rfl⟩⟩
theorem Q1N.nx(h:Q1N n tc m m'): ∀j,Q8C n m' j=Q8C n m j:=fun j=>by
 unfold Q8C
 by_cases hj:j<n
 ·rw[if_pos hj,if_pos hj];exact(h.2 j hj).1
 ·rw[if_neg hj,if_neg hj]
theorem Q1N.bl(h:Q1N n tc m m'): ∀j,Q8U n m' j=Q8U n m j:=fun j=>by
 unfold Q8U
 by_cases hj:j<n
 ·rw[if_pos hj,if_pos hj];exact(h.2 j hj).2
 ·rw[if_neg hj,if_neg hj]
theorem X5x(hi:i<n):Q8C n m i=m (8+i):=by unfold Q8C;rw[if_pos hi]
theorem X5O(hi:i<n):Q8U n m i=m (8+n+i):=by unfold Q8U;rw[if_pos hi]
theorem QI.pre(H:QI n tc mk d ps m)(hi:i<n)(hp:ps.getD i d=p):((mk p= .nx∨mk p= .nb)→m (8+i)=0)∧(mk p= .nb→m (8+n+i)=1):=by
 obtain⟨Q,H⟩:=H
 have:=H.pre i hi
 rw[X5x hi,X5O hi]at this
 subst hp
 exact this
theorem QI.outs(H:QI n tc mk d ps m)(hl:ps.length=n)(hi:i<n)(hp:ps.getD i d=p)(h0:(mk p).inq=false)(h1:(mk p').inq=false)
 (hm:m' tc=m tc∧ ∀j,j<n→j≠i→m' (8+j)=m (8+j)∧m' (8+n+j)=m (8+n+j)) (hq:((mk p'= .nx∨mk p'= .nb)→m' (8+i)=0)∧(mk p'= .nb→m' (8+n+i)=1)):QI n tc mk d (ps.set i p') m':=by
 obtain⟨Q,H⟩:=H
 subst hp
 have ka:mk ((ps.set i p').getD i d)=mk p':=X2m hl hi
 have hqq:((mk ((ps.set i p').getD i d)= .nx∨mk ((ps.set i p').getD i d)= .nb)→Q8C n m' i=0)∧(mk ((ps.set i p').getD i d)= .nb→Q8U n m' i=1):=by rw[ka,X5x hi,X5O hi];exact hq
 refine⟨Q,H.outs (ks':=fun j=>mk ((ps.set i p').getD j d)) (nx':=Q8C n m') (bl':=Q8U n m') (tail':=m' tc) hi h0 (fun j hj=>Q8t hl hi hj) ((congrArg Mk.inq ka).trans h1) (fun j hj=> ?_) (fun j hj=> ?_) hm.1 hqq⟩
 ·unfold Q8C
  by_cases h:j<n
  ·rw[if_pos h,if_pos h];exact(hm.2 j h hj).1
  ·rw[if_neg h,if_neg h]
 ·unfold Q8U
  by_cases h:j<n
  ·rw[if_pos h,if_pos h];exact(hm.2 j h hj).2
  ·rw[if_neg h,if_neg h]
theorem QI.comes(H:QI n tc mk d ps m)(hl:ps.length=n)(hi:i<n)(hp:ps.getD i d=p)(h0:mk p= .nx∨mk p= .nb)(hz:m tc=0)(h1:mk p'= .hd)(e:m' tc=i+1)(hm: ∀j,j<n→m' (8+j)=m (8+j)∧m' (8+n+j)=m (8+n+j)):QI n tc mk d (ps.set i p') m':=by
 have hz2:=(H.pre hi hp).1 h0
 obtain⟨Q,H⟩:=H
 subst hp
 have ka:mk ((ps.set i p').getD i d)=mk p':=X2m hl hi
 refine⟨[i],H.comes (ks':=fun j=>mk ((ps.set i p').getD j d)) (nx':=Q8C n m') (bl':=Q8U n m') (tail':=m' tc) hi (by show(mk (ps.getD i d)).inq=false;rcases h0 with h|h<;>rw[h]<;>rfl) hz (by rw[X5x hi];exact hz2) (fun j hj=>Q8t hl hi hj) (ka.trans h1) (fun j=> ?_) (fun j=> ?_) e⟩
 ·unfold Q8C
  by_cases h:j<n
  ·rw[if_pos h,if_pos h];exact(hm j h).1
  ·rw[if_neg h,if_neg h]
 ·unfold Q8U
  by_cases h:j<n
  ·rw[if_pos h,if_pos h];exact(hm j h).2
  ·rw[if_neg h,if_neg h]
theorem QI.behind(H:QI n tc mk d ps m)(hl:ps.length=n)(hi:i<n)(hp:ps.getD i d=p)(h0:mk p= .nb)(hz:m tc≠0)(h1:mk p'= .e3 (m tc))(e:m' tc=i+1)(hm: ∀j,j<n→m' (8+j)=m (8+j)∧m' (8+n+j)=m (8+n+j)):QI n tc mk d (ps.set i p') m':=by
 obtain⟨Q,H⟩:=H
 subst hp
 have ka:mk ((ps.set i p').getD i d)=mk p':=X2m hl hi
 refine⟨Q++[i],H.behind (ks':=fun j=>mk ((ps.set i p').getD j d)) (nx':=Q8C n m') (bl':=Q8U n m') (tail':=m' tc) hi h0 hz (fun j hj=>Q8t hl hi hj) (ka.trans h1) (fun j=> ?_) (fun j=> ?_) e⟩
 ·unfold Q8C
  by_cases h:j<n
  ·rw[if_pos h,if_pos h];exact(hm j h).1
  ·rw[if_neg h,if_neg h]
 ·unfold Q8U
  by_cases h:j<n
  ·rw[if_pos h,if_pos h];exact(hm j h).2
  ·rw[if_neg h,if_neg h]
theorem QI.ok3(H:QI n tc mk d ps m)(hi:i<n)(hp:ps.getD i d=p){a:Int}(h0:mk p= .e3 a∨mk p= .g3 a):1≤a∧a≤n:=by
 obtain⟨Q,H⟩:=H
 subst hp
 rcases h0 with h0|h0
 ·obtain⟨k,x,r,_,_,_,h3,h4⟩:=H.pred hi h0
  omega
 ·obtain⟨r,hq⟩:=H.Q5s hi (by show(mk (ps.getD i d)).turn=true;rw[h0];rfl)
  have hh:=H.hd
  rw[hq,Q3N,h0]at hh
  have hna:Q8C n m i=a∧a≠0:=by
   rcases hh with h|h|⟨h,_⟩|⟨a',h,h2,h3⟩|⟨h,_⟩
   ·cases h
   ·cases h
   ·cases h
   ·obtain rfl:=Mk.g3.inj h
    exact⟨h2,h3⟩
   ·cases h
  obtain⟨y,r',_,hy,hay,_⟩:=H.succ hq hna.1 hna.2
  omega
theorem QI.link(H:QI n tc mk d ps m)(hl:ps.length=n)(hi:i<n)(hp:ps.getD i d=p){a:Int}(h0:mk p= .e3 a)(h1:mk p'= .e4)(e:m' tc=m tc)(hm: ∀j:Nat,j<n→((j:Int)+1=a→m' (8+j)=i+1)∧((j:Int)+1≠a→m' (8+j)=m (8+j))∧m' (8+n+j)=m (8+n+j)):QI n tc mk d (ps.set i p') m':=by
 have ho:=H.ok3 hi hp (Or.inl h0)
 obtain⟨Q,H⟩:=H
 subst hp
 have ka:mk ((ps.set i p').getD i d)=mk p':=X2m hl hi
 obtain⟨k,hk⟩: ∃k:Nat,a=(k:Int)+1:=⟨(a-1).toNat,by omega⟩
 subst hk
 have hkn:k<n:=by omega
 refine⟨Q,H.link (ks':=fun j=>mk ((ps.set i p').getD j d)) (nx':=Q8C n m') (bl':=Q8U n m') (tail':=m' tc) hi (p:=k) h0 (fun j hj=>Q8t hl hi hj) (ka.trans h1) (fun j hj=> ?_) (by rw[X5x hkn];exact(hm k hkn).1 rfl) (fun j=> ?_) e⟩
 ·unfold Q8C
  by_cases h:j<n
  ·rw[if_pos h,if_pos h];exact(hm j h).2.1 (by omega)
  ·rw[if_neg h,if_neg h]
 ·unfold Q8U
  by_cases h:j<n
  ·rw[if_pos h,if_pos h];exact(hm j h).2.2
  ·rw[if_neg h,if_neg h]
theorem QI.heads(H:QI n tc mk d ps m)(hl:ps.length=n)(hi:i<n)(hp:ps.getD i d=p)(h0:(mk p).turn=true∨(mk p= .e4∧m (8+n+i)=0))
 (h1:mk p'= .hd∨mk p'= .g1∨(mk p'= .g2∧(mk p).turn=true∧m tc≠i+1)∨(∃a,mk p'= .g3 a∧m (8+i)=a∧a≠0)) (hs:Q1N n tc m m'):QI n tc mk d (ps.set i p') m':=by
 obtain⟨Q,H⟩:=H
 subst hp
 have ka:mk ((ps.set i p').getD i d)=mk p':=X2m hl hi
 obtain⟨r,hq⟩: ∃r,Q=i::r:=by
  rcases h0 with h|⟨h,h2⟩
  ·exact H.Q5s hi h
  ·exact(H.X4g hi h (by rw[X5O hi];omega)).1
 refine⟨Q,H.heads (ks':=fun j=>mk ((ps.set i p').getD j d)) (nx':=Q8C n m') (bl':=Q8U n m') (tail':=m' tc) hi hq (fun j hj=>Q8t hl hi hj) ?_ hs.nx hs.bl hs.1 ?_⟩
 ·rw[Q3N]
  show mk ((ps.set i p').getD i d)=_∨mk ((ps.set i p').getD i d)=_∨(mk ((ps.set i p').getD i d)=_∧_)∨(∃a,mk ((ps.set i p').getD i d)=_∧_)∨(mk ((ps.set i p').getD i d)=_∧_)
  rw[ka,hs.nx,X5x hi]
  rcases h1 with h|h|⟨h,h2,h3⟩|⟨a,h,h2,h3⟩
  ·exact Or.inl h
  ·exact Or.inr (Or.inl h)
  ·exact Or.inr (Or.inr (Or.inl ⟨h,H.more hi hq h3⟩))
  ·exact Or.inr (Or.inr (Or.inr (Or.inl ⟨a,h,h2,h3⟩)))
 ·show(mk ((ps.set i p').getD i d)).inq=true
  rw[ka]
  rcases h1 with h|h|⟨h,_⟩|⟨a,h,_⟩<;>rw[h]<;>rfl
theorem QI.leaves(H:QI n tc mk d ps m)(hl:ps.length=n)(hi:i<n)(hp:ps.getD i d=p)(h0:(mk p).turn=true)(hz:m tc=i+1)(h1:mk p'= .out)(e:m' tc=0)(hm: ∀j,j<n→m' (8+j)=m (8+j)∧m' (8+n+j)=m (8+n+j)):QI n tc mk d (ps.set i p') m':=by
 obtain⟨Q,H⟩:=H
 subst hp
 have ka:mk ((ps.set i p').getD i d)=mk p':=X2m hl hi
 refine⟨[],H.leaves (ks':=fun j=>mk ((ps.set i p').getD j d)) (nx':=Q8C n m') (bl':=Q8U n m') (tail':=m' tc) hi h0 hz (fun j hj=>Q8t hl hi hj) (ka.trans h1) (fun j=> ?_) (fun j=> ?_) e⟩
 ·unfold Q8C
  by_cases h:j<n
  ·rw[if_pos h,if_pos h];exact(hm j h).1
  ·rw[if_neg h,if_neg h]
 ·unfold Q8U
  by_cases h:j<n
  ·rw[if_pos h,if_pos h];exact(hm j h).2
  ·rw[if_neg h,if_neg h]
theorem QI.gives(H:QI n tc mk d ps m)(hl:ps.length=n)(hi:i<n)(hp:ps.getD i d=p){a:Int}(h0:mk p= .g3 a)(h1:mk p'= .out)(e:m' tc=m tc)(hm: ∀j:Nat,j<n→((j:Int)+1=a→m' (8+n+j)=0)∧((j:Int)+1≠a→m' (8+n+j)=m (8+n+j))∧m' (8+j)=m (8+j)):QI n tc mk d (ps.set i p') m':=by
 have ho:=H.ok3 hi hp (Or.inr h0)
 obtain⟨Q,H⟩:=H
 subst hp
 have g1: ∀j,Q8C n m' j=Q8C n m j:=fun j=>by
  unfold Q8C
  by_cases h:j<n
  ·rw[if_pos h,if_pos h];exact(hm j h).2.2
  ·rw[if_neg h,if_neg h]
 have g2: ∀j:Nat,(j:Int)+1≠a→Q8U n m' j=Q8U n m j:=fun j hj=>by
  unfold Q8U
  by_cases h:j<n
  ·rw[if_pos h,if_pos h];exact(hm j h).2.1 hj
  ·rw[if_neg h,if_neg h]
 have g3: ∀j:Nat,(j:Int)+1=a→Q8U n m' j=0:=fun j hj=>by
  rw[X5O (show j<n by omega)];exact(hm j (by omega)).1 hj
 have ka:mk ((ps.set i p').getD i d)=mk p':=X2m hl hi
 obtain⟨r,_,h⟩:=H.gives (ks':=fun j=>mk ((ps.set i p').getD j d)) (nx':=Q8C n m') (bl':=Q8U n m') (tail':=m' tc) hi h0 (fun j hj=>Q8t hl hi hj) (ka.trans h1) g1 g2 g3 e
 exact⟨r,h⟩
theorem QI.one(H:QI n tc mk d ps m){j:Nat}(hi:i<n)(hj:j<n)(h1:(mk (ps.getD i d)).turn=true)(h2:(mk (ps.getD j d)).turn=true):i=j:=by
 obtain⟨Q,H⟩:=H
 exact H.one hi hj h1 h2
theorem QI.alone(H:QI n tc mk d ps m)(h1:n=1)(hi:i<n)(h:(mk (ps.getD i d)).turn=true):m tc=i+1:=by
 obtain⟨Q,H⟩:=H
 obtain⟨r,hq⟩:=H.Q5s hi h
 cases r with
 |nil=>rw[H.tl,hq];rfl
 |cons y r=>
  exfalso
  have hy:=H.lt y (by rw[hq];simp)
  have hnd:=H.nd
  rw[hq]at hnd
  have:y=i:=by omega
  subst this
  simp at hnd
end
end Go.Proofs.YthnimpkoidablaaGreat.Z
