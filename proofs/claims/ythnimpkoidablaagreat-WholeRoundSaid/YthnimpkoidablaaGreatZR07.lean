import Derived.Test.YthnimpkoidablaaGreatZR06
set_option linter.unusedVariables false
set_option linter.unusedSimpArgs false
namespace Go.Proofs.YthnimpkoidablaaGreat.Z
open Go.RowKit
section
variable {P:Type}
def ws(f:P→Int):List P→Int
 |[]=>0
 |x::l=>f x+ws f l
theorem Q0l{f:P→Int}{d x:P}: ∀{l:List P} {i:Nat},i<l.length→ws f (l.set i x)=ws f l-f (l.getD i d)+f x
 |[],i,h=>by simp at h
 |y::l,0,_=>by simp[ws];omega
 |y::l,i+1,h=>by
  have:=Q0l (f:=f) (d:=d) (x:=x) (l:=l) (i:=i) (by simpa using h)
  simp[ws]at this⊢
  omega
theorem Q1w{f:P→Int}(h: ∀x,0≤f x): ∀l:List P,0≤ws f l
 |[]=>Int.le_refl _
 |x::l=>by have:=Q1w h l;have:=h x;simp[ws];omega
theorem Q8b{f:P→Int}(h: ∀x,f x≤1): ∀l:List P,ws f l≤l.length
 |[]=>by simp[ws]
 |x::l=>by have:=Q8b h l;have:=h x;simp[ws];omega
theorem Q0m{f:P→Int}{d:P}(h: ∀x,0≤f x): ∀{l:List P} {i:Nat},i<l.length→f (l.getD i d)≤ws f l
 |[],i,hi=>by simp at hi
 |x::l,0,_=>by have:=Q1w h l;simp[ws];omega
 |x::l,i+1,hi=>by
  have:=Q0m h (l:=l) (i:=i) (d:=d) (by simpa using hi)
  have:=h x
  simp[ws]at*
  omega
theorem X3g{f:P→Int}{d:P}(h: ∀x,0≤f x){l:List P}{i j:Nat}(hi:i<l.length)(hj:j<l.length)(hij:i≠j):f (l.getD i d)+f (l.getD j d)≤ws f l:=by
 have h3: ∀{l:List P} {i j:Nat},i<l.length→j<l.length→i≠j→f (l.getD i d)+f (l.getD j d)≤ws f l:=by
  intro l
  induction l with
  |nil=>intro i j hi _ _;simp at hi
  |cons x l ih=>
   intro i j hi hj hij
   cases i with
   |zero=>
    cases j with
    |zero=>exact absurd rfl hij
    |succ j=>
     have:=Q0m (d:=d) h (l:=l) (i:=j) (by simpa using hj)
     simp[ws]at*
     omega
   |succ i=>
    cases j with
    |zero=>
     have:=Q0m (d:=d) h (l:=l) (i:=i) (by simpa using hi)
     simp[ws]at*
     omega
    |succ j=>
     have:=ih (i:=i) (j:=j) (by simpa using hi) (by simpa using hj) (by omega)
     have:=h x
     simp[ws]at*
     omega
 exact h3 hi hj hij
theorem Q6q{f:P→Int}{l:List P}(h: ∀x,x∈l→f x=0):ws f l=0:=by
 induction l with
 |nil=>rfl
 |cons x l ih=>simp[ws,h x (by simp),ih (fun y hy=>h y (List.mem_cons_of_mem _ hy))]
theorem Q0R{f:P→Int}{n:Nat}{x:P}(h:f x=0):ws f (List.replicate n x)=0:=Q6q (fun y hy=>by rw[(List.mem_replicate.1 hy).2,h])
theorem Q5H{f:P→Int}{d:P}{l:List P}{n:Nat}(hl:l.length=n)(h: ∀i,i<n→f (l.getD i d)=0):ws f l=0:=by
 refine Q6q (fun y hy=> ?_)
 obtain⟨i,hi,rfl⟩:=List.getElem_of_mem hy
 have:=h i (by omega)
 simpa[List.getD,hi]using this
end
section
variable {n:Nat}{L:List Int}{c x y:Int}
theorem Q6f(hl:L.length=8+4*n)(h0:0≤c)(hc:c.toNat<8+2*n):doA L ⟨1,c,0,0,0⟩=(⟨1,c,0,0,Q0j n L c.toNat⟩,true,L):=by
 rw[Q5y (by omega)]
 simp[Q0j,hc]
theorem Q7B(hl:L.length=8+4*n)(h0:0≤c)(hc:c.toNat<8+2*n):doA L ⟨3,c,x,0,0⟩=(⟨3,c,x,0,Q0j n L c.toNat⟩,true,L.set c.toNat ((Q0j n L c.toNat+x)%4294967296)):=by
 rw[Q5y (by omega)]
 simp[Q0j,hc]
theorem Q3Y(hl:L.length=8+4*n)(h0:0≤c)(hc:c.toNat<8+2*n):doA L ⟨2,c,x,0,0⟩=(⟨2,c,x,0,Q0j n L c.toNat⟩,true,L.set c.toNat x):=by
 rw[Q5y (by omega)]
 simp[Q0j,hc]
theorem Q4T(hl:L.length=8+4*n)(h0:0≤c)(hc:c.toNat<8+2*n):doA L ⟨5,c,x,y,0⟩=(⟨5,c,x,y,Q0j n L c.toNat⟩,true,if Q0j n L c.toNat=x then L.set c.toNat y else L):=by
 rw[Q5y (by omega)]
 simp[Q0j,hc]
theorem Q3Z(hl:L.length=8+4*n)(h0:0≤c)(hc:c.toNat<8+2*n):Q7N L c x y=(Q0j n L c.toNat==x):=by
 unfold Q7N
 rw[Q4T hl h0 hc]
 simp
end
theorem Q1u{L:List Int}{n mode task st c:Int}{p:Int→Bool}(h:(Q0t L n mode task st c p).done=true):(Q0t L n mode task st c p).stage=0:=by
 unfold Q0t at h⊢
 dsimp only at h⊢
 repeat' split at h
 all_goals first|(simp at h;done)|skip
 all_goals simp_all
theorem Q1b{L:List Int}{n mode task c:Int}{p:Int→Bool}(hm:mode=2):(Q0t L n mode task 4 c p).done=true∧(Q0t L n mode task 4 c p).stage=0:=by
 unfold Q0t
 dsimp only
 rw[Q4b hm (by omega) (by omega)]
 exact⟨rfl,rfl⟩
theorem Q1i{L:List Int}{n mode task c:Int}{p:Int→Bool}(hm:mode=2):(Q0t L n mode task 4 c p).seen=false:=by
 unfold Q0t
 dsimp only
 rw[Q4b hm (by omega) (by omega)]
 rfl
theorem Q2i{L:List Int}{n mode task st c:Int}{p:Int→Bool}(h0:0≤st)(h3:st≤3)(h:(Q0t L n mode task st c p).done=true):(Q0t L n mode task st c p).seen=true:=by
 have hs:Q1y mode st≠4:=by unfold Q1y;split<;>omega
 unfold Q0t at h⊢
 dsimp only at h⊢
 rw[if_neg hs]at h⊢
 repeat' split at h
 all_goals first|(simp at h;done)|skip
 all_goals simp_all
theorem Q2L{op h:Int}(hm:Q6T op h=true):(h=0∧(op=1∨op=3∨op=5∨op=6))∨(h=1∧(op=2∨op=7))∨(h≠0∧h≠1∧(op=4∨op=8)):=by
 unfold Q6T at hm
 split at hm
 ·rename_i h0
  simp at hm
  exact Or.inl ⟨h0,by omega⟩
 split at hm
 ·rename_i h0 h1
  simp at hm
  exact Or.inr (Or.inl ⟨h1,by omega⟩)
 ·rename_i h0 h1
  simp at hm
  exact Or.inr (Or.inr ⟨h0,h1,by omega⟩)
theorem X3u{α:Type}(l:List α)(i:Nat)(d:α):l.set i (l.getD i d)=l:=by
 apply List.ext_getElem?
 intro j
 rw[List.getElem?_set]
 split
 ·rename_i h
  subst h
  split
  ·rename_i h
   simp[List.getD,h]
  ·rename_i h
   simp[h]
 ·rfl
theorem X1n(M:Mt)(i:Nat):M.put i (M.fs.getD i Fr.zero) (M.hold.getD i 0) M.L=M:=by
 unfold Mt.put
 rw[X3u,X3u]
theorem X3F(M:Mt)(i:Nat)(f f':Fr)(h h':Int)(L L':List Int):(M.put i f h L).put i f' h' L'=M.put i f' h' L':=by
 simp[Mt.put]
theorem X4c{α:Type}{l:List α}{i:Nat}{d x:α}(h:i<l.length):(l.set i x).getD i d=x:=by
 simp[List.getD,h]
theorem Y0f(L:List Int)(n mode i:Int):Q2R L n mode i 0=false:=by
 unfold Q2R Q1y
 split<;>rfl
theorem Q9z{g:Rn→Rn}{M:Mt}{i:Nat}{f:Fr}{h:Int}{L:List Int}(hi:i<M.fs.length)(hh:i<M.hold.length)(hs:(!f.wk.on &&Q2R M.L M.n M.mode i f.st)=false):((M.put i f h M.L).Q4B g i).1=M.goes g i f h:=by
 have e1:(M.put i f h M.L).fs.getD i Fr.zero=f:=X4c hi
 have e2:(M.put i f h M.L).hold.getD i 0=h:=X4c hh
 have e3:(M.put i f h M.L).run i f=M.run i f:=rfl
 unfold Mt.Q4B Mt.goes
 rw[e1,e2,e3,hs]
 by_cases ho:(Q0K g (M.run i f)).over=true
 ·rw[if_pos ho,if_neg (by decide),if_pos ho]
  exact X3F _ _ _ _ _ _ _ _
 ·rw[if_neg ho,if_neg (by decide),if_neg ho]
  exact X3F _ _ _ _ _ _ _ _
theorem Q9K{g:Rn→Rn}{M:Mt}{i:Nat}(hi:i<M.fs.length)(hl:M.hold.length=M.fs.length)(op:Int):(M.Q3R g i op).1=M.Q5A g i op:=by
 unfold Mt.Q3R Mt.Q5A
 rw[if_pos ⟨by omega,by omega⟩]
 simp only[Int.toNat_natCast]
 by_cases hop:(M.fs.getD i Fr.zero).op=0
 ·rw[if_pos hop,if_pos hop]
  by_cases hm:Q6T op (M.hold.getD i 0)=true
  ·rw[if_pos (Y6Y hm),if_pos hm]
   unfold Mt.Q5V
   rw[if_pos hm]
   exact Q9z (L:=M.L) hi (by omega) (by show(!Wk.zero.on &&Q2R M.L M.n M.mode i 0)=false;rw[Y0f];rfl)
  ·rw[if_neg hm]
   split
   ·unfold Mt.Q5V
    rw[if_neg hm]
   ·rfl
 ·rw[if_neg hop,if_neg hop]
  have hb:(!(M.fs.getD i Fr.zero).wk.on &&Q2R M.L M.n M.mode i (M.fs.getD i Fr.zero).st)=M.Q3a i:=by
   unfold Mt.Q3a
   rw[show((M.fs.getD i Fr.zero).op !=0)=true by simp only[bne_iff_ne,ne_eq];exact hop]
   simp
  by_cases hs:M.Q3a i=true
  ·rw[if_pos hs]
   unfold Mt.goes
   rw[hb,if_pos hs]
   exact(X1n M i).symm
  ·rw[if_neg hs]
   have:=Q9z (g:=g) (M:=M) (i:=i) (f:=M.fs.getD i Fr.zero) (h:=M.hold.getD i 0) (L:=M.L) hi (by omega) (by rw[hb];simpa using hs)
   rw[X1n]at this
   exact this
theorem X7Z{g:Rn→Rn}{M:Mt}{t op:Int}(h: ¬(0≤t∧t<(M.fs.length:Int))):(M.Q3R g t op).1=M:=by
 unfold Mt.Q3R
 rw[if_neg h]
section
variable {P:Type}{K:Q3D P}{I:Nat→List P→(Nat→Int)→Prop}{n b:Nat}{mode:Int}{M:Mt}{ps:List P}{N V C:Nat}{nw nv:P→Nat}{cp:(Nat→Int)→Nat→P→Nat}
theorem MI.weak2(Kp:K.Q5D n I)(H:MI K I n (b+2) M ps):MI K I n b M ps:=
 ⟨H.num,H.fsl,H.hol,H.psl,H.len,H.abs,Kp.weak _ _ _ (Kp.weak _ _ _ H.inv),H.watch,H.woken⟩
theorem X4Y(A:K.All n mode I N V C nw nv cp)(h1:1≤n)(h2:n≤64)(hm:mode=1∨mode=2)(hM:M.mode=mode)(H:MI K I n (b+2) M ps)(t op:Int): ∃ps',MI K I n b (M.Q3R K.g t op).1 ps'∧(M.Q3R K.g t op).1.mode=mode:=by
 by_cases hin:0≤t∧t<(M.fs.length:Int)
 ·obtain⟨i,rfl⟩: ∃i:Nat,t=i:=⟨t.toNat,by omega⟩
  have G:=A.good
  rw[←hM]at G
  have hi:i<n:=by have:=H.fsl;omega
  rw[Q9K (by omega) (by rw[H.hol,H.fsl])]
  obtain⟨q,hq⟩:=Q9J G A.keeps A.live h1 h2 (by rw[hM];exact hm) H hi op
  exact⟨q,hq,(Q5d K.g M _ _).2.1.trans hM⟩
 ·rw[X7Z hin]
  exact⟨ps,H.weak2 A.keeps,hM⟩
end
structure Ph where
 hd:Bool
 inn:Bool
 up:Bool
 pd:Bool
 a2:Bool
 rd:Bool
 wt:Option Int
 b:Option Int
 sn:Option Int
def Ph.none:Ph:=⟨false,false,false,false,false,false, .none, .none, .none⟩
def wHd(q:Ph):Int:=if q.hd then 1 else 0
def wIn(q:Ph):Int:=if q.inn then 1 else 0
def wUp(q:Ph):Int:=if q.up then 1 else 0
def wPd(q:Ph):Int:=if q.pd then 1 else 0
def wA2(q:Ph):Int:=if q.a2 then 1 else 0
def wRd(q:Ph):Int:=if q.rd then 1 else 0
def Q2Z(ph:Int)(q:Ph):Int:=if q.wt=some (2+(ph+1)%2)then 1 else 0
def Q3g(ph:Int)(q:Ph):Int:=if q.wt=some (2+ph%2)then 1 else 0
structure PhOk(q:Ph):Prop where
 some:wIn q+wUp q+wPd q+wA2 q≤wHd q
 wt: ∀w,q.wt= .some w→(w=2∨w=3)∧q.hd=false∧q.rd=false
 b: ∀v,q.b= .some v→q.hd=true
 sn: ∀v,q.sn= .some v→q.pd=true
 upr:wUp q≤wRd q
theorem Q2Y: ∀q,0≤wHd q:=by intro q;simp only[wHd];split<;>decide
theorem Q2l: ∀q,0≤wIn q:=by intro q;simp only[wIn];split<;>decide
theorem Q2r: ∀q,0≤wUp q:=by intro q;simp only[wUp];split<;>decide
theorem Q2Q: ∀q,0≤wPd q:=by intro q;simp only[wPd];split<;>decide
theorem Q2s: ∀q,0≤wA2 q:=by intro q;simp only[wA2];split<;>decide
theorem Q2X: ∀q,0≤wRd q:=by intro q;simp only[wRd];split<;>decide
theorem Q2E{ph:Int}: ∀q,0≤Q2Z ph q:=by intro q;simp only[Q2Z];split<;>decide
theorem Q2F{ph:Int}: ∀q,0≤Q3g ph q:=by intro q;simp only[Q3g];split<;>decide
theorem Q6D{P:Type}(f g:P→Int): ∀l,ws (fun x=>f x+g x) l=ws f l+ws g l
 |[]=>rfl
 |x::l=>by have:=Q6D f g l;simp only[ws];omega
theorem X3h{P:Type}{f g:P→Int}: ∀{l:List P},(∀x,x∈l→f x≤g x)→ws f l≤ws g l
 |[],_=>Int.le_refl _
 |x::l,h=>by have:=X3h (l:=l) (fun y hy=>h y (List.mem_cons_of_mem _ hy));have:=h x (by simp);simp only[ws];omega
theorem X2b{P:Type}{f:P→Int}{d:P}: ∀{l:List P} {i:Nat},(∀x,x∈l→0≤f x)→i<l.length→f (l.getD i d)≤ws f l
 |[],i,_,hi=>by simp at hi
 |x::l,0,h,_=>by
  have:=X3h (f:=fun _=>0) (g:=f) (l:=l) (fun y hy=>h y (List.mem_cons_of_mem _ hy))
  have e:ws (fun _:P=>(0:Int)) l=0:=Q6q (fun _ _=>rfl)
  simp only[ws,List.getD_cons_zero]
  omega
 |x::l,i+1,h,hi=>by
  have:=X2b (l:=l) (i:=i) (d:=d) (fun y hy=>h y (List.mem_cons_of_mem _ hy)) (by simpa using hi)
  have:=h x (by simp)
  simp only[ws,List.getD_cons_succ]
  omega
theorem Y1Q{P:Type}(f g:P→Int): ∀l,ws (fun x=>f x-g x) l=ws f l-ws g l
 |[]=>rfl
 |x::l=>by have:=Y1Q f g l;simp only[ws];omega
theorem Q0k{P:Type}{l:List P}{i:Nat}{d:P}(h:i<l.length):l.getD i d∈l:=by simp[List.getD,h]
theorem PhOk.turn{q:Ph}(h:PhOk q)(hp:q.pd=true):q.hd=true:=by
 have h1:=h.some
 have k4:=Q2l q
 have k5:=Q2r q
 have k6:=Q2s q
 cases hh:q.hd with
 |true=>rfl
 |false=>
  simp only[wHd,wPd,hp,hh,if_true,Bool.false_eq_true,if_false]at h1
  omega
structure Q2u(l:List Ph)(x0 x1 ph Rin Rout:Int):Prop where
 len:l.length≤64
 phw:0≤ph∧ph<4294967296
 x1:x1=256*Rout%4294967296
 cnt:Rin-Rout=ws wRd l+ws (Q2Z ph) l+ws (Q3g ph) l
 on:ws wIn l+ws wUp l+ws wPd l=1→x0=(256*Rin+(2+ph%2))%4294967296
 off:ws wIn l+ws wUp l+ws wPd l=0→x0=256*Rin%4294967296
 one:ws wHd l≤1
 wr:ws wIn l=1→ws wRd l=0∧ws (Q2Z ph) l=0
 ups:ws wUp l=1→ws wRd l=1∧ws (Q2Z ph) l=0
 lv:ws wA2 l=1→ws (Q2Z ph) l=0
 nw:ws wIn l+ws wUp l+ws wPd l=0→ws wA2 l=0→ws (Q3g ph) l=0
 ok: ∀q,q∈l→PhOk q
 bs: ∀q,q∈l→ ∀v,q.b=some v→v=ph
 sn: ∀q,q∈l→ ∀a,q.sn=some a→ ∃A,a=256*A%4294967296∧A-Rout=ws wRd l+ws (Q2Z ph) l
section
variable {l:List Ph}{x0 x1 ph Rin Rout:Int}{i:Nat}
theorem Q2u.sums(H:Q2u l x0 x1 ph Rin Rout):(0≤ws wHd l∧0≤ws wIn l∧0≤ws wUp l∧0≤ws wPd l∧0≤ws wA2 l∧0≤ws wRd l∧0≤ws (Q2Z ph) l∧0≤ws (Q3g ph) l)∧ws wIn l+ws wUp l+ws wPd l+ws wA2 l≤ws wHd l∧ws wRd l+ws (Q2Z ph) l+ws (Q3g ph) l≤64:=by
 refine⟨⟨Q1w Q2Y l,Q1w Q2l l,Q1w Q2r l,Q1w Q2Q l,Q1w Q2s l,Q1w Q2X l,Q1w Q2E l,Q1w Q2F l⟩,?_,?_⟩
 ·have h:=X3h (f:=fun q=>wIn q+wUp q+wPd q+wA2 q) (g:=wHd) (l:=l) (fun q hq=>(H.ok q hq).some)
  have e1:=Q6D (fun q=>wIn q+wUp q+wPd q) wA2 l
  have e2:=Q6D (fun q=>wIn q+wUp q) wPd l
  have e3:=Q6D wIn wUp l
  omega
 ·have h:=X3h (f:=fun q=>wRd q+Q2Z ph q+Q3g ph q) (g:=fun _=>1) (l:=l) (fun q hq=>by
   have hw:=(H.ok q hq).wt
   unfold wRd Q2Z Q3g
   cases hq2:q.wt with
   |none=>simp;split<;>decide
   |some w=>
    obtain⟨h1,h2,h3⟩:=hw w hq2
    rw[h3]
    simp only[Option.some.injEq,Bool.false_eq_true,if_false]
    split<;>split<;>omega)
  have e1:=Q6D (fun q=>wRd q+Q2Z ph q) (Q3g ph) l
  have e2:=Q6D wRd (Q2Z ph) l
  have e3:ws (fun _:Ph=>(1:Int)) l=l.length:=by
   have: ∀l:List Ph,ws (fun _:Ph=>(1:Int)) l=l.length:=fun l=>by
    induction l with
    |nil=>rfl
    |cons x l ih=>simp only[ws,List.length_cons];omega
   exact this l
  have:=H.len
  omega
theorem Q2u.own(H:Q2u l x0 x1 ph Rin Rout)(hi:i<l.length){q:Ph}(hq:l.getD i Ph.none=q):wRd q-wUp q≤ws wRd l-ws wUp l∧wHd q-(wIn q+wUp q+wPd q+wA2 q)≤ws wHd l-(ws wIn l+ws wUp l+ws wPd l+ws wA2 l):=by
 have h1:=X2b (f:=fun q=>wRd q-wUp q) (d:=Ph.none) (l:=l) (i:=i) (fun x hx=>by have:=(H.ok x hx).upr;omega) hi
 have h2:=X2b (f:=fun q=>wHd q-(wIn q+wUp q+wPd q+wA2 q)) (d:=Ph.none) (l:=l) (i:=i) (fun x hx=>by have:=(H.ok x hx).some;omega) hi
 rw[hq]at h1 h2
 rw[Y1Q]at h1 h2
 have e1:=Q6D (fun q=>wIn q+wUp q+wPd q) wA2 l
 have e2:=Q6D (fun q=>wIn q+wUp q) wPd l
 have e3:=Q6D wIn wUp l
 constructor<;>omega
theorem Q2u.bits(H:Q2u l x0 x1 ph Rin Rout)(h: ¬x0%4=0):x0%4=2+ph%2:=by
 obtain⟨⟨s0,s1,s2,s3,s4,s5,s6,s7⟩,s8,s9⟩:=H.sums
 have on:=H.on
 have off:=H.off
 have one:=H.one
 omega
theorem Q2u.alone(H:Q2u l x0 x1 ph Rin Rout){q:Ph}(hi:i<l.length)(hq:l.getD i Ph.none=q)(h1:q.hd=true){j:Nat}(hj:j<l.length)(hji:j≠i):(l.getD j Ph.none).hd=false:=by
 have h2:=X3g (d:=Ph.none) Q2Y (l:=l) (i:=i) (j:=j) hi hj (fun h=>hji h.symm)
 have h3:=H.one
 rw[hq]at h2
 cases h:(l.getD j Ph.none).hd with
 |false=>rfl
 |true=>
  exfalso
  unfold wHd at h2
  rw[h,h1]at h2
  simp at h2
  have:ws wHd l≤1:=h3
  unfold wHd at this
  omega
theorem Q0i{q q':Ph}(hi:i<l.length)(h:q∈l.set i q'):q=q'∨ ∃j,j<l.length∧j≠i∧l.getD j Ph.none=q:=by
 obtain⟨j,hj,rfl⟩:=List.getElem_of_mem h
 rw[List.length_set]at hj
 by_cases e:i=j
 ·subst e;left;simp
 ·right
  refine⟨j,hj,fun h=>e h.symm,?_⟩
  rw[List.getElem_set_ne e]
  simp[List.getD,hj]
theorem Q2u.store(H:Q2u l x0 x1 ph Rin Rout){v:Int}(hi:i<l.length)(hq:l.getD i Ph.none=⟨true,false,false,false,true,false, .none,some v, .none⟩):Q2u (l.set i ⟨true,false,false,false,false,false, .none, .none, .none⟩) (x0) (x1) ((v+1)%4294967296) (Rin) (Rout):=by
 have QM:=Q0k (d:=Ph.none) hi
 have QA:=fun h j hj hji=>H.alone hi hq h (j:=j) hj hji
 have⟨o8,o9⟩:=H.own hi hq
 rw[hq]at QM
 have QB:=H.bs _ QM
 have QS:=H.sn _ QM
 have QK:=H.ok _ QM
 obtain⟨⟨s0,s1,s2,s3,s4,s5,s6,s7⟩,s8,s9⟩:=H.sums
 have phw:=H.phw
 have x1e:=H.x1
 have cnt:=H.cnt
 have on:=H.on
 have off:=H.off
 have one:=H.one
 have wr:=H.wr
 have ups:=H.ups
 have lv:=H.lv
 have nw:=H.nw
 have e0:=Q0l (f:=wHd) (d:=Ph.none) (x:=⟨true,false,false,false,false,false, .none, .none, .none⟩) hi
 have e1:=Q0l (f:=wIn) (d:=Ph.none) (x:=⟨true,false,false,false,false,false, .none, .none, .none⟩) hi
 have e2:=Q0l (f:=wUp) (d:=Ph.none) (x:=⟨true,false,false,false,false,false, .none, .none, .none⟩) hi
 have e3:=Q0l (f:=wPd) (d:=Ph.none) (x:=⟨true,false,false,false,false,false, .none, .none, .none⟩) hi
 have e4:=Q0l (f:=wA2) (d:=Ph.none) (x:=⟨true,false,false,false,false,false, .none, .none, .none⟩) hi
 have e5:=Q0l (f:=wRd) (d:=Ph.none) (x:=⟨true,false,false,false,false,false, .none, .none, .none⟩) hi
 have e6:=Q0l (f:=Q2Z ph) (d:=Ph.none) (x:=⟨true,false,false,false,false,false, .none, .none, .none⟩) hi
 have e7:=Q0l (f:=Q3g ph) (d:=Ph.none) (x:=⟨true,false,false,false,false,false, .none, .none, .none⟩) hi
 have o0:=Q0m (d:=Ph.none) Q2Y hi
 have o1:=Q0m (d:=Ph.none) Q2l hi
 have o2:=Q0m (d:=Ph.none) Q2r hi
 have o3:=Q0m (d:=Ph.none) Q2Q hi
 have o4:=Q0m (d:=Ph.none) Q2s hi
 have o5:=Q0m (d:=Ph.none) Q2X hi
 have o6:=Q0m (d:=Ph.none) (Q2E (ph:=ph)) hi
 have o7:=Q0m (d:=Ph.none) (Q2F (ph:=ph)) hi
 rw[hq]at e0 e1 e2 e3 e4 e5 e6 e7 o0 o1 o2 o3 o4 o5 o6 o7
 simp only[wHd,wIn,wUp,wPd,wA2,wRd,Q2Z,Q3g,if_true,if_false,Bool.false_eq_true,reduceCtorEq,Option.some.injEq]at e0 e1 e2 e3 e4 e5 e6 e7 o0 o1 o2 o3 o4 o5 o6 o7 o8 o9
 have hv:=QB _ rfl
 subst hv
 have eo:Q2Z ((v+1)%4294967296)=Q3g v:=by
  funext q
  unfold Q2Z Q3g
  rw[show(2:Int)+((v+1)%4294967296+1)%2=2+v%2 by omega]
 have en:Q3g ((v+1)%4294967296)=Q2Z v:=by
  funext q
  unfold Q2Z Q3g
  rw[show(2:Int)+(v+1)%4294967296%2=2+(v+1)%2 by omega]
 refine⟨by rw[List.length_set];exact H.len,by omega,by omega,by(try simp only[eo,en]);omega,by(try simp only[eo,en]);omega,by(try simp only[eo,en]);omega,by(try simp only[eo,en]);omega,by(try simp only[eo,en]);omega,by(try simp only[eo,en]);omega,by(try simp only[eo,en]);omega,by(try simp only[eo,en]);omega,fun q hm=> ?_,fun q hm v hv=> ?_,fun q hm a ha=> ?_⟩
 ·rcases Q0i hi hm with rfl|⟨j,hj,hji,rfl⟩
  ·refine⟨by simp[wHd,wIn,wUp,wPd,wA2],fun w hw=> ?_,fun v hv=> ?_,fun v hv=> ?_,by simp[wUp,wRd]⟩
   ·first|(cases hw;done)|(obtain rfl:=Option.some.inj hw;exact⟨by omega,rfl,rfl⟩)
   ·first|(cases hv;done)|rfl
   ·first|(cases hv;done)|rfl
  ·exact H.ok _ (Q0k hj)
 ·rcases Q0i hi hm with rfl|⟨j,hj,hji,rfl⟩
  ·first|(cases hv;done)|(obtain rfl:=Option.some.inj hv;exact QB _ rfl)
  ·exfalso
   have k1:=QA rfl j hj hji
   have k2:=(H.ok _ (Q0k (d:=Ph.none) hj)).b _ hv
   rw[k1]at k2
   cases k2
 ·rcases Q0i hi hm with rfl|⟨j,hj,hji,rfl⟩
  ·first|(cases ha;done)|(obtain rfl:=Option.some.inj ha;omega)
  ·exfalso
   have k1:=QA rfl j hj hji
   have k2:=(H.ok _ (Q0k (d:=Ph.none) hj)).sn a ha
   have k3:=(H.ok _ (Q0k (d:=Ph.none) hj)).some
   have k4:=Q2l (l.getD j Ph.none)
   have k5:=Q2r (l.getD j Ph.none)
   have k6:=Q2s (l.getD j Ph.none)
   simp only[wHd,wPd,k1,k2,if_true,Bool.false_eq_true,if_false]at k3
   omega
end
inductive Mk
 |out|nx|nb|e3 (a:Int)|e4|hd|g1|g2|g3 (a:Int)
def Mk.turn:Mk→Bool
 |.hd=>true| .g1=>true| .g2=>true| .g3 _=>true
 |_=>false
def Mk.inq:Mk→Bool
 |.out=>false| .nx=>false| .nb=>false
 |_=>true
def tlw:List Nat→Int
 |[]=>0
 |[x]=>x+1
 |_::y::r=>tlw (y::r)
def Chain(ks:Nat→Mk)(nx bl:Nat→Int):List Nat→Prop
 |[]=>True
 |[x]=>nx x=0
 |x::y::r=>((ks y= .e3 (x+1)∧nx x=0)∨(ks y= .e4∧nx x=y+1))∧bl y=1∧Chain ks nx bl (y::r)
def Head(ks:Nat→Mk)(nx bl:Nat→Int):List Nat→Prop
 |[]=>True
 |x::r=>ks x= .hd∨ks x= .g1∨(ks x= .g2∧r≠[])∨(∃a,ks x= .g3 a∧nx x=a∧a≠0)∨(ks x= .e4∧bl x=0)
structure Q5z(n:Nat)(ks:Nat→Mk)(tail:Int)(nx bl:Nat→Int)(Q:List Nat):Prop where
 nd:Q.Nodup
 lt: ∀x,x∈Q→x<n
 inq: ∀i,i<n→(i∈Q↔(ks i).inq=true)
 tl:tail=tlw Q
 ch:Chain ks nx bl Q
 hd:Head ks nx bl Q
 pre: ∀i,i<n→((ks i= .nx∨ks i= .nb)→nx i=0)∧(ks i= .nb→bl i=1)
theorem Q4x{ks:Nat→Mk}{nx bl:Nat→Int}{t:Nat}: ∀{x:Nat} {r:List Nat},Chain ks nx bl (x::r)→t∈r→ ∃p,p∈x::r∧((ks t= .e3 (p+1)∧nx p=0)∨(ks t= .e4∧nx p=t+1))∧bl t=1
 |x,[],_,h=>by simp at h
 |x,y::r,hc,h=>by
  obtain⟨c1,c2,c3⟩:=hc
  rcases List.mem_cons.1 h with rfl|h
  ·exact⟨x,by simp,c1,c2⟩
  ·obtain⟨p,h1,h2,h3⟩:=Q4x c3 h
   exact⟨p,List.mem_cons_of_mem _ h1,h2,h3⟩
section
variable {n:Nat}{ks ks':Nat→Mk}{tail tail':Int}{nx nx' bl bl':Nat→Int}{Q:List Nat}{t:Nat}
theorem Q5z.Q5s(H:Q5z n ks tail nx bl Q)(ht:t<n)(h:(ks t).turn=true): ∃r,Q=t::r:=by
 have hm:t∈Q:=(H.inq t ht).2 (by cases hk:ks t<;>rw[hk]at h<;>first|rfl|(cases h))
 have ch:=H.ch
 cases Q with
 |nil=>simp at hm
 |cons x r=>
  rcases List.mem_cons.1 hm with rfl|hm
  ·exact⟨r,rfl⟩
  ·obtain⟨p,_,h2,_⟩:=Q4x ch hm
   rcases h2 with⟨h2,_⟩|⟨h2,_⟩<;>rw[h2]at h<;>cases h
theorem Q5z.X4g(H:Q5z n ks tail nx bl Q)(ht:t<n)(h:ks t= .e4)(hb:bl t≠1):(∃r,Q=t::r)∧ ∀i,i<n→(ks i).turn=false:=by
 have hm:t∈Q:=(H.inq t ht).2 (by rw[h];rfl)
 have ch:=H.ch
 have hq: ∃r,Q=t::r:=by
  cases Q with
  |nil=>simp at hm
  |cons x r=>
   rcases List.mem_cons.1 hm with rfl|hm
   ·exact⟨r,rfl⟩
   ·obtain⟨p,_,_,h3⟩:=Q4x ch hm
    exact absurd h3 hb
 refine⟨hq,fun i hi=> ?_⟩
 cases hk:(ks i).turn with
 |false=>rfl
 |true=>
  obtain⟨r,e⟩:=hq
  obtain⟨r',e2⟩:=H.Q5s hi hk
  rw[e]at e2
  have:=(List.cons.inj e2).1
  subst this
  rw[h]at hk
  cases hk
end
def Q8C(n:Nat)(m:Nat→Int):Nat→Int:=fun j=>if j<n then m (8+j)else 0
def Q8U(n:Nat)(m:Nat→Int):Nat→Int:=fun j=>if j<n then m (8+n+j)else 0
def QI{P:Type}(n tc:Nat)(mk:P→Mk)(d:P)(ps:List P)(m:Nat→Int):Prop:= ∃Q,Q5z n (fun j=>mk (ps.getD j d)) (m tc) (Q8C n m) (Q8U n m) Q
def Q1N(n tc:Nat)(m m':Nat→Int):Prop:=m' tc=m tc∧ ∀j,j<n→m' (8+j)=m (8+j)∧m' (8+n+j)=m (8+n+j)
section
variable {P:Type}{n tc:Nat}{mk:P→Mk}{d p p':P}{ps:List P}{m m':Nat→Int}{i:Nat}
theorem Q1N.refl:Q1N n tc m m:=⟨rfl,fun _ _=>⟨rfl,rfl⟩⟩
theorem Q1N.nx(h:Q1N n tc m m'): ∀j,Q8C n m' j=Q8C n m j:=fun j=>by
 unfold Q8C
 by_cases hj:j<n
 ·rw[if_pos hj,if_pos hj];exact(h.2 j hj).1
 ·rw[if_neg hj,if_neg hj]
theorem X5O(hi:i<n):Q8U n m i=m (8+n+i):=by unfold Q8U;rw[if_pos hi]
end
end Go.Proofs.YthnimpkoidablaaGreat.Z
