import Derived.Test.YthnimpkoidablaaGreatZR00
import Derived.Test.YthnimpkoidablaaGreatZA22
import Derived.Test.YthnimpkoidablaaGreatZR01
set_option linter.unusedVariables false
set_option linter.unusedSimpArgs false
namespace Go.Proofs.YthnimpkoidablaaGreat.Z
open Go.RowKit
section
open Go.RowKit Go.ChangeShapes Go.WideShapes Go.ChangeAt Go.Deep
theorem X3P{P:Program}{H:Type}{enc:TypeId×Value→H}{w:World}{t:TypeId}{k:IntKind}{v:Value}{d:DataW H}{p:List MemPlace}{r:Reach}{base:Nat}
 (ht:P.underlying t=some (.int k)) (hv:Value.okWide P w r base t v) (h:DataW.Trod enc P w 0 (fun _=>true) true t v d p): ∃n,v= .int k n∧(Lit.int k n).wf=true:=by
 obtain⟨n,h1,_,_,h2⟩:=open_int ht hv h
 exact⟨n,h1,h2⟩
end
def StF(S0:List Nat)(w0:World)(p:Wl)(M:Mt)(rb:Nat)(w:World):Prop:= ∃rest,StK S0 w0 p M rb rest w
theorem StK.f{S0:List Nat}{w0:World}{p:Wl}{M:Mt}{rb:Nat}{rest:List Res}{w:World}(h:StK S0 w0 p M rb rest w):StF S0 w0 p M rb w:=⟨rest,h⟩
theorem StK.set{S0:List Nat}{w0:World}{p:Wl}{M:Mt}{rb:Nat}{rest:List Res}{w:World}(h:StK S0 w0 p M rb rest w)(i:Nat)(v:Value):StK S0 w0 p M rb rest (w.setCell ⟨rb,i,none⟩ v):=by
 obtain⟨cs,hc,H⟩:=h
 exact⟨_,by simpa using hc,H.set i v⟩
def shL(τ:Nat→Int→Int)(L:List Int):List Int:=L.mapIdx τ
def Far(τ:Nat→Int→Int):Prop:= ∀j v,8≤j→τ j v=v
section
variable {τ:Nat→Int→Int}{L:List Int}
theorem shL_len:(shL τ L).length=L.length:=by simp[shL]
theorem shL_get{j:Nat}(h:j<L.length):(shL τ L).getD j 0=τ j (L.getD j 0):=by
 simp[shL,List.getD,h]
theorem shL_set{j:Nat}{v:Int}:(shL τ L).set j (τ j v)=shL τ (L.set j v):=by
 apply List.ext_getElem?
 intro i
 simp only[shL,List.getElem?_set,List.getElem?_mapIdx,List.length_mapIdx]
 by_cases h:j=i
 ·subst h
  simp only[if_true]
  split<;>simp
 ·simp[h]
theorem doA_sh{k cc x1 y1 x2 y2:Int}(h: ∀j:Nat,cc=j→j<L.length→
 (k=3→(τ j (L.getD j 0)+x2)%4294967296=τ j ((L.getD j 0+x1)%4294967296))∧(k=2∨k=4→x2=τ j x1)∧(k=5→(τ j (L.getD j 0)=x2↔L.getD j 0=x1)∧y2=τ j y1)):
 (doA (shL τ L) ⟨k,cc,x2,y2,0⟩).1.kind=(doA L ⟨k,cc,x1,y1,0⟩).1.kind∧(doA (shL τ L) ⟨k,cc,x2,y2,0⟩).1.cell=(doA L ⟨k,cc,x1,y1,0⟩).1.cell∧(doA (shL τ L) ⟨k,cc,x2,y2,0⟩).2.1=(doA L ⟨k,cc,x1,y1,0⟩).2.1∧
 (doA (shL τ L) ⟨k,cc,x2,y2,0⟩).2.2=shL τ (doA L ⟨k,cc,x1,y1,0⟩).2.2∧
 (∀j:Nat,cc=j→j<L.length→(k=1∨k=2∨k=3∨k=4∨k=5)→(doA (shL τ L) ⟨k,cc,x2,y2,0⟩).1.old=τ j (doA L ⟨k,cc,x1,y1,0⟩).1.old)∧
 ((∀j:Nat,cc=j→L.length≤j)→(doA (shL τ L) ⟨k,cc,x2,y2,0⟩).1.old=(doA L ⟨k,cc,x1,y1,0⟩).1.old):=by
 unfold doA
 rw[shL_len]
 by_cases hc:0≤cc∧cc<L.length
 ·rw[if_pos hc,if_pos hc]
  obtain⟨j,rfl⟩: ∃j:Nat,cc=j:=⟨cc.toNat,by omega⟩
  have hj:j<L.length:=by omega
  obtain⟨h3,h24,h5⟩:=h j rfl hj
  simp only[Int.toNat_natCast]
  rw[shL_get hj]
  have hnot: ¬(∀i:Nat,(j:Int)=i→L.length≤i):=fun h=>by have:=h j rfl;omega
  by_cases k1:k=1
  ·simp only[k1,if_true]
   exact⟨trivial,trivial,trivial,trivial,fun i hi _ _=>by rw[show i=j by omega],fun h=>absurd h hnot⟩
  simp only[k1,if_false]
  by_cases k3:k=3
  ·simp only[k3,if_true]
   refine⟨trivial,trivial,trivial,?_,fun i hi _ _=>by rw[show i=j by omega],fun h=>absurd h hnot⟩
   rw[h3 k3,shL_set]
  simp only[k3,if_false]
  by_cases k5:k=5
  ·simp only[k5,if_true]
   obtain⟨h6,h7⟩:=h5 k5
   refine⟨trivial,trivial,trivial,?_,fun i hi _ _=>by rw[show i=j by omega],fun h=>absurd h hnot⟩
   by_cases he:L.getD j 0=x1
   ·rw[if_pos (h6.2 he),if_pos he,h7,shL_set]
   ·rw[if_neg (fun h=>he (h6.1 h)),if_neg he]
  simp only[k5,if_false]
  by_cases k2:k=2∨k=4
  ·simp only[k2,if_true]
   refine⟨trivial,trivial,trivial,?_,fun i hi _ _=>by rw[show i=j by omega],fun h=>absurd h hnot⟩
   rw[h24 k2,shL_set]
  ·simp only[k2,if_false]
   exact⟨trivial,trivial,trivial,trivial,fun i _ _ hk=>(by rcases hk with h|h|h|h|h<;>first|exact h.elim|exact absurd h k1|exact absurd h k3|exact absurd h k5|exact absurd (Or.inl h) k2|exact absurd (Or.inr h) k2),fun h=>absurd h hnot⟩
 ·rw[if_neg hc,if_neg hc]
  exact⟨rfl,rfl,rfl,rfl,fun j hj hl _=>absurd ⟨by omega,by omega⟩ hc,fun _=>rfl⟩
structure Rl(τ:Nat→Int→Int)(s1 s2:Rn):Prop where
 n:s2.n=s1.n
 mode:s2.mode=s1.mode
 task:s2.task=s1.task
 op:s2.f.op=s1.f.op
 line:s2.f.line=s1.f.line
 st:s2.f.st=s1.f.st
 wk:s2.f.wk=s1.f.wk
 ret:s2.f.ret=s1.f.ret
 notes:s2.notes=s1.notes
 kind:s2.acc.kind=s1.acc.kind
 cell:s2.acc.cell=s1.acc.cell
 L:s2.L=shL τ s1.L
variable {s1 s2:Rn}
theorem rl_did(h:Rl τ s1 s2){R1 R2:Acc×Bool×List Int}(e1:R2.1.kind=R1.1.kind)(e2:R2.1.cell=R1.1.cell)(e3:R2.2.2=shL τ R1.2.2):Rl τ (s1.did R1) (s2.did R2):=
 ⟨h.n,h.mode,h.task,h.op,h.line,h.st,h.wk,h.ret,h.notes,e1,e2,e3⟩
theorem rl_setA(h:Rl τ s1 s2)(x y:Int):Rl τ (s1.Q0h x) (s2.Q0h y):=⟨h.n,h.mode,h.task,h.op,h.line,h.st,h.wk,h.ret,h.notes,h.kind,h.cell,h.L⟩
theorem rl_setB(h:Rl τ s1 s2)(x y:Int):Rl τ (s1.setB x) (s2.setB y):=⟨h.n,h.mode,h.task,h.op,h.line,h.st,h.wk,h.ret,h.notes,h.kind,h.cell,h.L⟩
theorem rl_goto(h:Rl τ s1 s2)(x:Int):Rl τ (s1.goto x) (s2.goto x):=⟨h.n,h.mode,h.task,h.op,rfl,h.st,h.wk,h.ret,h.notes,h.kind,h.cell,h.L⟩
theorem rl_fin(h:Rl τ s1 s2)(x:Bool):Rl τ (s1.fin x) (s2.fin x):=⟨h.n,h.mode,h.task,h.op,h.line,h.st,h.wk,rfl,h.notes,h.kind,h.cell,h.L⟩
theorem rl_wake(h:Rl τ s1 s2)(x:Int):Rl τ (s1.wake x) (s2.wake x):=⟨h.n,h.mode,h.task,h.op,h.line,h.st,by show Q3e s2.mode x=Q3e s1.mode x;rw[h.mode],h.ret,h.notes,h.kind,h.cell,h.L⟩
theorem rl_note(h:Rl τ s1 s2)(x y:Int):Rl τ (s1.note x y) (s2.note x y):=⟨h.n,h.mode,h.task,h.op,h.line,h.st,h.wk,h.ret,by show s2.notes++[⟨s2.task,x,0,y⟩]=s1.notes++[⟨s1.task,x,0,y⟩];rw[h.notes,h.task],h.kind,h.cell,h.L⟩
theorem rl_noted: ∀(l:List Int) {s1 s2:Rn},Rl τ s1 s2→Rl τ (s1.Q0d l) (s2.Q0d l)
 |[],_,_,h=>h
 |a::l,_,_,h=>rl_noted l (rl_note h a 0)
theorem rl_waited(h:Rl τ s1 s2){R1 R2:Q5C}(e1:R2.stage=R1.stage)(e2:R2.acc.kind=R1.acc.kind)(e3:R2.acc.cell=R1.acc.cell)(e4:R2.words=shL τ R1.words):Rl τ (s1.waited R1) (s2.waited R2):=
 ⟨h.n,h.mode,h.task,h.op,h.line,e1,h.wk,h.ret,h.notes,e2,e3,e4⟩
theorem rl_keep(h:Rl τ s1 s2){R1 R2:Q5C}(e:R2.seen=R1.seen):Rl τ (s1.keep R1) (s2.keep R2):=by
 unfold Rn.keep
 rw[e]
 split
 ·exact rl_setA h _ _
 ·exact h
theorem cellP_far{n r i:Int}{j:Nat}(h0:0≤r)(h:cellP n r i=j):8≤j:=by
 unfold cellP at h
 split at h
 ·rename_i hc
  have:0≤r*n:=Int.mul_nonneg h0 (by omega)
  omega
 ·omega
theorem far_sh(hf:Far τ){k n r i x y:Int}(h0:0≤r): ∀j:Nat,cellP n r i=j→j<L.length→
 (k=3→(τ j (L.getD j 0)+x)%4294967296=τ j ((L.getD j 0+x)%4294967296))∧(k=2∨k=4→x=τ j x)∧(k=5→(τ j (L.getD j 0)=x↔L.getD j 0=x)∧y=τ j y):=fun j hj _=>by
 have h8:=cellP_far h0 hj
 rw[hf j _ h8,hf j _ h8,hf j _ h8,hf j _ h8]
 exact⟨fun _=>rfl,fun _=>rfl,fun _=>⟨Iff.rfl,rfl⟩⟩
theorem doA_far(hf:Far τ){k n r i x y:Int}(h0:0≤r):(doA (shL τ L) ⟨k,cellP n r i,x,y,0⟩).1=(doA L ⟨k,cellP n r i,x,y,0⟩).1∧(doA (shL τ L) ⟨k,cellP n r i,x,y,0⟩).2.1=(doA L ⟨k,cellP n r i,x,y,0⟩).2.1∧(doA (shL τ L) ⟨k,cellP n r i,x,y,0⟩).2.2=shL τ (doA L ⟨k,cellP n r i,x,y,0⟩).2.2:=by
 obtain⟨h1,h2,h3,h4,_,_⟩:=doA_sh (τ:=τ) (L:=L) (far_sh hf h0 (k:=k) (n:=n) (i:=i) (x:=x) (y:=y))
 refine⟨?_,h3,h4⟩
 unfold doA
 rw[shL_len]
 by_cases hc:0≤cellP n r i∧cellP n r i<L.length
 ·obtain⟨j,hj⟩: ∃j:Nat,cellP n r i=j:=⟨(cellP n r i).toNat,by omega⟩
  have h8:=cellP_far h0 hj
  rw[if_pos hc,if_pos hc]
  simp only[hj,Int.toNat_natCast]
  rw[shL_get (by omega),hf _ _ h8]
  repeat' split
  all_goals first|rfl|omega
 ·rw[if_neg hc,if_neg hc]
structure WaitSh(τ:Nat→Int→Int)(R1 R2:Q5C):Prop where
 stage:R2.stage=R1.stage
 kind:R2.acc.kind=R1.acc.kind
 cell:R2.acc.cell=R1.acc.cell
 seen:R2.seen=R1.seen
 done:R2.done=R1.done
 words:R2.words=shL τ R1.words
theorem wait_sh(hf:Far τ){n mode task st cc:Int}{p1 p2:Int→Bool}(hp: ∀j:Nat,cc=j→j<L.length→p2 (τ j (L.getD j 0))=p1 (L.getD j 0))(h0:(∀j:Nat,cc=j→L.length≤j)→p2 0=p1 0):
 WaitSh τ (Q0t L n mode task st cc p1) (Q0t (shL τ L) n mode task st cc p2):=by
 obtain⟨l1,l2,l3,l4,l5,l6⟩:=doA_sh (τ:=τ) (L:=L) (k:=1) (cc:=cc) (x1:=0) (x2:=0) (y1:=0) (y2:=0) (fun j _ _=>⟨fun h=>by omega,fun h=>by omega,fun h=>by omega⟩)
 have hpp:p2 (doA (shL τ L) ⟨1,cc,0,0,0⟩).1.old=p1 (doA L ⟨1,cc,0,0,0⟩).1.old:=by
  by_cases hc:0≤cc∧cc<L.length
  ·have e:(doA L ⟨1,cc,0,0,0⟩).1.old=L.getD cc.toNat 0:=by unfold doA;rw[if_pos hc];rfl
   rw[l5 cc.toNat (by omega) (by omega) (Or.inl rfl),e]
   exact hp cc.toNat (by omega) (by omega)
  ·have e:(doA L ⟨1,cc,0,0,0⟩).1.old=0:=by unfold doA;rw[if_neg hc];rfl
   have hn: ∀j:Nat,cc=j→L.length≤j:=fun j hj=>by omega
   rw[l6 hn,e]
   exact h0 hn
 have ht:(takeA (shL τ L) n task).1=(takeA L n task).1∧(takeA (shL τ L) n task).2.1=(takeA L n task).2.1∧(takeA (shL τ L) n task).2.2=shL τ (takeA L n task).2.2:=by
  have hth:Q6k (shL τ L) n task=Q6k L n task:=by
   unfold Q6k ldA
   rw[shL_len]
   by_cases hc:0≤cellP n 3 task∧cellP n 3 task<L.length
   ·rw[if_pos hc,if_pos hc,shL_get (by omega),hf _ _ (cellP_far (r:=3) (by omega) (show cellP n 3 task=((cellP n 3 task).toNat:Nat)by omega))]
   ·rw[if_neg hc,if_neg hc]
  unfold takeA
  rw[hth]
  split
  ·exact doA_far hf (by omega)
  ·exact⟨rfl,rfl,rfl⟩
 obtain⟨t1,t2,t3⟩:=ht
 obtain⟨a1,_,a3⟩:=doA_far (τ:=τ) (L:=L) hf (k:=2) (n:=n) (r:=2) (i:=task) (x:=(cc+1)%4294967296) (y:=0) (by omega)
 obtain⟨b1,_,b3⟩:=doA_far (τ:=τ) (L:=L) hf (k:=2) (n:=n) (r:=2) (i:=task) (x:=0) (y:=0) (by omega)
 unfold Q0t
 dsimp only
 rw[hpp]
 repeat' split
 all_goals first|exact⟨rfl,by rw[a1],by rw[a1],rfl,rfl,a3⟩|exact⟨rfl,by rw[b1],by rw[b1],rfl,rfl,b3⟩|exact⟨rfl,l1,l2,rfl,rfl,rfl⟩|exact⟨rfl,by rw[t1],by rw[t1],rfl,rfl,t3⟩|(exfalso;rename_i q1 q2;rw[t2]at q2;first|exact q1 q2|exact q2 q1)
end
section
variable {τ:Nat→Int→Int}{RA RB:Int→Int→Int→Int→Prop}{M1 M2:Mt}
def RnSh(τ:Nat→Int→Int)(RA RB:Int→Int→Int→Int→Prop)(s1 s2:Rn):Prop:=Rl τ s1 s2∧RA s1.f.op s1.f.line s1.f.a s2.f.a∧RB s1.f.op s1.f.line s1.f.b s2.f.b
structure FrSh(RA RB:Int→Int→Int→Int→Prop)(f1 f2:Fr):Prop where
 op:f2.op=f1.op
 line:f2.line=f1.line
 st:f2.st=f1.st
 wk:f2.wk=f1.wk
 ret:f2.ret=f1.ret
 a:RA f1.op f1.line f1.a f2.a
 b:RB f1.op f1.line f1.b f2.b
structure MtSh(τ:Nat→Int→Int)(RA RB:Int→Int→Int→Int→Prop)(M1 M2:Mt):Prop where
 n:M2.n=M1.n
 mode:M2.mode=M1.mode
 hold:M2.hold=M1.hold
 len:M2.fs.length=M1.fs.length
 fs: ∀i,i<M1.fs.length→FrSh RA RB (M1.fs.getD i Fr.zero) (M2.fs.getD i Fr.zero)
 L:M2.L=shL τ M1.L
def LineSh(τ:Nat→Int→Int)(RA RB:Int→Int→Int→Int→Prop)(Ok:Rn→Prop)(g:Rn→Rn):Prop:= ∀s1 s2,RnSh τ RA RB s1 s2→s1.notes=[]→Ok s1→RnSh τ RA RB (g s1) (g s2)
theorem wake_sh(hf:Far τ){L:List Int}{n:Int}{k:Wk}:(Q4K (shL τ L) n k).1=(Q4K L n k).1∧(Q4K (shL τ L) n k).2.1=(Q4K L n k).2.1∧(Q4K (shL τ L) n k).2.2=shL τ (Q4K L n k).2.2:=by
 obtain⟨a1,a2,a3⟩:=doA_far (τ:=τ) (L:=L) hf (k:=2) (n:=n) (r:=3) (i:=k.i) (x:=1) (y:=0) (by omega)
 obtain⟨b1,b2,b3⟩:=doA_far (τ:=τ) (L:=L) hf (k:=1) (n:=n) (r:=2) (i:=k.i) (x:=0) (y:=0) (by omega)
 unfold Q4K Q4M
 rw[a1,a2,a3,b1,b2]
 repeat' split
 all_goals exact⟨rfl,rfl,rfl⟩
theorem stuck_sh(hf:Far τ){L:List Int}{n mode i st:Int}:Q2R (shL τ L) n mode i st=Q2R L n mode i st:=by
 have hth:Q6k (shL τ L) n i=Q6k L n i:=by
  unfold Q6k ldA
  rw[shL_len]
  by_cases hc:0≤cellP n 3 i∧cellP n 3 i<L.length
  ·rw[if_pos hc,if_pos hc,shL_get (by omega),hf _ _ (cellP_far (r:=3) (by omega) (show cellP n 3 i=((cellP n 3 i).toNat:Nat)by omega))]
  ·rw[if_neg hc,if_neg hc]
 unfold Q2R
 rw[hth]
theorem MtSh.run(H:MtSh τ RA RB M1 M2){i:Nat}{f1 f2:Fr}(F:FrSh RA RB f1 f2):RnSh τ RA RB (M1.run i f1) (M2.run i f2):=
 ⟨⟨H.n,H.mode,rfl,F.op,F.line,F.st,F.wk,F.ret,rfl,rfl,rfl,H.L⟩,F.a,F.b⟩
theorem MtSh.put(H:MtSh τ RA RB M1 M2){i:Nat}{f1 f2:Fr}(F:FrSh RA RB f1 f2){h:Int}{L1 L2:List Int}(hL:L2=shL τ L1):MtSh τ RA RB (M1.put i f1 h L1) (M2.put i f2 h L2):=by
 refine⟨H.n,H.mode,by show M2.hold.set i h=M1.hold.set i h;rw[H.hold],by simp[Mt.put,H.len],fun j hj=> ?_,hL⟩
 have hj:j<M1.fs.length:=by simpa[Mt.put]using hj
 show FrSh RA RB ((M1.fs.set i f1).getD j Fr.zero) ((M2.fs.set i f2).getD j Fr.zero)
 have:=H.len
 by_cases e:i=j
 ·subst e
  simp only[List.getD_eq_getElem?_getD,List.getElem?_set]
  simp[hj,this]
  exact F
 ·simp only[List.getD_eq_getElem?_getD,List.getElem?_set,if_neg e]
  exact H.fs j hj
structure EvSh(e1 e2:Ev):Prop where
 ran:e2.ran=e1.ran
 kind:e2.acc.kind=e1.acc.kind
 cell:e2.acc.cell=e1.acc.cell
 notes:e2.notes=e1.notes
theorem EvSh.refl(e:Ev):EvSh e e:=⟨rfl,rfl,rfl,rfl⟩
theorem RnSh.frame{s1 s2:Rn}(H:RnSh τ RA RB s1 s2):FrSh RA RB s1.f s2.f:=⟨H.1.op,H.1.line,H.1.st,H.1.wk,H.1.ret,H.2.1,H.2.2⟩
theorem stepR_sh(hf:Far τ){Ok:Rn→Prop}{g:Rn→Rn}(hg:LineSh τ RA RB Ok g){s1 s2:Rn}(H:RnSh τ RA RB s1 s2)(ha:s1.acc=Acc.zero)(ha2:s2.acc=Acc.zero)(hn:s1.notes=[])(hok:s1.f.wk.on=false→Ok s1):RnSh τ RA RB (Q0K g s1) (Q0K g s2):=by
 unfold Q0K
 rw[H.1.wk]
 by_cases hw:s1.f.wk.on=true
 ·rw[if_pos hw,if_pos hw]
  obtain⟨w1,w2,w3⟩:=wake_sh (τ:=τ) hf (L:=s1.L) (n:=s1.n) (k:=s1.f.wk)
  refine⟨⟨H.1.n,H.1.mode,H.1.task,H.1.op,H.1.line,H.1.st,?_,H.1.ret,rfl,?_,?_,?_⟩,H.2.1,H.2.2⟩
  ·show(Q4K s2.L s2.n s2.f.wk).1=_
   rw[H.1.L,H.1.n,H.1.wk];exact w1
  ·show(Q4K s2.L s2.n s2.f.wk).2.1.kind=_
   rw[H.1.L,H.1.n,H.1.wk,w2];rfl
  ·show(Q4K s2.L s2.n s2.f.wk).2.1.cell=_
   rw[H.1.L,H.1.n,H.1.wk,w2];rfl
  ·show(Q4K s2.L s2.n s2.f.wk).2.2=_
   rw[H.1.L,H.1.n,H.1.wk];exact w3
 ·rw[if_neg hw,if_neg hw]
  have e1:s1.fresh=s1:=by
   obtain⟨n,mode,task,f,acc,notes,L⟩:=s1
   simp only at ha hn
   subst ha hn
   rfl
  have e2:s2.fresh=s2:=by
   have hn2:s2.notes=[]:=H.1.notes.trans hn
   obtain⟨n,mode,task,f,acc,notes,L⟩:=s2
   simp only at ha2 hn2
   subst ha2 hn2
   rfl
  rw[e1,e2]
  exact hg s1 s2 H hn (hok (by simpa using hw))
theorem stepE_sh(hf:Far τ){Ok:Rn→Prop}{g:Rn→Rn}(hg:LineSh τ RA RB Ok g)(hz:RA 0 0 0 0∧RB 0 0 0 0){M1 M2:Mt}(H:MtSh τ RA RB M1 M2){i:Nat}(hi:i<M1.fs.length)(hok:(M1.fs.getD i Fr.zero).wk.on=false→Ok (M1.run i (M1.fs.getD i Fr.zero))):
 MtSh τ RA RB (M1.Q4B g i).1 (M2.Q4B g i).1∧EvSh (M1.Q4B g i).2 (M2.Q4B g i).2:=by
 have hr:=stepR_sh hf hg (H.run (i:=i) (H.fs i hi)) rfl rfl rfl hok
 unfold Mt.Q4B
 generalize Q0K g (M1.run i (M1.fs.getD i Fr.zero))=s1 at hr⊢
 generalize Q0K g (M2.run i (M2.fs.getD i Fr.zero))=s2 at hr⊢
 have ho:s2.over=s1.over:=by unfold Rn.over;rw[hr.1.ret,hr.1.wk]
 rw[ho,hr.1.op,hr.1.ret,H.hold]
 by_cases h:s1.over=true
 ·rw[if_pos h,if_pos h]
  exact⟨H.put ⟨rfl,rfl,rfl,rfl,rfl,hz.1,hz.2⟩ hr.1.L,rfl,hr.1.kind,hr.1.cell,by show s2.notes++_=s1.notes++_;rw[hr.1.notes]⟩
 ·rw[if_neg h,if_neg h]
  exact⟨H.put hr.frame hr.1.L,rfl,hr.1.kind,hr.1.cell,hr.1.notes⟩
theorem pickE_sh(hf:Far τ){Ok:Rn→Prop}{g:Rn→Rn}(hg:LineSh τ RA RB Ok g)(hz: ∀op,RA op 0 0 0∧RB op 0 0 0){M1 M2:Mt}(H:MtSh τ RA RB M1 M2)(hh:M1.hold.length=M1.fs.length)(t op:Int)
 (hb: ∀i:Nat,i<M1.fs.length→(M1.fs.getD i Fr.zero).op=0→Q6T op (M1.hold.getD i 0)=true→Ok (M1.run i (Q4h op)))
 (hs: ∀i:Nat,i<M1.fs.length→(M1.fs.getD i Fr.zero).op≠0→(M1.fs.getD i Fr.zero).wk.on=false→Ok (M1.run i (M1.fs.getD i Fr.zero))):
 MtSh τ RA RB (M1.Q3R g t op).1 (M2.Q3R g t op).1∧EvSh (M1.Q3R g t op).2 (M2.Q3R g t op).2:=by
 unfold Mt.Q3R
 rw[H.len]
 by_cases hin:0≤t∧t<(M1.fs.length:Int)
 ·rw[if_pos hin,if_pos hin]
  obtain⟨i,rfl⟩: ∃i:Nat,t=i:=⟨t.toNat,by omega⟩
  simp only[Int.toNat_natCast]
  have hi:i<M1.fs.length:=by omega
  have F:=H.fs i hi
  rw[F.op]
  by_cases hop:(M1.fs.getD i Fr.zero).op=0
  ·rw[if_pos hop,if_pos hop]
   by_cases h8:1≤op∧op≤8
   ·rw[if_pos h8,if_pos h8]
    unfold Mt.Q5V
    rw[H.hold]
    by_cases hm:Q6T op (M1.hold.getD i 0)=true
    ·rw[if_pos hm,if_pos hm]
     have H0:MtSh τ RA RB (M1.put i (Q4h op) (Q0w op (M1.hold.getD i 0)) M1.L) (M2.put i (Q4h op) (Q0w op (M1.hold.getD i 0)) M2.L):=H.put ⟨rfl,rfl,rfl,rfl,rfl,(hz op).1,(hz op).2⟩ H.L
     have hget:(M1.put i (Q4h op) (Q0w op (M1.hold.getD i 0)) M1.L).fs.getD i Fr.zero=Q4h op:=by simp[Mt.put,List.getD,hi]
     obtain⟨r1,r2⟩:=stepE_sh hf hg (hz 0) H0 (i:=i) (by simpa[Mt.put]using hi) (fun _=>by rw[hget];exact hb i hi hop hm)
     exact⟨r1,rfl,r2.kind,r2.cell,by show _::_=_::_;rw[r2.notes]⟩
    ·rw[if_neg hm,if_neg hm]
     exact⟨H,EvSh.refl _⟩
   ·rw[if_neg h8,if_neg h8]
    exact⟨H,EvSh.refl _⟩
  ·rw[if_neg hop,if_neg hop]
   have hst:M2.Q3a i=M1.Q3a i:=by
    unfold Mt.Q3a
    rw[F.op,F.wk,F.st,H.L,H.n,H.mode,stuck_sh hf]
   rw[hst]
   by_cases hs':M1.Q3a i=true
   ·rw[if_pos hs',if_pos hs']
    exact⟨H,EvSh.refl _⟩
   ·rw[if_neg hs',if_neg hs']
    exact stepE_sh hf hg (hz 0) H hi (hs i hi hop)
 ·rw[if_neg hin,if_neg hin]
  exact⟨H,EvSh.refl _⟩
end
def addT(c:Nat→Int):Nat→Int→Int:=fun j v=>if c j=0 then v else(v+c j)%4294967296
structure AddC(c:Nat→Int):Prop where
 far: ∀j,8≤j→c j=0
 rng: ∀j,0≤c j∧c j<4294967296
def OkU(s:Rn):Prop:=(0≤s.f.a∧s.f.a<4294967296)∧(0≤s.f.b∧s.f.b<4294967296)∧(∀v,v∈s.L→0≤v∧v<4294967296)∧8≤s.L.length
section
variable {c:Nat→Int}{s1 s2:Rn}{j:Nat}
theorem addT_far(hc:AddC c):Far (addT c):=fun j v hj=>by unfold addT;rw[if_pos (hc.far j hj)]
theorem addT_is(hc:AddC c){v:Int}(h:0≤v∧v<4294967296):addT c j v=(v+c j)%4294967296:=by
 unfold addT
 split
 ·rename_i h0;rw[h0];omega
 ·rfl
theorem addT_inj(hc:AddC c){v x:Int}(hv:0≤v∧v<4294967296)(hx:0≤x∧x<4294967296):addT c j v=addT c j x↔v=x:=by
 have:=hc.rng j
 rw[addT_is hc hv,addT_is hc hx]
 omega
theorem addT_more(hc:AddC c){v x:Int}:(addT c j v+x)%4294967296=addT c j ((v+x)%4294967296):=by
 unfold addT
 split
 ·rfl
 ·omega
theorem okU_get(h:OkU s1)(hj:j<8):0≤s1.L.getD j 0∧s1.L.getD j 0<4294967296:=by
 have h8:=h.2.2.2
 have e:s1.L.getD j 0=s1.L[j]:=by simp[List.getD,show j<s1.L.length by omega]
 rw[e]
 exact h.2.2.1 _ (List.getElem_mem _)
theorem old_is{L:List Int}{k x y:Int}(hj:j<L.length)(hk:k=1∨k=2∨k=3∨k=4∨k=5):(doA L ⟨k,j,x,y,0⟩).1.old=L.getD j 0∧(doA L ⟨k,j,x,y,0⟩).1.kind=k:=by
 unfold doA
 rw[if_pos ⟨by show(0:Int)≤j;omega,by show(j:Int)<L.length;omega⟩]
 simp only[Int.toNat_natCast]
 rcases hk with rfl|rfl|rfl|rfl|rfl<;>simp
structure DSh(c:Nat→Int)(j:Nat)(R1 R2:Acc×Bool×List Int):Prop where
 kind:R2.1.kind=R1.1.kind
 cell:R2.1.cell=R1.1.cell
 L:R2.2.2=shL (addT c) R1.2.2
 old:R2.1.old=(R1.1.old+c j)%4294967296
 rng:0≤R1.1.old∧R1.1.old<4294967296
theorem d_of(hc:AddC c)(H:Rl (addT c) s1 s2)(ok:OkU s1)(hj:j<8){k x1 y1 x2 y2:Int}(hk:k=1∨k=2∨k=3∨k=4∨k=5)
 (h:(k=3→x2=x1)∧(k=2∨k=4→x2=addT c j x1)∧(k=5→(addT c j (s1.L.getD j 0)=x2↔s1.L.getD j 0=x1)∧y2=addT c j y1)):DSh c j (doA s1.L ⟨k,j,x1,y1,0⟩) (doA s2.L ⟨k,j,x2,y2,0⟩):=by
 have h8:=ok.2.2.2
 obtain⟨l1,l2,l3,l4,l5,l6⟩:=doA_sh (τ:=addT c) (L:=s1.L) (k:=k) (cc:=j) (x1:=x1) (x2:=x2) (y1:=y1) (y2:=y2) (fun i hi hl=>by
  obtain rfl:j=i:=by omega
  exact⟨fun e=>by rw[h.1 e];exact addT_more hc,h.2.1,h.2.2⟩)
 rw[H.L]
 obtain⟨o1,_⟩:=old_is (L:=s1.L) (x:=x1) (y:=y1) (show j<s1.L.length by omega) hk
 have hg:=okU_get ok hj
 exact⟨l1,l2,l4,by rw[l5 j rfl (by omega) hk,o1,addT_is hc hg],by rw[o1];exact hg⟩
theorem d_ld(hc:AddC c)(H:Rl (addT c) s1 s2)(ok:OkU s1)(hj:j<8){x y x' y':Int}:DSh c j (doA s1.L ⟨1,j,x,y,0⟩) (doA s2.L ⟨1,j,x',y',0⟩):=d_of hc H ok hj (by simp) ⟨fun h=>by omega,fun h=>by omega,fun h=>by omega⟩
theorem d_ad(hc:AddC c)(H:Rl (addT c) s1 s2)(ok:OkU s1)(hj:j<8){x y x' y':Int}(e:x'=x):DSh c j (doA s1.L ⟨3,j,x,y,0⟩) (doA s2.L ⟨3,j,x',y',0⟩):=d_of hc H ok hj (by simp) ⟨fun _=>e,fun h=>by omega,fun h=>by omega⟩
theorem d_st(hc:AddC c)(H:Rl (addT c) s1 s2)(ok:OkU s1)(hj:j<8){x y x' y':Int}(hx:0≤x∧x<4294967296)(e:x'=(x+c j)%4294967296):DSh c j (doA s1.L ⟨2,j,x,y,0⟩) (doA s2.L ⟨2,j,x',y',0⟩):=d_of hc H ok hj (by simp) ⟨fun h=>by omega,fun _=>by rw[addT_is hc hx];exact e,fun h=>by omega⟩
theorem d_cas(hc:AddC c)(H:Rl (addT c) s1 s2)(ok:OkU s1)(hj:j<8){x y x' y':Int}(hx:0≤x∧x<4294967296)(hy:0≤y∧y<4294967296)(e:x'=(x+c j)%4294967296)(e2:y'=(y+c j)%4294967296):
 DSh c j (doA s1.L ⟨5,j,x,y,0⟩) (doA s2.L ⟨5,j,x',y',0⟩)∧Q7N s2.L j x' y'=Q7N s1.L j x y:=by
 have D:DSh c j (doA s1.L ⟨5,j,x,y,0⟩) (doA s2.L ⟨5,j,x',y',0⟩):=d_of hc H ok hj (by simp) ⟨fun h=>by omega,fun h=>by omega,fun _=>⟨by rw[e,←addT_is hc hx];exact addT_inj hc (okU_get ok hj) hx,by rw[addT_is hc hy];exact e2⟩⟩
 refine⟨D,?_⟩
 unfold Q7N
 rw[D.kind,D.old,e]
 have h1:=D.rng
 have h2:=hc.rng j
 congr 1
 generalize (doA s1.L ⟨5,j,x,y,0⟩).1.old=o at h1
 rw[Bool.eq_iff_iff,beq_iff_eq,beq_iff_eq]
 omega
theorem ahead_sh{a v d:Int}(ha:0≤a∧a<4294967296)(hv:0≤v∧v<4294967296):Q1s ((a+d)%4294967296) ((v+d)%4294967296)=Q1s a v:=by
 unfold Q1s
 omega
theorem w_of(hc:AddC c)(H:Rl (addT c) s1 s2)(ok:OkU s1)(hj:j<8){p1 p2:Int→Bool}(h: ∀v,0≤v∧v<4294967296→p2 ((v+c j)%4294967296)=p1 v):
 WaitSh (addT c) (Q0t s1.L s1.n s1.mode s1.task s1.f.st j p1) (Q0t s2.L s2.n s2.mode s2.task s2.f.st j p2):=by
 have h8:=ok.2.2.2
 rw[H.L,H.n,H.mode,H.task,H.st]
 refine wait_sh (addT_far hc) (fun i hi hl=> ?_) (fun h0=>absurd (h0 j rfl) (by omega))
 obtain rfl:j=i:=by omega
 have hg:=okU_get ok hj
 rw[addT_is hc hg]
 exact h _ hg
structure DFar(c:Nat→Int)(R1 R2:Acc×Bool×List Int):Prop where
 acc:R2.1=R1.1
 ok:R2.2.1=R1.2.1
 L:R2.2.2=shL (addT c) R1.2.2
theorem d_id(H:Rl (addT c) s1 s2){k cc x y:Int}(h: ∀i:Nat,cc=i→c i=0):DFar c (doA s1.L ⟨k,cc,x,y,0⟩) (doA s2.L ⟨k,cc,x,y,0⟩):=by
 rw[H.L]
 have ht: ∀i:Nat,cc=i→ ∀v,addT c i v=v:=fun i hi v=>by unfold addT;rw[if_pos (h i hi)]
 obtain⟨h1,h2,h3,h4,h5,h6⟩:=doA_sh (τ:=addT c) (L:=s1.L) (k:=k) (cc:=cc) (x1:=x) (x2:=x) (y1:=y) (y2:=y) (fun i hi _=>by
  rw[ht i hi,ht i hi,ht i hi,ht i hi]
  exact⟨fun _=>rfl,fun _=>rfl,fun _=>⟨Iff.rfl,rfl⟩⟩)
 refine⟨?_,h3,h4⟩
 unfold doA
 rw[shL_len]
 by_cases hcc:0≤cc∧cc<s1.L.length
 ·obtain⟨i,rfl⟩: ∃i:Nat,cc=i:=⟨cc.toNat,by omega⟩
  rw[if_pos hcc,if_pos hcc]
  simp only[Int.toNat_natCast]
  rw[shL_get (by omega),ht i rfl]
  repeat' split
  all_goals first|rfl|omega
 ·rw[if_neg hcc,if_neg hcc]
theorem d_far(hc:AddC c)(H:Rl (addT c) s1 s2){k n r i x y:Int}(h0:0≤r):DFar c (doA s1.L ⟨k,cellP n r i,x,y,0⟩) (doA s2.L ⟨k,cellP n r i,x,y,0⟩):=d_id H (fun i hi=>hc.far i (cellP_far h0 hi))
theorem cas_id{cc x y:Int}(D:DFar c (doA s1.L ⟨5,cc,x,y,0⟩) (doA s2.L ⟨5,cc,x,y,0⟩)):Q7N s2.L cc x y=Q7N s1.L cc x y:=by
 unfold Q7N
 rw[D.acc]
structure WFar(c:Nat→Int)(R1 R2:Q5C):Prop where
 stage:R2.stage=R1.stage
 acc:R2.acc=R1.acc
 seen:R2.seen=R1.seen
 done:R2.done=R1.done
 words:R2.words=shL (addT c) R1.words
theorem w_far(hc:AddC c)(H:Rl (addT c) s1 s2){n mode task st r i:Int}{p:Int→Bool}(h0:0≤r):WFar c (Q0t s1.L n mode task st (cellP n r i) p) (Q0t s2.L n mode task st (cellP n r i) p):=by
 have hl:=d_far hc H (k:=1) (n:=n) (r:=r) (i:=i) (x:=0) (y:=0) h0
 have ha:=d_far hc H (k:=2) (n:=n) (r:=2) (i:=task) (x:=(cellP n r i+1)%4294967296) (y:=0) (by omega)
 have hb:=d_far hc H (k:=2) (n:=n) (r:=2) (i:=task) (x:=0) (y:=0) (by omega)
 have ht:=d_far hc H (k:=4) (n:=n) (r:=3) (i:=task) (x:=0) (y:=0) (by omega)
 have hth:Q6k s2.L n task=Q6k s1.L n task:=by
  have h1:=d_far hc H (k:=1) (n:=n) (r:=3) (i:=task) (x:=0) (y:=0) (by omega)
  have e: ∀L:List Int,ldA L (cellP n 3 task)=(doA L ⟨1,cellP n 3 task,0,0,0⟩).1.old:=fun L=>by
   unfold ldA doA
   dsimp only
   by_cases h:0≤cellP n 3 task∧cellP n 3 task<L.length
   ·rw[if_pos h,if_pos h];rfl
   ·rw[if_neg h,if_neg h];rfl
  unfold Q6k
  rw[e,e,h1.acc]
 unfold Q0t takeA
 dsimp only
 rw[hth,hl.acc,H.L]
 by_cases q1:Q1y mode st=1
 ·rw[if_pos q1,if_pos q1];rw[H.L]at ha;exact⟨rfl,ha.acc,rfl,rfl,ha.L⟩
 rw[if_neg q1,if_neg q1]
 by_cases q2:Q1y mode st=2
 ·rw[if_pos q2,if_pos q2];exact⟨rfl,rfl,rfl,rfl,rfl⟩
 rw[if_neg q2,if_neg q2]
 by_cases q3:Q1y mode st=3
 ·rw[if_pos q3,if_pos q3]
  rw[H.L]at ht
  cases Q6k s1.L n task with
  |true=>exact⟨by simp only[if_true];rw[ht.ok],ht.acc,rfl,rfl,ht.L⟩
  |false=>exact⟨rfl,rfl,rfl,rfl,rfl⟩
 rw[if_neg q3,if_neg q3]
 by_cases q4:Q1y mode st=4
 ·rw[if_pos q4,if_pos q4];rw[H.L]at hb;exact⟨rfl,hb.acc,rfl,rfl,hb.L⟩
 rw[if_neg q4,if_neg q4]
 exact⟨rfl,rfl,rfl,rfl,rfl⟩
theorem rn_ite{τ:Nat→Int→Int}{RA RB:Int→Int→Int→Int→Prop}{p:Prop}[Decidable p]{a b a' b':Rn}(h1:p→RnSh τ RA RB a a')(h2: ¬p→RnSh τ RA RB b b'):RnSh τ RA RB (if p then a else b) (if p then a' else b'):=by
 split
 ·exact h1 ‹_›
 ·exact h2 ‹_›
end
def NL(i:Nat)(s:Rn):Prop:=s.L.length=i
theorem nl_doA(L:List Int)(a:Acc):(doA L a).2.2.length=L.length:=by
 unfold doA
 dsimp only
 repeat' split
 all_goals simp
theorem nl_waitA(L:List Int)(n mode task st c:Int)(p:Int→Bool):(Q0t L n mode task st c p).words.length=L.length:=by
 unfold Q0t takeA
 dsimp only
 repeat' split
 all_goals first|rfl|exact nl_doA _ _
theorem nl_wakeA(L:List Int)(n:Int)(k:Wk):(Q4K L n k).2.2.length=L.length:=by
 unfold Q4K Q4M
 repeat' split
 all_goals first|rfl|exact nl_doA _ _
section
variable {i:Nat}{s:Rn}
theorem nl_did{R}(h:NL i s)(hR:R.2.2.length=i):NL i (s.did R):=hR
theorem nl_didA{s':Rn}{a:Acc}(h:NL i s):NL i (s'.did (doA s.L a)):=(nl_doA _ _).trans h
theorem nl_waitedA{s':Rn}{n mode task st c:Int}{p:Int→Bool}(h:NL i s):NL i (s'.waited (Q0t s.L n mode task st c p)):=(nl_waitA _ _ _ _ _ _ _).trans h
theorem nl_setA{v}(h:NL i s):NL i (s.Q0h v):=h
theorem nl_setB{v}(h:NL i s):NL i (s.setB v):=h
theorem nl_goto{v}(h:NL i s):NL i (s.goto v):=h
theorem nl_wake{v}(h:NL i s):NL i (s.wake v):=h
theorem nl_fin{v}(h:NL i s):NL i (s.fin v):=h
theorem nl_keep{v}(h:NL i s):NL i (s.keep v):=by
 unfold Rn.keep
 split<;>exact h
theorem nl_note{a b:Int}(h:NL i s):NL i (s.note a b):=h
theorem nl_noted: ∀(l:List Int) (s:Rn),NL i s→NL i (s.Q0d l)
 |[],s,h=>h
 |a::l,s,h=>nl_noted l _ (nl_note h)
theorem nl_ite{c:Prop}[Decidable c]{a b:Rn}(ha:NL i a)(hb:NL i b):NL i (if c then a else b):=by
 split
 ·exact ha
 ·exact hb
theorem nl_ite2{α:Type}{c:Prop}[Decidable c]{a b:α×Rn}(ha:NL i a.2)(hb:NL i b.2):NL i (if c then a else b).2:=by
 split
 ·exact ha
 ·exact hb
theorem nl_ite3{α β:Type}{c:Prop}[Decidable c]{a b:α×β×Rn}(ha:NL i a.2.2)(hb:NL i b.2.2):NL i (if c then a else b).2.2:=by
 split
 ·exact ha
 ·exact hb
theorem tfTake_nl(h:NL i s):NL i (Q2t s).1:=by
 unfold Q2t
 dsimp only
 split
 ·exact nl_did h ((nl_doA _ _).trans h)
 ·exact nl_goto (nl_did h ((nl_doA _ _).trans h))
theorem tf_nl(h:NL i s):NL i (tfA s):=by
 simp only[tfA,Y5d,Y3g,Y5c,Y5b,Y5a,Y3f,Y4Z,Y4Y,Y4X,Y4W,Y4V,Y4U,Y4T,Y4S,Y4R,Y4Q,Y4P,Y4O,Y4N,Y4M,Q0x,Q0J,Q5J]
 (repeat' first|with_reducible assumption|with_reducible refine nl_ite ?_ ?_|with_reducible refine nl_fin ?_|with_reducible refine nl_wake ?_|with_reducible refine nl_goto ?_|with_reducible refine nl_note ?_|with_reducible refine nl_noted _ _ ?_|with_reducible refine nl_setA ?_|with_reducible refine nl_setB ?_|with_reducible exact nl_didA h|with_reducible exact nl_waitedA h|with_reducible refine nl_keep ?_|exact tfTake_nl h)
theorem pf_nl(h:NL i s):NL i (pfA s):=by
 simp only[pfA,Y5x,Y3W,Y5w,Y5v,Y3V,Y5u,Y5t,Y5s,Y5r,Y5q,Y5p,Y5o,Y5n,X5t,X2x,X5q,X5o,X5m,Y2s,Y2r,Y2q,Y2p,X5h,X5f,Y2o,Y2n,X2v,X2u,X8c,X5a,Y2m,Rn.Q0E,X8k,X8j,Q7r,Q7q]
 (repeat' first|with_reducible assumption|with_reducible refine nl_ite ?_ ?_|with_reducible refine nl_fin ?_|with_reducible refine nl_wake ?_|with_reducible refine nl_goto ?_|with_reducible refine nl_note ?_|with_reducible refine nl_noted _ _ ?_|with_reducible refine nl_setA ?_|with_reducible refine nl_setB ?_|with_reducible exact nl_didA h|with_reducible exact nl_waitedA h|with_reducible refine nl_keep ?_)
theorem mxEnter_nl{t c:Int}(h:NL i s):NL i (Q0n t c s).2:=by
 simp only[Q0n,Q1S,Q2b,Q1U,Q2a,Q1Y]
 (repeat' first|with_reducible assumption|with_reducible refine nl_ite ?_ ?_|with_reducible refine nl_fin ?_|with_reducible refine nl_wake ?_|with_reducible refine nl_goto ?_|with_reducible refine nl_note ?_|with_reducible refine nl_noted _ _ ?_|with_reducible refine nl_setA ?_|with_reducible refine nl_setB ?_|with_reducible exact nl_didA h|with_reducible exact nl_waitedA h|with_reducible refine nl_keep ?_|with_reducible refine nl_ite2 ?_ ?_|with_reducible refine nl_ite3 ?_ ?_)
theorem mxTry_nl{t:Int}(h:NL i s):NL i (Q0L t s).2.2:=by
 simp only[Q0L,Q1S]
 (repeat' first|with_reducible assumption|with_reducible refine nl_ite ?_ ?_|with_reducible refine nl_fin ?_|with_reducible refine nl_wake ?_|with_reducible refine nl_goto ?_|with_reducible refine nl_note ?_|with_reducible refine nl_noted _ _ ?_|with_reducible refine nl_setA ?_|with_reducible refine nl_setB ?_|with_reducible exact nl_didA h|with_reducible exact nl_waitedA h|with_reducible refine nl_keep ?_|with_reducible refine nl_ite2 ?_ ?_|with_reducible refine nl_ite3 ?_ ?_)
theorem mxGive_nl{t q:Int}{nl:List Int}(h:NL i s):NL i (Q0v t q nl s).2:=by
 simp only[Q0v,Q1X,Q1T,Q1W,Q1Z]
 (repeat' first|with_reducible assumption|with_reducible refine nl_ite ?_ ?_|with_reducible refine nl_fin ?_|with_reducible refine nl_wake ?_|with_reducible refine nl_goto ?_|with_reducible refine nl_note ?_|with_reducible refine nl_noted _ _ ?_|with_reducible refine nl_setA ?_|with_reducible refine nl_setB ?_|with_reducible exact nl_didA h|with_reducible exact nl_waitedA h|with_reducible refine nl_keep ?_|with_reducible refine nl_ite2 ?_ ?_|with_reducible refine nl_ite3 ?_ ?_)
theorem pq_nl(h:NL i s):NL i (pqA s):=by
 simp only[pqA,Q1o,Q1n,Q1m,Q1l,Q1k,Q1h,Q0M,Q1H,Q0y,Q1M,Q1L,Q0P,Q0O,Q0S,Q1d]
 (repeat' first|with_reducible assumption|with_reducible refine nl_ite ?_ ?_|with_reducible refine nl_fin ?_|with_reducible refine nl_wake ?_|with_reducible refine nl_goto ?_|with_reducible refine nl_note ?_|with_reducible refine nl_noted _ _ ?_|with_reducible refine nl_setA ?_|with_reducible refine nl_setB ?_|with_reducible exact nl_didA h|with_reducible exact nl_waitedA h|with_reducible refine nl_keep ?_|exact mxEnter_nl h|exact mxTry_nl h|exact mxGive_nl h)
end
theorem pick_nl{g:Rn→Rn}(hg: ∀s,NL s.L.length (g s))(M:Mt)(t op:Int):(M.Q3R g t op).1.L.length=M.L.length:=by
 have hr: ∀s:Rn,(Q0K g s).L.length=s.L.length:=fun s=>by
  unfold Q0K
  split
  ·exact nl_wakeA _ _ _
  ·exact hg s.fresh
 have hs: ∀(M:Mt) (i:Nat),(M.Q4B g i).1.L.length=M.L.length:=fun M i=>by
  unfold Mt.Q4B
  split
  ·exact hr _
  ·exact hr _
 unfold Mt.Q3R Mt.Q5V
 repeat' split
 all_goals first|rfl|exact hs _ _
end Go.Proofs.YthnimpkoidablaaGreat.Z
