import Derived.Test.YthnimpkoidablaaGreatZA14
set_option linter.unusedVariables false
set_option linter.unusedSimpArgs false
namespace Go.Proofs.YthnimpkoidablaaGreat.Z
open Go.RowKit
def Q6C(n:Int)(c:Int)(L:List Int):Prop:= ∀i,0≤i→i<n→(doA L ⟨1,cellP n 2 i,0,0,0⟩).2.1=true∧(doA L ⟨1,cellP n 2 i,0,0,0⟩).1.old≠(c+1)%4294967296
theorem X0U{s:Rn}{c i:Int}(hw:s.f.wk=⟨true,c,i,false⟩)(h0:0≤i)(h1:i<s.n)(hc:Q6C s.n c s.L):
 s.woke.L=s.L∧s.woke.f={s.f with wk:=if s.n≤i+1 then Wk.zero else⟨true,c,i+1,false⟩}∧s.woke.notes=[]∧s.woke.n=s.n∧s.woke.mode=s.mode∧s.woke.task=s.task:=by
 obtain⟨h2,h3⟩:=hc i h0 h1
 have e:Q4K s.L s.n s.f.wk=(Q4e s.n ⟨true,c,i,false⟩,(doA s.L ⟨1,cellP s.n 2 i,0,0,0⟩).1,s.L):=by
  rw[hw]
  unfold Q4K
  simp only[if_true,Bool.false_eq_true,if_false]
  rw[if_pos h2,if_neg h3]
 unfold Rn.woke
 rw[e]
 refine⟨rfl,?_,rfl,rfl,rfl,rfl⟩
 show{s.f with wk:=Q4e s.n ⟨true,c,i,false⟩}=_
 unfold Q4e
 rfl
def Rn.rests(s:Rn):Rn:={s with f:={s.f with wk:=Wk.zero},acc:=Acc.zero,notes:=[]}
theorem Q8W(g:Rn→Rn)(c:Int): ∀(d:Nat) (s:Rn) (i:Int) (most:Nat),s.f.wk=⟨true,c,i,false⟩→0≤i→i+d=s.n→1≤d→Q6C s.n c s.L→d≤most→
 ∃s',s'.fresh=s.rests∧s'.f.wk.on=false∧s'.L=s.L∧s'.f.ret=s.f.ret∧((s.f.ret≠0→Q2T g most s=(s.f.ret,s'))∧(s.f.ret=0→Q2T g most s=Q2T g (most-d) s')):=by
 intro d
 induction d with
 |zero=>intro s i most hw h0 h1 h2;omega
 |succ d ih=>
  intro s i most hw h0 h1 _ hc hm
  obtain⟨e1,e2,e3,e4,e5,e6⟩:=X0U hw h0 (by omega) hc
  have hst:Q0K g s=s.woke:=by unfold Q0K;rw[hw];rfl
  obtain⟨most,rfl⟩: ∃j,most=j+1:=⟨most-1,by omega⟩
  by_cases hd:d=0
  ·subst hd
   rw[if_pos (by omega)]at e2
   refine⟨s.woke,?_,by rw[e2];rfl,e1,by rw[e2],fun hr=> ?_,fun hr=> ?_⟩
   ·unfold Rn.fresh Rn.rests
    rw[e1,e2,e4,e5,e6]
   ·show(if(Q0K g s).over then((Q0K g s).f.ret,Q0K g s)else Q2T g most (Q0K g s))=_
    rw[hst,if_pos (by unfold Rn.over;rw[e2];simpa[Wk.zero]using hr),e2]
   ·show(if(Q0K g s).over then((Q0K g s).f.ret,Q0K g s)else Q2T g most (Q0K g s))=_
    rw[hst,if_neg (by unfold Rn.over;rw[e2];simp[hr])]
    rfl
  ·rw[if_neg (by omega)]at e2
   obtain⟨s',k1,k2,k3,k4,k5,k6⟩:=ih s.woke (i+1) most (by rw[e2]) (by omega) (by rw[e4];omega) (by omega) (by rw[e4,e1];exact hc) (by omega)
   have er:s.woke.f.ret=s.f.ret:=by rw[e2]
   have hgo:Q2T g (most+1) s=Q2T g most s.woke:=by
    show(if(Q0K g s).over then((Q0K g s).f.ret,Q0K g s)else Q2T g most (Q0K g s))=_
    rw[hst,if_neg (by unfold Rn.over;rw[e2];simp)]
   refine⟨s',?_,k2,k3.trans e1,k4.trans er,fun hr=> ?_,fun hr=> ?_⟩
   ·rw[k1]
    unfold Rn.rests
    rw[e1,e2,e4,e5,e6]
   ·rw[hgo,k5 (by rw[er];exact hr),er]
   ·rw[hgo,k6 (by rw[er];exact hr)]
    congr 1
    omega
def Mt.goes(g:Rn→Rn)(M:Mt)(i:Nat)(f:Fr)(h:Int):Mt:=
 if(!f.wk.on &&Q2R M.L M.n M.mode i f.st)=true then M.put i f h M.L
 else if(Q0K g (M.run i f)).over=true then M.put i Fr.zero (Q0c (Q0K g (M.run i f)).f.op (Q0K g (M.run i f)).f.ret h) (Q0K g (M.run i f)).L
 else M.put i (Q0K g (M.run i f)).f h (Q0K g (M.run i f)).L
def Mt.Q5A(g:Rn→Rn)(M:Mt)(i:Nat)(op:Int):Mt:=
 if(M.fs.getD i Fr.zero).op=0 then if Q6T op (M.hold.getD i 0)=true then M.goes g i (Q4h op) (Q0w op (M.hold.getD i 0))else M
 else M.goes g i (M.fs.getD i Fr.zero) (M.hold.getD i 0)
theorem Q7v{g:Rn→Rn}{M:Mt}{i:Nat}{f:Fr}{h:Int}{s2:Rn}(hs:Q0K g (M.run i f)=s2):
 M.goes g i f h=if(!f.wk.on &&Q2R M.L M.n M.mode i f.st)=true then M.put i f h M.L else if s2.over=true then M.put i Fr.zero (Q0c s2.f.op s2.f.ret h) s2.L else M.put i s2.f h s2.L:=by
 subst hs
 rfl
theorem Q1D.behind{S0:List Nat}{w0 w:World}{m a x hb:Nat}{rs:List Res}{M:Mt}(H:Q1D S0 w0 m a x hb rs M w)(j:Nat){b:Nat}{cs:Array Value}(hj:rs[j]? =some (.blk b cs)):Blk w b cs:=by
 obtain⟨lv,ts,F,H⟩:=H
 have hm:=List.mem_of_getElem? hj
 exact H.all _ (by simp only[List.mem_cons,List.mem_append];exact Or.inr (Or.inr (Or.inr (Or.inr (Or.inr hm)))))
def Tk.idle(m:Nat)(n mode:Int)(Z:List Int)(i:Nat)(r:Nat):Tk:=⟨r,⟨n,mode,i,Fr.zero,Acc.zero,[],Z⟩, .slice none 0 0⟩
theorem Y6Y{op h:Int}(hh:Q6T op h=true):1≤op∧op≤8:=by
 unfold Q6T at hh
 split at hh
 ·simp at hh;omega
 ·split at hh
  ·simp at hh;omega
  ·simp at hh;omega
section
variable {n mode:Int}{s s1:Rn}{op line a b line' a' b':Int}{L L':List Int}{g:Rn→Rn}
theorem At.ends(h:At n mode s op line a b L)(c:Int)(hg:g (RnF n mode op line a b L)=s1)(hr:s1.f.ret≠0)(hk:s1.f.wk=Q3e mode c)(hn:s1.n=n)(h1:1≤n)(hc:Q6C n c s1.L)(q:Nat):
 ∃s',Q2T g (q+n.toNat+1) s=(s1.f.ret,s')∧s'.L=s1.L:=by
 have hgo:Q2T g (q+n.toNat+1) s=if s1.over then(s1.f.ret,s1)else Q2T g (q+n.toNat) s1:=by
  show(if(Q0K g s).over then((Q0K g s).f.ret,Q0K g s)else Q2T g (q+n.toNat) (Q0K g s))=_
  rw[h.step,hg]
 by_cases h2:mode=2
 ·have hk2:s1.f.wk=⟨true,c,0,false⟩:=by rw[hk];unfold Q3e;rw[if_pos h2]
  obtain⟨s',_,_,k3,_,k5,_⟩:=Q8W g c n.toNat s1 0 (q+n.toNat) hk2 (Int.le_refl _) (by omega) (by omega) (by rw[hn];exact hc) (by omega)
  refine⟨s',?_,k3⟩
  rw[hgo,if_neg (by unfold Rn.over;rw[hk2];simp),k5 hr]
 ·have hk2:s1.f.wk=Wk.zero:=by rw[hk];unfold Q3e;rw[if_neg h2]
  refine⟨s1,?_,rfl⟩
  rw[hgo,if_pos (by unfold Rn.over;rw[hk2];simpa[Wk.zero]using hr)]
end
theorem X2n(M:Mt)(i:Nat)(f f':Fr)(h h':Int)(L L':List Int):(M.put i f h L).put i f' h' L'=M.put i f' h' L':=by
 unfold Mt.put
 simp[List.set_set]
theorem X5K(g:Rn→Rn)(c:Int): ∀(d:Nat) (s:Rn) (i:Int),s.f.wk=⟨true,c,i,false⟩→0≤i→i+d=s.n→1≤d→Q6C s.n c s.L→s.f.ret≠0→s.f.op≠0→
 ∃s',Does g d s s'∧s'.L=s.L∧s'.f.ret=s.f.ret∧s'.f.op=s.f.op:=by
 intro d
 induction d with
 |zero=>intro s i hw h0 h1 h2;omega
 |succ d ih=>
  intro s i hw h0 h1 _ hc hr ho
  obtain⟨e1,e2,e3,e4,e5,e6⟩:=X0U hw h0 (by omega) hc
  have hst:Q0K g s=s.woke:=by unfold Q0K;rw[hw];rfl
  have hf:Free s:=Or.inl (by rw[hw])
  by_cases hd:d=0
  ·subst hd
   rw[if_pos (by omega)]at e2
   exact⟨s.woke,Does.last hf hst (by unfold Rn.over;rw[e2];simpa[Wk.zero]using hr),e1,by rw[e2],by rw[e2]⟩
  ·rw[if_neg (by omega)]at e2
   obtain⟨s',k1,k2,k3,k4⟩:=ih s.woke (i+1) (by rw[e2]) (by omega) (by rw[e4];omega) (by omega) (by rw[e4,e1];exact hc) (by rw[e2];exact hr) (by rw[e2];exact ho)
   exact⟨s',Does.more hf hst (by unfold Rn.over;rw[e2];simp) (by rw[e2];exact ho) k1,k2.trans e1,by rw[k3,e2],by rw[k4,e2]⟩
theorem X9r{g:Rn→Rn}{s s1:Rn}(c:Int)(hf:Free s)(hs:Q0K g s=s1)(hk:s1.f.wk=Q3e s1.mode c)(hr:s1.f.ret≠0)(ho:s1.f.op≠0)(h1:1≤s1.n)(hc:Q6C s1.n c s1.L):
 ∃n s',n≤s1.n.toNat+1∧Does g n s s'∧s'.L=s1.L∧s'.f.ret=s1.f.ret∧s'.f.op=s1.f.op:=by
 unfold Q3e at hk
 split at hk
 ·obtain⟨s',k1,k2,k3,k4⟩:=X5K g c s1.n.toNat s1 0 hk (Int.le_refl _) (by omega) (by omega) hc hr ho
  exact⟨_,s',Nat.le_refl _,Does.more hf hs (by unfold Rn.over;rw[hk];simp) ho k1,k2,k3,k4⟩
 ·exact⟨1,s1,by omega,Does.last hf hs (by unfold Rn.over;rw[hk];simpa[Wk.zero]using hr),rfl,rfl,rfl⟩
section
variable {n mode:Int}{t:Nat}{s:Rn}{op line a b line' a' b':Int}{L L':List Int}{g:Rn→Rn}
theorem AtT.ends{s1:Rn}(h:AtT n mode t s op line a b L)(c:Int)(hg:g (RnT n mode t op line a b L)=s1)(hr:s1.f.ret≠0)(ho:s1.f.op≠0)(hk:s1.f.wk=Q3e s1.mode c)(h1:1≤s1.n)(hc:Q6C s1.n c s1.L):
 ∃q s',q≤s1.n.toNat+1∧Does g q s s'∧s'.L=s1.L∧s'.f.ret=s1.f.ret∧s'.f.op=s1.f.op:=X9r c h.free (h.step.trans hg) hk hr ho h1 hc
end
section
def Q0j(n:Nat)(L:List Int):Nat→Int:=fun j=>if j<8+2*n then L.getD j 0 else 0
def upd(m:Nat→Int)(c:Nat)(v:Int):Nat→Int:=fun j=>if j=c then v else m j
def written(m:Nat→Int):Option (Nat×Int)→Nat→Int
 |none=>m
 |some (c,v)=>upd m c v
def Q0e(L:List Int):Option (Nat×Int)→List Int
 |none=>L
 |some (c,v)=>L.set c v
def Q1f(mode:Int):Option Nat→Wk
 |none=>Wk.zero
 |some c=>Q3e mode c
theorem Q7w{L:List Int}{i j:Nat}{v:Int}:(L.set i v).getD j 0=if i=j∧i<L.length then v else L.getD j 0:=by
 simp only[List.getD_eq_getElem?_getD,List.getElem?_set]
 by_cases h:i=j
 ·subst h
  by_cases h2:i<L.length
  ·simp[h2]
  ·simp[h2]
 ·simp[h]
theorem Q2K{α:Type}{L:List α}{i j:Nat}{v d:α}(hi:i<L.length):(L.set i v).getD j d=if i=j then v else L.getD j d:=by
 simp only[List.getD_eq_getElem?_getD,List.getElem?_set]
 by_cases h:i=j
 ·subst h
  simp[hi]
 ·simp[h]
theorem Q2d{α:Type}{L:List α}{i j:Nat}{v d:α}(h:i≠j):(L.set i v).getD j d=L.getD j d:=by
 simp[List.getD_eq_getElem?_getD,List.getElem?_set,h]
theorem Q7Y{n:Nat}{L:List Int}{c:Nat}{v:Int}(hc:8+2*n≤c):Q0j n (L.set c v)=Q0j n L:=by
 funext j
 unfold Q0j
 by_cases h:j<8+2*n
 ·rw[if_pos h,if_pos h,Q7w,if_neg (by omega)]
 ·rw[if_neg h,if_neg h]
structure Q3D(P:Type) where
 g:Rn→Rn
 conc:P→Fr×Int
 keep:P→Int→Int
 wait:Nat→P→Option (Nat×(Int→Bool))
 post:P→Int→P
 act:Nat→P→(Nat→Int)→P×Option (Nat×Int)×Option Nat
 idle:Int→P
 start:Int→Int→P
 ok:P→Prop
def Q0o(f:Fr)(h:Int):Fr×Int:=if f.ret≠0 then(Fr.zero,Q0c f.op f.ret h)else({f with wk:=Wk.zero},h)
variable {P:Type}
structure X3e(K:Q3D P)(n:Nat)(p:P)(R:P×Option (Nat×Int)×Option Nat)(s s':Rn):Prop where
 L:s'.L=Q0e s.L R.2.1
 f:Q0o s'.f (K.conc p).2=K.conc R.1
 st:s'.f.st=0
 wk:s'.f.wk=Q1f s.mode R.2.2
 op:s'.f.op≠0
 lt: ∀c v,R.2.1=some (c,v)→c<8+2*n
structure Q3D.Good(K:Q3D P)(n:Nat)(mode:Int):Prop where
 plain: ∀p,(K.conc p).1.st=0∧(K.conc p).1.wk=Wk.zero∧(K.conc p).1.ret=0
 idle_conc: ∀h,K.conc (K.idle h)=(Fr.zero,h)
 idle_only: ∀p,(K.conc p).1.op=0→p=K.idle (K.conc p).2
 two: ∀p,(K.conc p).2=2→p=K.idle 2
 wait_op: ∀t p c pr,K.wait t p=some (c,pr)→(K.conc p).1.op≠0
 start_conc: ∀op h,Q6T op h=true→K.conc (K.start op h)=(Q4h op,Q0w op h)
 start_wait: ∀t op h,Q6T op h=true→K.wait t (K.start op h)=none
 wait_lt: ∀t p c pr,K.ok p→t<n→K.wait t p=some (c,pr)→c<8+2*n
 post_hold: ∀t p c pr v,K.wait t p=some (c,pr)→(K.conc p).2≠0→(K.conc (K.post p v)).2≠0
 act: ∀p t s,K.ok p→t<n→K.wait t p=none→(K.conc p).1.op≠0→s.n=(n:Int)→s.mode=mode→s.task=(t:Int)→s.f=(K.conc p).1→s.L.length=8+4*n→X3e K n p (K.act t p (Q0j n s.L)) s (K.g s)
 wait_step: ∀p t c pr st s,K.ok p→t<n→K.wait t p=some (c,pr)→0≤st→st≤3→s.n=(n:Int)→s.mode=mode→s.task=(t:Int)→s.f={(K.conc p).1 with st:=st}→s.L.length=8+4*n→
  (K.g s).L=(Q0t s.L n mode t st c pr).words∧
  ((Q0t s.L n mode t st c pr).done=true→Q0o (K.g s).f (K.conc p).2=K.conc (K.post p (Q0t s.L n mode t st c pr).acc.old)∧(K.g s).f.st=0∧(K.g s).f.wk=Wk.zero∧(K.g s).f.op≠0)∧
  ((Q0t s.L n mode t st c pr).done=false→(K.g s).f=if(Q0t s.L n mode t st c pr).seen then{(K.conc p).1 with a:=K.keep p (Q0t s.L n mode t st c pr).acc.old,st:=(Q0t s.L n mode t st c pr).stage}else{(K.conc p).1 with st:=(Q0t s.L n mode t st c pr).stage})
 wait_last: ∀p t c pr v s,K.ok p→t<n→mode=2→K.wait t p=some (c,pr)→pr v=true→s.n=(n:Int)→s.mode=mode→s.task=(t:Int)→s.f={(K.conc p).1 with a:=K.keep p v,st:=4}→s.L.length=8+4*n→
  (K.g s).L=(Q0t s.L n mode t 4 c pr).words∧Q0o (K.g s).f (K.conc p).2=K.conc (K.post p v)∧(K.g s).f.st=0∧(K.g s).f.wk=Wk.zero∧(K.g s).f.op≠0
inductive Q5F(K:Q3D P)(n:Nat)(mode:Int)(t:Nat):Fr→Int→P→Prop
 |plain (p:P):Q5F K n mode t (K.conc p).1 (K.conc p).2 p
 |waking (p:P) (k:Wk):mode=2→k.on=true→0≤k.i→k.i<n→0≤k.cell→(K.conc p).1.op≠0→Q5F K n mode t {(K.conc p).1 with wk:=k} (K.conc p).2 p
 |staged (p:P) (c:Nat) (pr:Int→Bool) (st:Int):mode=2→K.ok p→K.wait t p=some (c,pr)→st=1∨st=2∨st=3→Q5F K n mode t {(K.conc p).1 with st:=st} (K.conc p).2 p
 |seen (q:P) (c:Nat) (pr:Int→Bool) (v:Int):mode=2→K.ok q→K.wait t q=some (c,pr)→pr v=true→Q5F K n mode t {(K.conc q).1 with a:=K.keep q v,st:=4} (K.conc q).2 (K.post q v)
 |over (f:Fr) (h:Int):mode=2→f.wk.on=true→0≤f.wk.i→f.wk.i<n→0≤f.wk.cell→f.op≠0→f.ret≠0→f.st=0→h≠2→Q5F K n mode t f h (K.idle (Q0c f.op f.ret h))
structure MI(K:Q3D P)(I:Nat→List P→(Nat→Int)→Prop)(n b:Nat)(M:Mt)(ps:List P):Prop where
 num:M.n=(n:Int)
 fsl:M.fs.length=n
 hol:M.hold.length=n
 psl:ps.length=n
 len:M.L.length=8+4*n
 abs: ∀i,i<n→Q5F K n M.mode i (M.fs.getD i Fr.zero) (M.hold.getD i 0) (ps.getD i (K.idle 0))
 inv:I b ps (Q0j n M.L)
 watch: ∀i c pr,i<n→K.wait i (ps.getD i (K.idle 0))=some (c,pr)→((M.fs.getD i Fr.zero).st=2∨(M.fs.getD i Fr.zero).st=3)→M.L.getD (8+2*n+i) 0=((c:Int)+1)%4294967296
 woken: ∀i c pr,i<n→K.wait i (ps.getD i (K.idle 0))=some (c,pr)→(M.fs.getD i Fr.zero).st=3→pr (Q0j n M.L c)=true→
  M.L.getD (8+3*n+i) 0≠0∨ ∃j,j<n∧(M.fs.getD j Fr.zero).wk.on=true∧(M.fs.getD j Fr.zero).wk.cell=c∧(M.fs.getD j Fr.zero).wk.i≤i
structure Q3D.Q5D(K:Q3D P)(n:Nat)(I:Nat→List P→(Nat→Int)→Prop):Prop where
 weak: ∀b ps m,I (b+1) ps m→I b ps m
 ok: ∀b ps m i,I b ps m→i<n→ps.length=n→K.ok (ps.getD i (K.idle 0))
 begins: ∀b ps m i op h,I (b+1) ps m→i<n→ps.length=n→ps.getD i (K.idle 0)=K.idle h→Q6T op h=true→I b (ps.set i (K.start op h)) m
 acts: ∀b ps m i,I (b+1) ps m→i<n→ps.length=n→K.wait i (ps.getD i (K.idle 0))=none→(K.conc (ps.getD i (K.idle 0))).1.op≠0→
  I b (ps.set i (K.act i (ps.getD i (K.idle 0)) m).1) (written m (K.act i (ps.getD i (K.idle 0)) m).2.1)
 sees: ∀b ps m i c pr,I (b+1) ps m→i<n→ps.length=n→K.wait i (ps.getD i (K.idle 0))=some (c,pr)→pr (m c)=true→I b (ps.set i (K.post (ps.getD i (K.idle 0)) (m c))) m
 wakes: ∀b ps m i j c pr,I (b+1) ps m→i<n→j<n→i≠j→ps.length=n→K.wait i (ps.getD i (K.idle 0))=none→(K.conc (ps.getD i (K.idle 0))).1.op≠0→K.wait j (ps.getD j (K.idle 0))=some (c,pr)→
  pr (written m (K.act i (ps.getD i (K.idle 0)) m).2.1 c)=true→pr (m c)=true∨(K.act i (ps.getD i (K.idle 0)) m).2.2=some c
theorem Y0g{g:Rn→Rn}{s:Rn}(h:s.f.wk.on=false)(ha:s.acc=Acc.zero)(hn:s.notes=[]):Q0K g s=g s:=by
 unfold Q0K
 rw[h]
 obtain⟨n,mode,task,f,acc,notes,L⟩:=s
 simp only at ha hn
 subst ha hn
 rfl
theorem X8Q{g:Rn→Rn}{M:Mt}{i:Nat}{f:Fr}{h:Int}(hw:f.wk.on=true):
 M.goes g i f h=if f.ret≠0∧(Q4K M.L M.n f.wk).1.on=false then M.put i Fr.zero (Q0c f.op f.ret h) (Q4K M.L M.n f.wk).2.2 else M.put i {f with wk:=(Q4K M.L M.n f.wk).1} h (Q4K M.L M.n f.wk).2.2:=by
 have hs:Q0K g (M.run i f)=(M.run i f).woke:=by
  unfold Q0K
  rw[show(M.run i f).f.wk.on=true from hw]
  rfl
 rw[Q7v hs,hw]
 simp only[Bool.not_true,Bool.false_and,Bool.false_eq_true,if_false]
 have e1:(M.run i f).woke.over=(f.ret !=0 && !(Q4K M.L M.n f.wk).1.on):=rfl
 rw[e1]
 by_cases h1:f.ret=0
 ·rw[if_neg (by simp[h1]),if_neg (by simp[h1])]
  rfl
 ·by_cases h2:(Q4K M.L M.n f.wk).1.on=false
  ·rw[if_pos (by simp[h1,h2]),if_pos ⟨h1,h2⟩]
   rfl
  ·rw[if_neg (by simp[h1,h2]),if_neg (by simp[h2])]
   rfl
theorem Q5i{g:Rn→Rn}{M:Mt}{i:Nat}{f:Fr}{h:Int}(hw:f.wk.on=false)(hs:Q2R M.L M.n M.mode i f.st=false):
 M.goes g i f h=if(g (M.run i f)).over=true then M.put i Fr.zero (Q0c (g (M.run i f)).f.op (g (M.run i f)).f.ret h) (g (M.run i f)).L else M.put i (g (M.run i f)).f h (g (M.run i f)).L:=by
 rw[Q7v (Y0g (g:=g) (s:=M.run i f) hw rfl rfl),hw,hs]
 simp
theorem X5A{g:Rn→Rn}{M:Mt}{i:Nat}{f:Fr}{h:Int}(hw:f.wk.on=false)(hs:Q2R M.L M.n M.mode i f.st=true):M.goes g i f h=M.put i f h M.L:=by
 unfold Mt.goes
 rw[hw,hs]
 simp
theorem X3E{M:Mt}{i:Nat}(h1:i<M.fs.length)(h2:i<M.hold.length):M.put i (M.fs.getD i Fr.zero) (M.hold.getD i 0) M.L=M:=by
 unfold Mt.put
 have e1:M.fs.set i (M.fs.getD i Fr.zero)=M.fs:=by simp[List.getD,h1]
 have e2:M.hold.set i (M.hold.getD i 0)=M.hold:=by simp[List.getD,h2]
 rw[e1,e2]
theorem Q1p{n:Nat}{row i:Int}(h1:1≤n)(h2:n≤64)(h0:0≤i)(hi:i<n):cellP n row i=8+row*n+i:=by
 unfold cellP
 rw[if_pos (by omega)]
theorem Q5y{L:List Int}{kind c x y:Int}(hc:0≤c∧c<L.length):
 doA L ⟨kind,c,x,y,0⟩=(if kind=1 then(⟨kind,c,x,y,L.getD c.toNat 0⟩,true,L)else if kind=3 then(⟨kind,c,x,y,L.getD c.toNat 0⟩,true,L.set c.toNat ((L.getD c.toNat 0+x)%4294967296))
  else if kind=5 then(⟨kind,c,x,y,L.getD c.toNat 0⟩,true,if L.getD c.toNat 0=x then L.set c.toNat y else L)
  else if kind=2∨kind=4 then(⟨kind,c,x,y,L.getD c.toNat 0⟩,true,L.set c.toNat x)else(Acc.zero,false,L)):=by
 unfold doA
 rw[if_pos hc]
theorem Y2X{n:Nat}{L:List Int}{k:Wk}(h1:1≤n)(h2:n≤64)(hl:L.length=8+4*n)(hk:k.on=true)(h0:0≤k.i)(hi:k.i<n):
 Q4K L n k=if k.hit then(Q4e n k,(Q4M L n k.i).1,L.set (8+3*n+k.i.toNat) 1)
  else(if L.getD (8+2*n+k.i.toNat) 0=(k.cell+1)%4294967296 then⟨true,k.cell,k.i,true⟩else Q4e n k,(doA L ⟨1,cellP n 2 k.i,0,0,0⟩).1,L):=by
 have e2:(cellP n 2 k.i).toNat=8+2*n+k.i.toNat:=by rw[Q1p h1 h2 h0 hi];omega
 have e3:(cellP n 3 k.i).toNat=8+3*n+k.i.toNat:=by rw[Q1p h1 h2 h0 hi];omega
 have b2:0≤cellP n 2 k.i∧cellP n 2 k.i<L.length:=by rw[Q1p h1 h2 h0 hi];omega
 have b3:0≤cellP n 3 k.i∧cellP n 3 k.i<L.length:=by rw[Q1p h1 h2 h0 hi];omega
 unfold Q4K
 rw[if_pos hk]
 have g3:=Q5y (L:=L) (kind:=2) (c:=cellP n 3 k.i) (x:=1) (y:=0) b3
 have g2:=Q5y (L:=L) (kind:=1) (c:=cellP n 2 k.i) (x:=0) (y:=0) b2
 simp at g3 g2
 rw[e3]at g3
 rw[e2]at g2
 have gg:Q4M L n k.i=doA L ⟨2,cellP n 3 k.i,1,0,0⟩:=rfl
 rw[gg,g3,g2]
 simp[hk]
def Q3d(n:Nat)(f:Fr):Nat:=if f.wk.on then 2*(n-f.wk.i.toNat)-(if f.wk.hit then 1 else 0)else 0
theorem X1N{n:Nat}{k:Wk}{f:Fr}(hk:k.on=true)(h0:0≤k.i)(hi:k.i<n):Q3d n {f with wk:=Q4e n k}+1≤Q3d n {f with wk:=k}:=by
 unfold Q3d Q4e
 simp only[hk,if_true]
 split<;>split<;>simp[Wk.zero]at* <;>(try split)<;>omega
end
end Go.Proofs.YthnimpkoidablaaGreat.Z
