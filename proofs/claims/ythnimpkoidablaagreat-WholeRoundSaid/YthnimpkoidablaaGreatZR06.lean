import Derived.Test.YthnimpkoidablaaGreatZR03
import Derived.Test.YthnimpkoidablaaGreatZR04
import Derived.Test.YthnimpkoidablaaGreatZR05
set_option linter.unusedVariables false
set_option linter.unusedSimpArgs false
namespace Go.Proofs.YthnimpkoidablaaGreat.Z
open Go.RowKit
def Round(g:Rn→Rn)(S1 S2:Mt):Prop:= ∃R:Nat→Mt→Mt→Prop,R 600 S1 S2∧ ∀b M1 M2 t op,R (b+1) M1 M2→X3d M1→Words M1.L→R b (M1.Q3R g t op).1 (M2.Q3R g t op).1∧EvSh (M1.Q3R g t op).2 (M2.Q3R g t op).2
theorem round_same(g:Rn→Rn)(S:Mt):Round g S S:=⟨fun _ M1 M2=>M2=M1,rfl,fun b M1 M2 t op h _ _=>by rw[h];exact⟨rfl,EvSh.refl _⟩⟩
theorem okU_of{M:Mt}{i:Nat}{f:Fr}(hf:Y5N f)(hw:Words M.L)(h8:8≤M.L.length):OkU (M.run i f):=⟨hf.1,hf.2,hw.2,h8⟩
theorem round_add{c:Nat→Int}{RA RB:Int→Int→Int→Int→Prop}{g:Rn→Rn}(hc:AddC c)(hl:LineSh (addT c) RA RB OkU g)(hz: ∀op,RA op 0 0 0∧RB op 0 0 0)(hn: ∀s,NL s.L.length (g s)){S1 S2:Mt}(H:MtSh (addT c) RA RB S1 S2)(h8:8≤S1.L.length):Round g S1 S2:=by
 refine⟨fun _ M1 M2=>MtSh (addT c) RA RB M1 M2∧8≤M1.L.length,⟨H,h8⟩,fun b M1 M2 t op h F W=> ?_⟩
 obtain⟨h1,h2⟩:=h
 obtain⟨p1,p2⟩:=pickE_sh (addT_far hc) hl hz h1 F.hlen t op (fun i hi _ _=>okU_of ⟨by simp[Q4h],by simp[Q4h]⟩ W h2) (fun i hi _ _=>okU_of (F.Y2w i) W h2)
 exact⟨⟨p1,by rw[pick_nl hn];exact h2⟩,p2⟩
theorem shL_start{τ:Nat→Int→Int}{l l':List Int}{r:Nat}(e:l'.length=l.length)(h: ∀j,j<l.length→l'.getD j 0=τ j (l.getD j 0))(h0: ∀j,l.length≤j→τ j 0=0):l'++List.replicate r 0=shL τ (l++List.replicate r 0):=by
 apply List.ext_getElem?
 intro j
 simp only[shL,List.getElem?_mapIdx,List.getElem?_append,e]
 by_cases hj:j<l.length
 ·rw[if_pos hj,if_pos hj]
  have:=h j hj
  have h1:j<l'.length:=by omega
  simp[List.getD,hj,h1]at this⊢
  exact this
 ·rw[if_neg hj,if_neg hj,List.getElem?_replicate]
  split
  ·simp[h0 j (by omega)]
  ·rfl
theorem start_sh{τ:Nat→Int→Int}{RA RB:Int→Int→Int→Int→Prop}(hz:RA 0 0 0 0∧RB 0 0 0 0){k:Nat}{mode:Int}{L1 L2:List Int}(h:L2=shL τ L1):MtSh τ RA RB (Mt.start k mode L1) (Mt.start k mode L2):=
 ⟨rfl,rfl,rfl,by simp[Mt.start],fun i hi=>by
  have e:(List.replicate k Fr.zero).getD i Fr.zero=Fr.zero:=by rw[List.getD_eq_getElem?_getD,List.getElem?_replicate];split<;>rfl
  show FrSh RA RB ((List.replicate k Fr.zero).getD i Fr.zero) ((List.replicate k Fr.zero).getD i Fr.zero)
  rw[e]
  exact⟨rfl,rfl,rfl,rfl,rfl,hz.1,hz.2⟩,h⟩
theorem tf_round(k:Nat)(mode b1 b2:Int)(h1:1≤k)(hb1:0≤b1∧b1<4294967296)(hb2:0≤b2∧b2<4294967296):Round tfA (Mt.start k mode (X0N Q5P 3 k b1)) (Mt.start k mode (X0N Q5P 3 k b2)):=by
 have hd:0≤(b2-b1)%4294967296∧(b2-b1)%4294967296<4294967296:=by omega
 have hs:b2=addT (tfC ((b2-b1)%4294967296)) 0 b1:=by rw[addT_is (tfC_ok hd) hb1];unfold tfC;rw[if_pos (by decide)];omega
 refine round_add (tfC_ok hd) (tf_sh (tfC_ok hd) rfl rfl) (fun op=>⟨Or.inl rfl,rfl⟩) (fun s=>tf_nl rfl) (start_sh ⟨Or.inl rfl,rfl⟩ (shL_start rfl (fun j hj=> ?_) (fun j hj=> ?_))) (by simp[Mt.start,X0N,Q5P];omega)
 ·have hj:j<3:=hj
  have e:j=0∨j=1∨j=2:=by omega
  rcases e with rfl|rfl|rfl<;>exact hs
 ·have hj:3≤j:=hj
  have e:tfC ((b2-b1)%4294967296) j=0:=by unfold tfC;rw[if_neg (by omega)]
  unfold addT
  rw[e,if_pos rfl]
def pfC(e:Int):Nat→Int:=fun j=>if j<2 then e*256%4294967296 else if j<5 then e else 0
theorem pfC_ok{d:Int}(h:0≤d∧d<4294967296):AddC (pfC d):=⟨fun j hj=>by unfold pfC;rw[if_neg (by omega),if_neg (by omega)],fun j=>by unfold pfC;repeat' split;all_goals omega⟩
theorem pf_round(k:Nat)(mode b1 b2:Int)(h1:1≤k)(hb1:0≤b1∧b1<4294967296)(hb2:0≤b2∧b2<4294967296)(he:b2%2=b1%2):Round pfA (Mt.start k mode (X0N Q3U 5 k b1)) (Mt.start k mode (X0N Q3U 5 k b2)):=by
 have hd:0≤(b2-b1)%4294967296∧(b2-b1)%4294967296<4294967296:=by omega
 obtain⟨d,hdd⟩: ∃d,(b2-b1)%4294967296=d:=⟨_,rfl⟩
 have h2:d%2=0:=by omega
 rw[hdd]at hd
 have C:=pfC_ok hd
 have s0:b2*256%4294967296=addT (pfC d) 0 (b1*256%4294967296):=by rw[addT_is C (by omega)];show _=(_+d*256%4294967296)%4294967296;omega
 have s2:b2=addT (pfC d) 2 b1:=by rw[addT_is C hb1];show _=(_+d)%4294967296;omega
 refine round_add C (pf_sh C (by show d*256%4294967296%4=0;omega) rfl rfl h2) (fun op=>⟨(by unfold pfRA;rw[if_neg (by omega),if_neg (by omega)];trivial),(by unfold pfRB;rw[if_neg (by omega)];trivial)⟩) (fun s=>pf_nl rfl) (start_sh ⟨(by unfold pfRA;rw[if_neg (by omega),if_neg (by omega)];trivial),(by unfold pfRB;rw[if_neg (by omega)];trivial)⟩ (shL_start rfl (fun j hj=> ?_) (fun j hj=> ?_))) (by simp[Mt.start,X0N,Q3U];omega)
 ·have hj:j<5:=hj
  have e:j=0∨j=1∨j=2∨j=3∨j=4:=by omega
  rcases e with rfl|rfl|rfl|rfl|rfl
  ·exact s0
  ·exact s0
  ·exact s2
  ·exact s2
  ·exact s2
 ·have hj:5≤j:=hj
  have e:pfC d j=0:=by unfold pfC;rw[if_neg (by omega),if_neg (by omega)]
  unfold addT
  rw[e,if_pos rfl]
def pqC(e:Int):Nat→Int:=fun j=>if j<2 then e*256%4294967296 else if j=3 then e else 0
theorem pqC_ok{d:Int}(h:0≤d∧d<4294967296):AddC (pqC d):=⟨fun j hj=>by unfold pqC;rw[if_neg (by omega),if_neg (by omega)],fun j=>by unfold pqC;repeat' split;all_goals omega⟩
theorem pq_round(k:Nat)(mode b1 b2:Int)(h1:1≤k)(hb1:0≤b1∧b1<4294967296)(hb2:0≤b2∧b2<4294967296)(he:b2%2=b1%2):Round pqA (Mt.start k mode (X0N Q4F 4 k b1)) (Mt.start k mode (X0N Q4F 4 k b2)):=by
 have hd:0≤(b2-b1)%4294967296∧(b2-b1)%4294967296<4294967296:=by omega
 obtain⟨d,hdd⟩: ∃d,(b2-b1)%4294967296=d:=⟨_,rfl⟩
 have h2:d%2=0:=by omega
 rw[hdd]at hd
 have C:=pqC_ok hd
 have s0:b2*256%4294967296=addT (pqC d) 0 (b1*256%4294967296):=by rw[addT_is C (by omega)];show _=(_+d*256%4294967296)%4294967296;omega
 have s3:b2=addT (pqC d) 3 b1:=by rw[addT_is C hb1];show _=(_+d)%4294967296;omega
 refine round_add C (pq_sh C (by show d*256%4294967296%4=0;omega) rfl rfl h2) (fun op=>⟨(by unfold pqRA;rw[if_neg (by omega)];split<;>trivial),(by unfold pqRB;rw[if_neg (by omega)];trivial)⟩) (fun s=>pq_nl rfl) (start_sh ⟨(by unfold pqRA;rw[if_neg (by omega)];split<;>trivial),(by unfold pqRB;rw[if_neg (by omega)];trivial)⟩ (shL_start rfl (fun j hj=> ?_) (fun j hj=> ?_))) (by simp[Mt.start,X0N,Q4F];omega)
 ·have hj:j<4:=hj
  have e:j=0∨j=1∨j=2∨j=3:=by omega
  rcases e with rfl|rfl|rfl|rfl
  ·exact s0
  ·exact s0
  ·rfl
  ·exact s3
 ·have hj:4≤j:=hj
  have e:pqC d j=0:=by unfold pqC;rw[if_neg (by omega),if_neg (by omega)]
  unfold addT
  rw[e,if_pos rfl]
section
def Q0j(n:Nat)(L:List Int):Nat→Int:=fun j=>if j<8+2*n then L.getD j 0 else 0
def upd(m:Nat→Int)(c:Nat)(v:Int):Nat→Int:=fun j=>if j=c then v else m j
def written(m:Nat→Int):Option (Nat×Int)→Nat→Int
 |none=>m
 |some (c,v)=>upd m c v
def Q0e(L:List Int):Option (Nat×Int)→List Int
 |none=>L
 |some (c,v)=>L.set c v
def Q1f(mode:Int):Option Nat→Wk
 |none=>Wk.zero
 |some c=>Q3e mode c
theorem Q7w{L:List Int}{i j:Nat}{v:Int}:(L.set i v).getD j 0=if i=j∧i<L.length then v else L.getD j 0:=by
 simp only[List.getD_eq_getElem?_getD,List.getElem?_set]
 by_cases h:i=j
 ·subst h
  by_cases h2:i<L.length
  ·simp[h2]
  ·simp[h2]
 ·simp[h]
theorem Q2K{α:Type}{L:List α}{i j:Nat}{v d:α}(hi:i<L.length):(L.set i v).getD j d=if i=j then v else L.getD j d:=by
 simp only[List.getD_eq_getElem?_getD,List.getElem?_set]
 by_cases h:i=j
 ·subst h
  simp[hi]
 ·simp[h]
theorem Q2d{α:Type}{L:List α}{i j:Nat}{v d:α}(h:i≠j):(L.set i v).getD j d=L.getD j d:=by
 simp[List.getD_eq_getElem?_getD,List.getElem?_set,h]
theorem Y1q{n:Nat}{L:List Int}{c:Nat}{v:Int}(hl:L.length=8+4*n)(hc:c<8+2*n):Q0j n (L.set c v)=upd (Q0j n L) c v:=by
 funext j
 unfold Q0j upd
 rw[Q7w]
 by_cases h:j=c
 ·subst h
  rw[if_pos hc,if_pos ⟨rfl,by omega⟩,if_pos rfl]
 ·rw[if_neg (fun h2:c=j∧c<L.length=>h h2.1.symm),if_neg h]
theorem Q7Y{n:Nat}{L:List Int}{c:Nat}{v:Int}(hc:8+2*n≤c):Q0j n (L.set c v)=Q0j n L:=by
 funext j
 unfold Q0j
 by_cases h:j<8+2*n
 ·rw[if_pos h,if_pos h,Q7w,if_neg (by omega)]
 ·rw[if_neg h,if_neg h]
theorem X1M{n:Nat}{L:List Int}(hl:L.length=8+4*n){w:Option (Nat×Int)}(hc: ∀c v,w=some (c,v)→c<8+2*n):Q0j n (Q0e L w)=written (Q0j n L) w:=by
 cases w with
 |none=>rfl
 |some x=>obtain⟨c,v⟩:=x;exact Y1q hl (hc c v rfl)
theorem X0Q(L:List Int)(w:Option (Nat×Int)):(Q0e L w).length=L.length:=by
 cases w with
 |none=>rfl
 |some x=>obtain⟨c,v⟩:=x;simp[Q0e]
theorem Q7C{n j:Nat}{L:List Int}{w:Option (Nat×Int)}(hc: ∀c v,w=some (c,v)→c<8+2*n)(hj:8+2*n≤j):(Q0e L w).getD j 0=L.getD j 0:=by
 cases w with
 |none=>rfl
 |some x=>
  obtain⟨c,v⟩:=x
  have:=hc c v rfl
  exact Q2d (by omega)
structure Q3D(P:Type) where
 g:Rn→Rn
 conc:P→Fr×Int
 keep:P→Int→Int
 wait:Nat→P→Option (Nat×(Int→Bool))
 post:P→Int→P
 act:Nat→P→(Nat→Int)→P×Option (Nat×Int)×Option Nat
 idle:Int→P
 start:Int→Int→P
 ok:P→Prop
def Q0o(f:Fr)(h:Int):Fr×Int:=if f.ret≠0 then(Fr.zero,Q0c f.op f.ret h)else({f with wk:=Wk.zero},h)
variable {P:Type}
structure X3e(K:Q3D P)(n:Nat)(p:P)(R:P×Option (Nat×Int)×Option Nat)(s s':Rn):Prop where
 L:s'.L=Q0e s.L R.2.1
 f:Q0o s'.f (K.conc p).2=K.conc R.1
 st:s'.f.st=0
 wk:s'.f.wk=Q1f s.mode R.2.2
 op:s'.f.op≠0
 lt: ∀c v,R.2.1=some (c,v)→c<8+2*n
structure Q3D.Good(K:Q3D P)(n:Nat)(mode:Int):Prop where
 plain: ∀p,(K.conc p).1.st=0∧(K.conc p).1.wk=Wk.zero∧(K.conc p).1.ret=0
 idle_conc: ∀h,K.conc (K.idle h)=(Fr.zero,h)
 idle_only: ∀p,(K.conc p).1.op=0→p=K.idle (K.conc p).2
 two: ∀p,(K.conc p).2=2→p=K.idle 2
 wait_op: ∀t p c pr,K.wait t p=some (c,pr)→(K.conc p).1.op≠0
 start_conc: ∀op h,Q6T op h=true→K.conc (K.start op h)=(Q4h op,Q0w op h)
 start_wait: ∀t op h,Q6T op h=true→K.wait t (K.start op h)=none
 wait_lt: ∀t p c pr,K.ok p→t<n→K.wait t p=some (c,pr)→c<8+2*n
 post_hold: ∀t p c pr v,K.wait t p=some (c,pr)→(K.conc p).2≠0→(K.conc (K.post p v)).2≠0
 act: ∀p t s,K.ok p→t<n→K.wait t p=none→(K.conc p).1.op≠0→s.n=(n:Int)→s.mode=mode→s.task=(t:Int)→s.f=(K.conc p).1→s.L.length=8+4*n→X3e K n p (K.act t p (Q0j n s.L)) s (K.g s)
 wait_step: ∀p t c pr st s,K.ok p→t<n→K.wait t p=some (c,pr)→0≤st→st≤3→s.n=(n:Int)→s.mode=mode→s.task=(t:Int)→s.f={(K.conc p).1 with st:=st}→s.L.length=8+4*n→
  (K.g s).L=(Q0t s.L n mode t st c pr).words∧
  ((Q0t s.L n mode t st c pr).done=true→Q0o (K.g s).f (K.conc p).2=K.conc (K.post p (Q0t s.L n mode t st c pr).acc.old)∧(K.g s).f.st=0∧(K.g s).f.wk=Wk.zero∧(K.g s).f.op≠0)∧
  ((Q0t s.L n mode t st c pr).done=false→(K.g s).f=if(Q0t s.L n mode t st c pr).seen then{(K.conc p).1 with a:=K.keep p (Q0t s.L n mode t st c pr).acc.old,st:=(Q0t s.L n mode t st c pr).stage}else{(K.conc p).1 with st:=(Q0t s.L n mode t st c pr).stage})
 wait_last: ∀p t c pr v s,K.ok p→t<n→mode=2→K.wait t p=some (c,pr)→pr v=true→s.n=(n:Int)→s.mode=mode→s.task=(t:Int)→s.f={(K.conc p).1 with a:=K.keep p v,st:=4}→s.L.length=8+4*n→
  (K.g s).L=(Q0t s.L n mode t 4 c pr).words∧Q0o (K.g s).f (K.conc p).2=K.conc (K.post p v)∧(K.g s).f.st=0∧(K.g s).f.wk=Wk.zero∧(K.g s).f.op≠0
inductive Q5F(K:Q3D P)(n:Nat)(mode:Int)(t:Nat):Fr→Int→P→Prop
 |plain (p:P):Q5F K n mode t (K.conc p).1 (K.conc p).2 p
 |waking (p:P) (k:Wk):mode=2→k.on=true→0≤k.i→k.i<n→0≤k.cell→(K.conc p).1.op≠0→Q5F K n mode t {(K.conc p).1 with wk:=k} (K.conc p).2 p
 |staged (p:P) (c:Nat) (pr:Int→Bool) (st:Int):mode=2→K.ok p→K.wait t p=some (c,pr)→st=1∨st=2∨st=3→Q5F K n mode t {(K.conc p).1 with st:=st} (K.conc p).2 p
 |seen (q:P) (c:Nat) (pr:Int→Bool) (v:Int):mode=2→K.ok q→K.wait t q=some (c,pr)→pr v=true→Q5F K n mode t {(K.conc q).1 with a:=K.keep q v,st:=4} (K.conc q).2 (K.post q v)
 |over (f:Fr) (h:Int):mode=2→f.wk.on=true→0≤f.wk.i→f.wk.i<n→0≤f.wk.cell→f.op≠0→f.ret≠0→f.st=0→h≠2→Q5F K n mode t f h (K.idle (Q0c f.op f.ret h))
structure MI(K:Q3D P)(I:Nat→List P→(Nat→Int)→Prop)(n b:Nat)(M:Mt)(ps:List P):Prop where
 num:M.n=(n:Int)
 fsl:M.fs.length=n
 hol:M.hold.length=n
 psl:ps.length=n
 len:M.L.length=8+4*n
 abs: ∀i,i<n→Q5F K n M.mode i (M.fs.getD i Fr.zero) (M.hold.getD i 0) (ps.getD i (K.idle 0))
 inv:I b ps (Q0j n M.L)
 watch: ∀i c pr,i<n→K.wait i (ps.getD i (K.idle 0))=some (c,pr)→((M.fs.getD i Fr.zero).st=2∨(M.fs.getD i Fr.zero).st=3)→M.L.getD (8+2*n+i) 0=((c:Int)+1)%4294967296
 woken: ∀i c pr,i<n→K.wait i (ps.getD i (K.idle 0))=some (c,pr)→(M.fs.getD i Fr.zero).st=3→pr (Q0j n M.L c)=true→
  M.L.getD (8+3*n+i) 0≠0∨ ∃j,j<n∧(M.fs.getD j Fr.zero).wk.on=true∧(M.fs.getD j Fr.zero).wk.cell=c∧(M.fs.getD j Fr.zero).wk.i≤i
structure Q3D.Q5D(K:Q3D P)(n:Nat)(I:Nat→List P→(Nat→Int)→Prop):Prop where
 weak: ∀b ps m,I (b+1) ps m→I b ps m
 ok: ∀b ps m i,I b ps m→i<n→ps.length=n→K.ok (ps.getD i (K.idle 0))
 begins: ∀b ps m i op h,I (b+1) ps m→i<n→ps.length=n→ps.getD i (K.idle 0)=K.idle h→Q6T op h=true→I b (ps.set i (K.start op h)) m
 acts: ∀b ps m i,I (b+1) ps m→i<n→ps.length=n→K.wait i (ps.getD i (K.idle 0))=none→(K.conc (ps.getD i (K.idle 0))).1.op≠0→
  I b (ps.set i (K.act i (ps.getD i (K.idle 0)) m).1) (written m (K.act i (ps.getD i (K.idle 0)) m).2.1)
 sees: ∀b ps m i c pr,I (b+1) ps m→i<n→ps.length=n→K.wait i (ps.getD i (K.idle 0))=some (c,pr)→pr (m c)=true→I b (ps.set i (K.post (ps.getD i (K.idle 0)) (m c))) m
 wakes: ∀b ps m i j c pr,I (b+1) ps m→i<n→j<n→i≠j→ps.length=n→K.wait i (ps.getD i (K.idle 0))=none→(K.conc (ps.getD i (K.idle 0))).1.op≠0→K.wait j (ps.getD j (K.idle 0))=some (c,pr)→
  pr (written m (K.act i (ps.getD i (K.idle 0)) m).2.1 c)=true→pr (m c)=true∨(K.act i (ps.getD i (K.idle 0)) m).2.2=some c
theorem Y0g{g:Rn→Rn}{s:Rn}(h:s.f.wk.on=false)(ha:s.acc=Acc.zero)(hn:s.notes=[]):Q0K g s=g s:=by
 unfold Q0K
 rw[h]
 obtain⟨n,mode,task,f,acc,notes,L⟩:=s
 simp only at ha hn
 subst ha hn
 rfl
theorem X8Q{g:Rn→Rn}{M:Mt}{i:Nat}{f:Fr}{h:Int}(hw:f.wk.on=true):
 M.goes g i f h=if f.ret≠0∧(Q4K M.L M.n f.wk).1.on=false then M.put i Fr.zero (Q0c f.op f.ret h) (Q4K M.L M.n f.wk).2.2 else M.put i {f with wk:=(Q4K M.L M.n f.wk).1} h (Q4K M.L M.n f.wk).2.2:=by
 have hs:Q0K g (M.run i f)=(M.run i f).woke:=by
  unfold Q0K
  rw[show(M.run i f).f.wk.on=true from hw]
  rfl
 rw[Q7v hs,hw]
 simp only[Bool.not_true,Bool.false_and,Bool.false_eq_true,if_false]
 have e1:(M.run i f).woke.over=(f.ret !=0 && !(Q4K M.L M.n f.wk).1.on):=rfl
 rw[e1]
 by_cases h1:f.ret=0
 ·rw[if_neg (by simp[h1]),if_neg (by simp[h1])]
  rfl
 ·by_cases h2:(Q4K M.L M.n f.wk).1.on=false
  ·rw[if_pos (by simp[h1,h2]),if_pos ⟨h1,h2⟩]
   rfl
  ·rw[if_neg (by simp[h1,h2]),if_neg (by simp[h2])]
   rfl
theorem Q5i{g:Rn→Rn}{M:Mt}{i:Nat}{f:Fr}{h:Int}(hw:f.wk.on=false)(hs:Q2R M.L M.n M.mode i f.st=false):
 M.goes g i f h=if(g (M.run i f)).over=true then M.put i Fr.zero (Q0c (g (M.run i f)).f.op (g (M.run i f)).f.ret h) (g (M.run i f)).L else M.put i (g (M.run i f)).f h (g (M.run i f)).L:=by
 rw[Q7v (Y0g (g:=g) (s:=M.run i f) hw rfl rfl),hw,hs]
 simp
theorem X5A{g:Rn→Rn}{M:Mt}{i:Nat}{f:Fr}{h:Int}(hw:f.wk.on=false)(hs:Q2R M.L M.n M.mode i f.st=true):M.goes g i f h=M.put i f h M.L:=by
 unfold Mt.goes
 rw[hw,hs]
 simp
theorem X3E{M:Mt}{i:Nat}(h1:i<M.fs.length)(h2:i<M.hold.length):M.put i (M.fs.getD i Fr.zero) (M.hold.getD i 0) M.L=M:=by
 unfold Mt.put
 have e1:M.fs.set i (M.fs.getD i Fr.zero)=M.fs:=by simp[List.getD,h1]
 have e2:M.hold.set i (M.hold.getD i 0)=M.hold:=by simp[List.getD,h2]
 rw[e1,e2]
theorem Q1p{n:Nat}{row i:Int}(h1:1≤n)(h2:n≤64)(h0:0≤i)(hi:i<n):cellP n row i=8+row*n+i:=by
 unfold cellP
 rw[if_pos (by omega)]
theorem Q5y{L:List Int}{kind c x y:Int}(hc:0≤c∧c<L.length):
 doA L ⟨kind,c,x,y,0⟩=(if kind=1 then(⟨kind,c,x,y,L.getD c.toNat 0⟩,true,L)else if kind=3 then(⟨kind,c,x,y,L.getD c.toNat 0⟩,true,L.set c.toNat ((L.getD c.toNat 0+x)%4294967296))
  else if kind=5 then(⟨kind,c,x,y,L.getD c.toNat 0⟩,true,if L.getD c.toNat 0=x then L.set c.toNat y else L)
  else if kind=2∨kind=4 then(⟨kind,c,x,y,L.getD c.toNat 0⟩,true,L.set c.toNat x)else(Acc.zero,false,L)):=by
 unfold doA
 rw[if_pos hc]
theorem Y2X{n:Nat}{L:List Int}{k:Wk}(h1:1≤n)(h2:n≤64)(hl:L.length=8+4*n)(hk:k.on=true)(h0:0≤k.i)(hi:k.i<n):
 Q4K L n k=if k.hit then(Q4e n k,(Q4M L n k.i).1,L.set (8+3*n+k.i.toNat) 1)
  else(if L.getD (8+2*n+k.i.toNat) 0=(k.cell+1)%4294967296 then⟨true,k.cell,k.i,true⟩else Q4e n k,(doA L ⟨1,cellP n 2 k.i,0,0,0⟩).1,L):=by
 have e2:(cellP n 2 k.i).toNat=8+2*n+k.i.toNat:=by rw[Q1p h1 h2 h0 hi];omega
 have e3:(cellP n 3 k.i).toNat=8+3*n+k.i.toNat:=by rw[Q1p h1 h2 h0 hi];omega
 have b2:0≤cellP n 2 k.i∧cellP n 2 k.i<L.length:=by rw[Q1p h1 h2 h0 hi];omega
 have b3:0≤cellP n 3 k.i∧cellP n 3 k.i<L.length:=by rw[Q1p h1 h2 h0 hi];omega
 unfold Q4K
 rw[if_pos hk]
 have g3:=Q5y (L:=L) (kind:=2) (c:=cellP n 3 k.i) (x:=1) (y:=0) b3
 have g2:=Q5y (L:=L) (kind:=1) (c:=cellP n 2 k.i) (x:=0) (y:=0) b2
 simp at g3 g2
 rw[e3]at g3
 rw[e2]at g2
 have gg:Q4M L n k.i=doA L ⟨2,cellP n 3 k.i,1,0,0⟩:=rfl
 rw[gg,g3,g2]
 simp[hk]
def Q3d(n:Nat)(f:Fr):Nat:=if f.wk.on then 2*(n-f.wk.i.toNat)-(if f.wk.hit then 1 else 0)else 0
theorem X1N{n:Nat}{k:Wk}{f:Fr}(hk:k.on=true)(h0:0≤k.i)(hi:k.i<n):Q3d n {f with wk:=Q4e n k}+1≤Q3d n {f with wk:=k}:=by
 unfold Q3d Q4e
 simp only[hk,if_true]
 split<;>split<;>simp[Wk.zero]at* <;>(try split)<;>omega
end
section
variable {P:Type}{K:Q3D P}{I:Nat→List P→(Nat→Int)→Prop}{n b:Nat}{M:Mt}{ps:List P}
theorem Q4b{mode st:Int}(hm:mode=2)(h0:0≤st)(h1:st≤4):Q1y mode st=st:=by
 unfold Q1y
 rw[if_pos (by omega)]
theorem Q7k(mode:Int):Q1y mode 0=0:=by unfold Q1y;split<;>rfl
theorem Q5F.Y3h{mode:Int}{t:Nat}{f:Fr}{h:Int}{p:P}(G:K.Good n mode)(H:Q5F K n mode t f h p):(f.st=2∨f.st=3)→mode=2:=by
 intro hs
 cases H<;>first|assumption|(have:=(G.plain p).1;omega)
theorem Q5F.left{mode:Int}{t:Nat}{f:Fr}{h:Int}{p:P}(G:K.Good n mode)(H:Q5F K n mode t f h p):Q3d n f≤2*n:=by
 unfold Q3d
 split
 ·omega
 ·omega
theorem MI.put(H:MI K I n (b+1) M ps)(G:K.Good n M.mode){i:Nat}(hi:i<n){f':Fr}{h':Int}{p':P}{L':List Int}(hL:L'.length=8+4*n)(ha:Q5F K n M.mode i f' h' p')(hinv:I b (ps.set i p') (Q0j n L'))
 (w1: ∀c pr,K.wait i p'=some (c,pr)→(f'.st=2∨f'.st=3)→L'.getD (8+2*n+i) 0=((c:Int)+1)%4294967296)
 (w2: ∀j,j<n→j≠i→L'.getD (8+2*n+j) 0=M.L.getD (8+2*n+j) 0)
 (w3: ∀c pr,K.wait i p'=some (c,pr)→f'.st=3→pr (Q0j n L' c)=false)
 (w4: ∀j c pr,j<n→j≠i→K.wait j (ps.getD j (K.idle 0))=some (c,pr)→(M.fs.getD j Fr.zero).st=3→pr (Q0j n L' c)=true→
  L'.getD (8+3*n+j) 0≠0∨(f'.wk.on=true∧f'.wk.cell=c∧f'.wk.i≤j)∨ ∃u,u<n∧u≠i∧(M.fs.getD u Fr.zero).wk.on=true∧(M.fs.getD u Fr.zero).wk.cell=c∧(M.fs.getD u Fr.zero).wk.i≤j):
 MI K I n b (M.put i f' h' L') (ps.set i p'):=by
 have hfl:=H.fsl
 have hhl:=H.hol
 have hpl:=H.psl
 refine⟨H.num,by simp[Mt.put,hfl],by simp[Mt.put,hhl],by simp[hpl],hL,fun j hj=> ?_,hinv,fun j c pr hj hw hs=> ?_,fun j c pr hj hw hs hp=> ?_⟩
 ·show Q5F K n M.mode j ((M.fs.set i f').getD j Fr.zero) ((M.hold.set i h').getD j 0) ((ps.set i p').getD j (K.idle 0))
  rw[Q2K (by omega),Q2K (by omega),Q2K (by omega)]
  by_cases e:i=j
  ·subst e
   simp only[if_true]
   exact ha
  ·simp only[if_neg e]
   exact H.abs j hj
 ·have hs:((M.fs.set i f').getD j Fr.zero).st=2∨((M.fs.set i f').getD j Fr.zero).st=3:=hs
  show L'.getD (8+2*n+j) 0=_
  rw[Q2K (by omega)]at hs hw
  by_cases e:i=j
  ·subst e
   simp only[if_true]at hs hw
   exact w1 c pr hw hs
  ·simp only[if_neg e]at hs hw
   rw[w2 j hj (fun h=>e h.symm)]
   exact H.watch j c pr hj hw hs
 ·have hs:((M.fs.set i f').getD j Fr.zero).st=3:=hs
  have hp:pr (Q0j n L' c)=true:=hp
  rw[Q2K (by omega)]at hs hw
  by_cases e:i=j
  ·subst e
   simp only[if_true]at hs hw
   rw[w3 c pr hw hs]at hp
   cases hp
  ·simp only[if_neg e]at hs hw
   rcases w4 j c pr hj (fun h=>e h.symm) hw hs hp with h1|⟨h1,h2,h3⟩|⟨u,h1,h2,h3,h4,h5⟩
   ·exact Or.inl h1
   ·refine Or.inr ⟨i,hi,?_⟩
    show((M.fs.set i f').getD i Fr.zero).wk.on=true∧((M.fs.set i f').getD i Fr.zero).wk.cell=c∧((M.fs.set i f').getD i Fr.zero).wk.i≤j
    rw[Q2K (by omega),if_pos rfl]
    exact⟨h1,h2,h3⟩
   ·refine Or.inr ⟨u,h1,?_⟩
    show((M.fs.set i f').getD u Fr.zero).wk.on=true∧((M.fs.set i f').getD u Fr.zero).wk.cell=c∧((M.fs.set i f').getD u Fr.zero).wk.i≤j
    rw[Q2K (by omega),if_neg (fun h=>h2 h.symm)]
    exact⟨h3,h4,h5⟩
theorem MI.others(H:MI K I n b M ps){i:Nat}{L':List Int}(hw:(M.fs.getD i Fr.zero).wk.on=false)(hm:Q0j n L'=Q0j n M.L)(hp: ∀j,j<n→j≠i→L'.getD (8+3*n+j) 0=M.L.getD (8+3*n+j) 0)(f':Fr):
 ∀j c pr,j<n→j≠i→K.wait j (ps.getD j (K.idle 0))=some (c,pr)→(M.fs.getD j Fr.zero).st=3→pr (Q0j n L' c)=true→
  L'.getD (8+3*n+j) 0≠0∨(f'.wk.on=true∧f'.wk.cell=c∧f'.wk.i≤j)∨ ∃u,u<n∧u≠i∧(M.fs.getD u Fr.zero).wk.on=true∧(M.fs.getD u Fr.zero).wk.cell=c∧(M.fs.getD u Fr.zero).wk.i≤j:=by
 intro j c pr hj hji hwt hs hpr
 rw[hm]at hpr
 rcases H.woken j c pr hj hwt hs hpr with h1|⟨u,h1,h2,h3⟩
 ·exact Or.inl (by rw[hp j hj hji];exact h1)
 ·refine Or.inr (Or.inr ⟨u,h1,?_,h2,h3⟩)
  rintro rfl
  rw[hw]at h2
  cases h2
theorem Q8X{mode:Int}(hm:mode=1∨mode=2)(G:K.Good n mode)(h1:1≤n){t:Nat}{s':Rn}{h:Int}{p':P}{w:Option Nat}(hf:Q0o s'.f h=K.conc p')(hst:s'.f.st=0)(hwk:s'.f.wk=Q1f mode w)(hop:s'.f.op≠0)(hh:h≠2):
 ∃f' h',(if s'.over=true then(Fr.zero,Q0c s'.f.op s'.f.ret h)else(s'.f,h))=(f',h')∧Q5F K n mode t f' h' p'∧f'.st=0∧f'.wk=Q1f mode w:=by
 have hz:Q1f mode w=Wk.zero∨ ∃c,w=some c∧mode=2∧Q1f mode w=⟨true,c,0,false⟩:=by
  cases w with
  |none=>exact Or.inl rfl
  |some c=>
   rcases hm with hm|hm
   ·left;show Q3e mode c=_;unfold Q3e;rw[if_neg (by omega)]
   ·right;exact⟨c,rfl,hm,by show Q3e mode c=_;unfold Q3e;rw[if_pos hm]⟩
 unfold Q0o at hf
 by_cases hr:s'.f.ret=0
 ·rw[if_neg (by simp[hr])]at hf
  refine⟨s'.f,h,by rw[if_neg (by unfold Rn.over;simp[hr])],?_,hst,hwk⟩
  rcases hz with hz|⟨c,hc,hm2,hz⟩
  ·have e:({s'.f with wk:=Wk.zero}:Fr)=s'.f:=by rw[hz]at hwk;rw[←hwk]
   rw[e]at hf
   have:=Q5F.plain (K:=K) (n:=n) (mode:=mode) (t:=t) p'
   rw[←hf]at this
   exact this
  ·have hp1:(K.conc p').1={s'.f with wk:=Wk.zero}:=by rw[←hf]
   have hp2:(K.conc p').2=h:=by rw[←hf]
   have:=Q5F.waking (K:=K) (n:=n) (mode:=mode) (t:=t) p' s'.f.wk hm2 (by rw[hwk,hz]) (by rw[hwk,hz];exact Int.le_refl _) (by rw[hwk,hz];show(0:Int)<n;omega) (by rw[hwk,hz];show(0:Int)≤c;omega) (by rw[hp1];exact hop)
   rw[hp1,hp2]at this
   exact this
 ·rw[if_pos hr]at hf
  have hp:p'=K.idle (Q0c s'.f.op s'.f.ret h):=by
   have:=G.idle_only p' (by rw[←hf];rfl)
   rw[←hf]at this
   exact this
  subst hp
  rcases hz with hz|⟨c,hc,hm2,hz⟩
  ·refine⟨Fr.zero,Q0c s'.f.op s'.f.ret h,by rw[if_pos (by unfold Rn.over;rw[hwk,hz];simp[hr,Wk.zero])],?_,rfl,by rw[hz];rfl⟩
   have:=Q5F.plain (K:=K) (n:=n) (mode:=mode) (t:=t) (K.idle (Q0c s'.f.op s'.f.ret h))
   rw[←hf]at this
   exact this
  ·refine⟨s'.f,h,by rw[if_neg (by unfold Rn.over;rw[hwk,hz];simp)],?_,hst,hwk⟩
   exact Q5F.over s'.f h hm2 (by rw[hwk,hz]) (by rw[hwk,hz];exact Int.le_refl _) (by rw[hwk,hz];show(0:Int)<n;omega) (by rw[hwk,hz];show(0:Int)≤c;omega) hop hr hst hh
theorem X7J{M:Mt}{i:Nat}{b:Bool}{f1 f2 f':Fr}{h1 h2 h':Int}{L':List Int}(h:(if b=true then(f1,h1)else(f2,h2))=(f',h')):(if b=true then M.put i f1 h1 L' else M.put i f2 h2 L')=M.put i f' h' L':=by
 cases b<;>simp at h<;>simp[h]
structure Q3D.Live(K:Q3D P)(n:Nat)(I:Nat→List P→(Nat→Int)→Prop)(N V C:Nat)(nw nv:P→Nat)(cp:(Nat→Int)→Nat→P→Nat):Prop where
 nwle: ∀p,nw p≤N
 nvle: ∀p,nv p≤V
 five:5≤C
 cple: ∀m t p,cp m t p+1≤C∧(K.wait t p≠none→cp m t p+2≤C)
 wait_yes: ∀m t p c pr,K.wait t p=some (c,pr)→pr (m c)=true→cp m t (K.post p (m c))+1≤cp m t p
 wait_no: ∀m t p c pr,K.wait t p=some (c,pr)→pr (m c)=false→5≤cp m t p
 post_w: ∀t p c pr v,K.wait t p=some (c,pr)→nw (K.post p v)≤nw p∧nv (K.post p v)≤nv p
 write: ∀m t p w,K.wait t p=none→(K.conc p).1.op≠0→(K.act t p m).2.1=some w→nw (K.act t p m).1+1≤nw p∧nv (K.act t p m).1+(if(K.act t p m).2.2.isSome then 1 else 0)≤nv p
 quiet: ∀b ps m t p,I b ps m→ps.length=n→t<n→ps.getD t (K.idle 0)=p→K.wait t p=none→(K.conc p).1.op≠0→(K.act t p m).2.1=none→(K.act t p m).2.2=none∧nw (K.act t p m).1≤nw p∧nv (K.act t p m).1≤nv p∧cp m t (K.act t p m).1+1≤cp m t p
 gives: ∀m t h,h=1∨h=2→nw (K.start (2*h) h)≤nw (K.idle h)∧nv (K.start (2*h) h)≤nv (K.idle h)∧cp m t (K.start (2*h) h)≤cp m t (K.idle h)
 rests: ∀m t,cp m t (K.idle 0)=0
 zero: ∀m t p,K.wait t p=none→cp m t p=0→p=K.idle 0
 free: ∀b ps m,I b ps m→ps.length=n→(∀i,i<n→ps.getD i (K.idle 0)=K.idle 0∨ ∃c pr,K.wait i (ps.getD i (K.idle 0))=some (c,pr)∧pr (m c)=false)→ ∀i,i<n→ps.getD i (K.idle 0)=K.idle 0
theorem Q8R{C x:Nat}{Q:Prop}(h:x+2≤C):x+1≤C∧(Q→x+2≤C):=⟨by omega,fun _=>h⟩
def Q5G(K:Q3D P)(cp:(Nat→Int)→Nat→P→Nat)(m:Nat→Int)(mode:Int)(t:Nat)(f:Fr)(p:P)(q:Int):Nat:=
 if f.st=4 then 1+cp m t p
 else match K.wait t p with
  |some (c,pr)=>if pr (m c)then(if f.st=0 then 0 else if f.st=2 then 1 else 2)+cp m t p
   else if mode=2 then(if f.st=0 then 3 else if f.st=1 then 2 else if f.st=2 then 1 else 0)+(if q≠0 then 2 else 0)else 0
  |none=>cp m t p
theorem Q7o{N V C:Nat}{nw nv:P→Nat}{cp:(Nat→Int)→Nat→P→Nat}(Lv:K.Live n I N V C nw nv cp){m:Nat→Int}{mode:Int}{t:Nat}{f:Fr}{p:P}{q:Int}(hs:f.st=0):Q5G K cp m mode t f p q≤cp m t p:=by
 unfold Q5G
 rw[if_neg (by omega)]
 split
 ·rename_i c pr hw
  cases hp:pr (m c)with
  |true=>simp[hs]
  |false=>
   have:=Lv.wait_no m t p c pr hw hp
   simp only[hs,if_true,Bool.false_eq_true,if_false]
   repeat' split
   all_goals omega
 ·exact Nat.le_refl _
structure Went(K:Q3D P)(n:Nat)(nw nv:P→Nat)(cp:(Nat→Int)→Nat→P→Nat)(M:Mt)(ps:List P)(i:Nat)(M':Mt)(ps':List P):Prop where
 num:M'.n=M.n∧M'.mode=M.mode
 others: ∀j,j≠i→M'.fs.getD j Fr.zero=M.fs.getD j Fr.zero∧M'.hold.getD j 0=M.hold.getD j 0∧ps'.getD j (K.idle 0)=ps.getD j (K.idle 0)
 kind:(0<Q3d n (M.fs.getD i Fr.zero)∧Q3d n (M'.fs.getD i Fr.zero)+1≤Q3d n (M.fs.getD i Fr.zero)∧ps'=ps∧Q0j n M'.L=Q0j n M.L)∨
  (Q3d n (M.fs.getD i Fr.zero)=0∧nw (ps'.getD i (K.idle 0))+1≤nw (ps.getD i (K.idle 0))∧nv (ps'.getD i (K.idle 0))+(if 0<Q3d n (M'.fs.getD i Fr.zero)then 1 else 0)≤nv (ps.getD i (K.idle 0)))∨
  (Q3d n (M.fs.getD i Fr.zero)=0∧Q3d n (M'.fs.getD i Fr.zero)=0∧Q0j n M'.L=Q0j n M.L∧nw (ps'.getD i (K.idle 0))≤nw (ps.getD i (K.idle 0))∧nv (ps'.getD i (K.idle 0))≤nv (ps.getD i (K.idle 0))∧
   (∀j,j<n→j≠i→M'.L.getD (8+3*n+j) 0=M.L.getD (8+3*n+j) 0)∧
   (Q5G K cp (Q0j n M.L) M.mode i (M'.fs.getD i Fr.zero) (ps'.getD i (K.idle 0)) (M'.L.getD (8+3*n+i) 0)+1≤Q5G K cp (Q0j n M.L) M.mode i (M.fs.getD i Fr.zero) (ps.getD i (K.idle 0)) (M.L.getD (8+3*n+i) 0)∨
    (Q5G K cp (Q0j n M.L) M.mode i (M'.fs.getD i Fr.zero) (ps'.getD i (K.idle 0)) (M'.L.getD (8+3*n+i) 0)=0∧Q5G K cp (Q0j n M.L) M.mode i (M.fs.getD i Fr.zero) (ps.getD i (K.idle 0)) (M.L.getD (8+3*n+i) 0)=0)∨
    ∃j,j<n∧(M.fs.getD j Fr.zero).wk.on=true))
theorem Q3L{M:Mt}{ps:List P}{i:Nat}{f':Fr}{h':Int}{p':P}{L':List Int}(hf:i<M.fs.length)(hh:i<M.hold.length)(hp:i<ps.length):
 (∀j,j≠i→(M.put i f' h' L').fs.getD j Fr.zero=M.fs.getD j Fr.zero∧(M.put i f' h' L').hold.getD j 0=M.hold.getD j 0∧(ps.set i p').getD j (K.idle 0)=ps.getD j (K.idle 0))∧
 (M.put i f' h' L').fs.getD i Fr.zero=f'∧(M.put i f' h' L').hold.getD i 0=h'∧(ps.set i p').getD i (K.idle 0)=p':=by
 refine⟨fun j hj=>⟨Q2d (fun h=>hj h.symm),Q2d (fun h=>hj h.symm),Q2d (fun h=>hj h.symm)⟩,?_,?_,?_⟩
 ·show(M.fs.set i f').getD i Fr.zero=f'
  rw[Q2K hf,if_pos rfl]
 ·show(M.hold.set i h').getD i 0=h'
  rw[Q2K hh,if_pos rfl]
 ·rw[Q2K hp,if_pos rfl]
end
theorem set_self{α:Type}{l:List α}{i:Nat}{d v:α}(h:i<l.length)(e:l.getD i d=v):l.set i v=l:=by
 subst e
 simp[List.getD,h]
section
variable {P:Type}{K:Q3D P}{I:Nat→List P→(Nat→Int)→Prop}{n b:Nat}{M:Mt}{ps:List P}{N V C:Nat}{nw nv:P→Nat}{cp:(Nat→Int)→Nat→P→Nat}{i:Nat}{f:Fr}{h:Int}{p:P}
def Goes(K:Q3D P)(I:Nat→List P→(Nat→Int)→Prop)(n b:Nat)(nw nv:P→Nat)(cp:(Nat→Int)→Nat→P→Nat)(M:Mt)(ps:List P)(i:Nat)(f:Fr)(h:Int):Prop:=
 ∃ps',MI K I n b (M.goes K.g i f h) ps'∧Went K n nw nv cp M ps i (M.goes K.g i f h) ps'
theorem Y1t{f:Fr}(h:f.wk.on=false):Q3d n f=0:=by unfold Q3d;rw[h];rfl
theorem Q3u{f:Fr}(h:f.wk=Wk.zero):Q3d n f=0:=Y1t (by rw[h];rfl)
theorem Q5K{L:List Int}{n mode task st:Int}(h:Q1y mode st≠3):Q2R L n mode task st=false:=by
 unfold Q2R
 have:(Q1y mode st==3)=false:=by simpa using h
 rw[this]
 rfl
theorem MI.weaken(Kp:K.Q5D n I)(H:MI K I n (b+1) M ps):MI K I n b M ps:=⟨H.num,H.fsl,H.hol,H.psl,H.len,H.abs,Kp.weak _ _ _ H.inv,H.watch,H.woken⟩
theorem Y1w(G:K.Good n M.mode)(Kp:K.Q5D n I)(Lv:K.Live n I N V C nw nv cp)(h1:1≤n)(hm:M.mode=1∨M.mode=2)(H:MI K I n (b+1) M ps)(hi:i<n)
 (hf:M.fs.getD i Fr.zero=(K.conc p).1) (hh:M.hold.getD i 0=(K.conc p).2) (hp:ps.getD i (K.idle 0)=p) (hop:(K.conc p).1.op≠0) (hw:K.wait i p=none):Goes K I n b nw nv cp M ps i (K.conc p).1 (K.conc p).2:=by
 obtain⟨q1,q2,q3⟩:=G.plain p
 have hfl:=H.fsl
 have hhl:=H.hol
 have hpl:=H.psl
 have hok:=Kp.ok _ ps _ i H.inv hi hpl
 have hacts:=Kp.acts _ ps _ i H.inv hi hpl
 have hwks:=fun j c pr=>Kp.wakes _ ps _ i j c pr H.inv hi
 have hlw:=Lv.write (Q0j n M.L) i p
 have hlq:=Lv.quiet _ ps (Q0j n M.L) i p H.inv hpl hi hp
 rw[hp]at hok hacts hwks
 have A:=G.act p i (M.run i (K.conc p).1) hok hi hw hop H.num rfl rfl rfl H.len
 have hacts:=hacts hw hop
 rw[show(M.run i (K.conc p).1).L=M.L from rfl]at A
 have hstep:M.goes K.g i (K.conc p).1 (K.conc p).2=_:=Q5i (by rw[q2];rfl) (Q5K (by rw[q1,Q7k];decide))
 have hh2:(K.conc p).2≠2:=fun e=>hop (by rw[G.two p e,G.idle_conc];rfl)
 obtain⟨f',h',e1,e2,e3,e4⟩:=Q8X (t:=i) hm G h1 A.f A.st (show _=Q1f M.mode _ from A.wk) A.op hh2
 rw[X7J e1]at hstep
 unfold Goes
 rw[hstep,A.L]
 have hmw:=X1M H.len A.lt
 have hL:(M.run i (K.conc p).1).L=M.L:=rfl
 rw[hL]
 generalize hR:K.act i p (Q0j n M.L)=R at*
 obtain⟨p',w,k⟩:=R
 simp only at*
 refine⟨ps.set i p',MI.put H G hi (by rw[X0Q];exact H.len) e2 (by rw[hmw];exact hacts) (fun c pr _ hs=>by omega) (fun j hj _=>Q7C A.lt (by omega)) (fun c pr _ hs=>by omega) (fun j c pr hj hji hwt hs hpr=> ?_),?_⟩
 ·rw[hmw]at hpr
  rcases hwks j c pr hj (fun h=>hji h.symm) hpl hw hop hwt (by exact hpr)with hold|hwake
  ·rcases H.woken j c pr hj hwt hs hold with h3|⟨u,h3,h4,h5⟩
   ·exact Or.inl (by rw[Q7C A.lt (by omega)];exact h3)
   ·refine Or.inr (Or.inr ⟨u,h3,?_,h4,h5⟩)
    rintro rfl
    rw[hf,q2]at h4
    cases h4
  ·refine Or.inr (Or.inl ?_)
   have hm2:=(H.abs j hj).Y3h G (Or.inr hs)
   rw[e4,hwake]
   show(Q3e M.mode c).on=true∧(Q3e M.mode c).cell=c∧(Q3e M.mode c).i≤j
   unfold Q3e
   rw[if_pos hm2]
   exact⟨rfl,rfl,by simp⟩
 ·obtain⟨o1,o2,o3,o4⟩:=Q3L (K:=K) (f':=f') (h':=h') (p':=p') (L':=Q0e M.L w) (M:=M) (ps:=ps) (i:=i) (by omega) (by omega) (by omega)
  refine⟨⟨rfl,rfl⟩,o1,?_⟩
  rw[o2,o4,hf,hp]
  have hl0:Q3d n (K.conc p).1=0:=Q3u q2
  cases w with
  |some x=>
   right;left
   obtain⟨g1,g2⟩:=hlw x hw hop rfl
   refine⟨hl0,g1,?_⟩
   cases k with
   |none=>rw[Q3u (f:=f') (by rw[e4];rfl)];simpa using g2
   |some c=>
    simp only[Option.isSome_some,if_true]at g2
    split<;>omega
  |none=>
   right;right
   obtain⟨g1,g2,g3,g4⟩:=hlq hw hop rfl
   subst g1
   refine⟨hl0,Q3u (f:=f') (by rw[e4];rfl),rfl,g2,g3,fun j hj hji=>rfl,Or.inl ?_⟩
   have:=Q7o Lv (m:=Q0j n M.L) (mode:=M.mode) (t:=i) (f:=f') (p:=p') (q:=(M.put i f' h' (Q0e M.L none)).L.getD (8+3*n+i) 0) e3
   have hpp:Q5G K cp (Q0j n M.L) M.mode i (K.conc p).1 p (M.L.getD (8+3*n+i) 0)=cp (Q0j n M.L) i p:=by
    unfold Q5G
    rw[if_neg (by omega),hw]
   rw[hpp]
   omega
theorem look0{L:List Int}{mode task:Int}{c:Nat}{pr:Int→Bool}(hl:L.length=8+4*n)(hc:c<8+2*n):
 Q0t L n mode task 0 c pr=⟨if pr (Q0j n L c)then 0 else if mode=2 then 1 else 0,⟨1,c,0,0,Q0j n L c⟩,pr (Q0j n L c),pr (Q0j n L c),L⟩:=by
 have e:doA L ⟨1,(c:Int),0,0,0⟩=(⟨1,c,0,0,Q0j n L c⟩,true,L):=by
  rw[Q5y (by omega)]
  simp[Q0j,hc]
 unfold Q0t
 dsimp only
 rw[Q7k,e]
 simp
theorem look2{L:List Int}{task:Int}{c:Nat}{pr:Int→Bool}(hl:L.length=8+4*n)(hc:c<8+2*n):
 Q0t L n 2 task 2 c pr=⟨if pr (Q0j n L c)then 4 else 3,⟨1,c,0,0,Q0j n L c⟩,pr (Q0j n L c),false,L⟩:=by
 have e:doA L ⟨1,(c:Int),0,0,0⟩=(⟨1,c,0,0,Q0j n L c⟩,true,L):=by
  rw[Q5y (by omega)]
  simp[Q0j,hc]
 unfold Q0t
 dsimp only
 rw[Q4b rfl (by omega) (by omega),e]
 simp
theorem look1{L:List Int}{c:Nat}{pr:Int→Bool}(h1:1≤n)(h2:n≤64)(hi:i<n)(hl:L.length=8+4*n):
 ∃a,Q0t L n 2 i 1 c pr=⟨2,a,false,false,L.set (8+2*n+i) (((c:Int)+1)%4294967296)⟩:=by
 have e2:(cellP n 2 i).toNat=8+2*n+i:=by rw[Q1p (by omega) (by omega) (by omega) (by omega)];omega
 have b2:0≤cellP n 2 i∧cellP n 2 i<L.length:=by rw[Q1p (by omega) (by omega) (by omega) (by omega)];omega
 unfold Q0t
 dsimp only
 rw[Q4b rfl (by omega) (by omega),if_pos rfl,Q5y b2,e2]
 exact⟨_,rfl⟩
theorem look4{L:List Int}{c:Nat}{pr:Int→Bool}(h1:1≤n)(h2:n≤64)(hi:i<n)(hl:L.length=8+4*n):
 (Q0t L n 2 i 4 c pr).words=L.set (8+2*n+i) 0:=by
 have e2:(cellP n 2 i).toNat=8+2*n+i:=by rw[Q1p (by omega) (by omega) (by omega) (by omega)];omega
 have b2:0≤cellP n 2 i∧cellP n 2 i<L.length:=by rw[Q1p (by omega) (by omega) (by omega) (by omega)];omega
 unfold Q0t
 dsimp only
 rw[Q4b rfl (by omega) (by omega),if_neg (by decide),if_neg (by decide),if_neg (by decide),if_pos rfl,Q5y b2,e2]
 simp
theorem Q8j{L:List Int}(h1:1≤n)(h2:n≤64)(hi:i<n)(hl:L.length=8+4*n):Q6k L n i=(L.getD (8+3*n+i) 0 !=0):=by
 have e2:(cellP n 3 i).toNat=8+3*n+i:=by rw[Q1p (by omega) (by omega) (by omega) (by omega)];omega
 have b2:0≤cellP n 3 i∧cellP n 3 i<L.length:=by rw[Q1p (by omega) (by omega) (by omega) (by omega)];omega
 unfold Q6k ldA
 rw[if_pos b2,e2]
theorem look3{L:List Int}{c:Nat}{pr:Int→Bool}(h1:1≤n)(h2:n≤64)(hi:i<n)(hl:L.length=8+4*n)(hq:L.getD (8+3*n+i) 0≠0):
 ∃a,Q0t L n 2 i 3 c pr=⟨2,a,false,false,L.set (8+3*n+i) 0⟩:=by
 have e2:(cellP n 3 i).toNat=8+3*n+i:=by rw[Q1p (by omega) (by omega) (by omega) (by omega)];omega
 have b2:0≤cellP n 3 i∧cellP n 3 i<L.length:=by rw[Q1p (by omega) (by omega) (by omega) (by omega)];omega
 have ht:takeA L n i=(⟨4,cellP n 3 i,0,0,L.getD (8+3*n+i) 0⟩,true,L.set (8+3*n+i) 0):=by
  unfold takeA
  rw[Q8j h1 h2 hi hl,if_pos (by simpa using hq),Q5y b2,e2]
  simp
 unfold Q0t
 dsimp only
 rw[Q4b rfl (by omega) (by omega),if_neg (by decide),if_neg (by decide),if_pos rfl,ht]
 exact⟨_,rfl⟩
theorem X8S(G:K.Good n M.mode)(Kp:K.Q5D n I)(Lv:K.Live n I N V C nw nv cp)(h1:1≤n)(hm:M.mode=1∨M.mode=2)(H:MI K I n (b+1) M ps)(hi:i<n)
 (hf:M.fs.getD i Fr.zero=(K.conc p).1) (hh:M.hold.getD i 0=(K.conc p).2) (hp:ps.getD i (K.idle 0)=p) {c:Nat} {pr:Int→Bool} (hw:K.wait i p=some (c,pr)):Goes K I n b nw nv cp M ps i (K.conc p).1 (K.conc p).2:=by
 obtain⟨q1,q2,q3⟩:=G.plain p
 have hop:=G.wait_op i p c pr hw
 have hfl:=H.fsl
 have hhl:=H.hol
 have hpl:=H.psl
 have hok:=Kp.ok _ ps _ i H.inv hi hpl
 have hsees:=Kp.sees _ ps _ i c pr H.inv hi hpl
 rw[hp]at hok hsees
 have hsees:=hsees hw
 have hc:=G.wait_lt i p c pr hok hi hw
 have hfst:(M.run i (K.conc p).1).f={(K.conc p).1 with st:=0}:=by
  show(K.conc p).1=_
  rw[←q1]
 obtain⟨s1,s2,s3⟩:=G.wait_step p i c pr 0 (M.run i (K.conc p).1) hok hi hw (Int.le_refl _) (by omega) H.num rfl rfl hfst H.len
 rw[show(M.run i (K.conc p).1).L=M.L from rfl,look0 H.len hc]at s1 s2 s3
 simp only at s1 s2 s3
 have hstep:M.goes K.g i (K.conc p).1 (K.conc p).2=_:=Q5i (by rw[q2];rfl) (Q5K (by rw[q1,Q7k];decide))
 have hh2:(K.conc p).2≠2:=fun e=>hop (by rw[G.two p e,G.idle_conc];rfl)
 have hl0:Q3d n (K.conc p).1=0:=Q3u q2
 unfold Goes
 cases hpr:pr (Q0j n M.L c)with
 |true=>
  obtain⟨s4,s5,s6,s7⟩:=s2 hpr
  obtain⟨f',h',e1,e2,e3,e4⟩:=Q8X (t:=i) (w:=none) hm G h1 s4 s5 s6 s7 hh2
  rw[X7J e1]at hstep
  rw[hstep,s1]
  refine⟨ps.set i (K.post p (Q0j n M.L c)),MI.put H G hi H.len e2 (hsees hpr) (fun c pr _ hs=>by omega) (fun j hj _=>rfl) (fun c pr _ hs=>by omega) (MI.others H (by rw[hf,q2];rfl) rfl (fun _ _ _=>rfl) f'),?_⟩
  obtain⟨o1,o2,o3,o4⟩:=Q3L (K:=K) (f':=f') (h':=h') (p':=K.post p (Q0j n M.L c)) (L':=M.L) (M:=M) (ps:=ps) (i:=i) (by omega) (by omega) (by omega)
  refine⟨⟨rfl,rfl⟩,o1,Or.inr (Or.inr ?_)⟩
  rw[o2,o4,hf,hp]
  obtain⟨g1,g2⟩:=Lv.post_w i p c pr (Q0j n M.L c) hw
  refine⟨hl0,Q3u (f:=f') e4,rfl,g1,g2,fun j hj hji=>rfl,Or.inl ?_⟩
  have h5:=Q7o Lv (m:=Q0j n M.L) (mode:=M.mode) (t:=i) (f:=f') (p:=K.post p (Q0j n M.L c)) (q:=M.L.getD (8+3*n+i) 0) e3
  have h6:=Lv.wait_yes (Q0j n M.L) i p c pr hw hpr
  have hpp:Q5G K cp (Q0j n M.L) M.mode i (K.conc p).1 p (M.L.getD (8+3*n+i) 0)=cp (Q0j n M.L) i p:=by
   unfold Q5G
   rw[if_neg (by omega),hw]
   simp[hpr,q1]
  rw[hpp]
  exact Nat.le_trans (Nat.succ_le_succ h5) h6
 |false=>
  have s4:=s3 hpr
  rw[hpr]at s4
  simp only[Bool.false_eq_true,if_false]at s4
  have hnover:(K.g (M.run i (K.conc p).1)).over=false:=by
   unfold Rn.over
   rw[s4]
   simp[q3]
  rw[hnover]at hstep
  simp only[Bool.false_eq_true,if_false]at hstep
  rw[hstep,s1,s4]
  rcases hm with hm|hm
  ·rw[if_neg (by omega)]
   have e0:({(K.conc p).1 with st:=0}:Fr)=(K.conc p).1:=hfst.symm
   have e9:M.put i {(K.conc p).1 with st:=0} (K.conc p).2 M.L=M:=by
    rw[e0,←hf,←hh]
    exact X3E (by omega) (by omega)
   rw[e9]
   refine⟨ps,H.weaken Kp,⟨rfl,rfl⟩,fun j _=>⟨rfl,rfl,rfl⟩,Or.inr (Or.inr ?_)⟩
   rw[hf]
   refine⟨hl0,hl0,rfl,Nat.le_refl _,Nat.le_refl _,fun _ _ _=>rfl,Or.inr (Or.inl ?_)⟩
   have hpp:Q5G K cp (Q0j n M.L) M.mode i (K.conc p).1 (ps.getD i (K.idle 0)) (M.L.getD (8+3*n+i) 0)=0:=by
    unfold Q5G
    rw[hp,if_neg (by omega),hw]
    simp[hpr,hm]
   exact⟨hpp,hpp⟩
  ·rw[if_pos hm]
   refine⟨ps.set i p,MI.put H G hi H.len (Q5F.staged p c pr 1 hm hok hw (by simp)) (by rw[set_self (by omega) hp];exact Kp.weak _ _ _ H.inv) (fun c pr _ hs=>by simp at hs) (fun j hj _=>rfl) (fun c pr _ hs=>by simp at hs) (MI.others H (by rw[hf,q2];rfl) rfl (fun _ _ _=>rfl) _),?_⟩
   obtain⟨o1,o2,o3,o4⟩:=Q3L (K:=K) (f':={(K.conc p).1 with st:=1}) (h':=(K.conc p).2) (p':=p) (L':=M.L) (M:=M) (ps:=ps) (i:=i) (by omega) (by omega) (by omega)
   refine⟨⟨rfl,rfl⟩,o1,Or.inr (Or.inr ?_)⟩
   rw[o2,o4,hf,hp]
   refine⟨hl0,Q3u q2,rfl,Nat.le_refl _,Nat.le_refl _,fun _ _ _=>rfl,Or.inl ?_⟩
   show Q5G K cp (Q0j n M.L) M.mode i {(K.conc p).1 with st:=1} p (M.L.getD (8+3*n+i) 0)+1≤_
   unfold Q5G
   rw[hw]
   simp[hpr,hm,q1]
   omega
end
section
variable {P:Type}{K:Q3D P}{I:Nat→List P→(Nat→Int)→Prop}{n b:Nat}{M:Mt}{ps:List P}{N V C:Nat}{nw nv:P→Nat}{cp:(Nat→Int)→Nat→P→Nat}{i:Nat}{f:Fr}{h:Int}{p:P}
theorem X6x{L:List Int}{k:Wk}(h1:1≤n)(h2:n≤64)(hl:L.length=8+4*n)(hk:k.on=true)(h0:0≤k.i)(hi:k.i<n)(hc:0≤k.cell){k':Wk}{L':List Int}(e1:(Q4K L n k).1=k')(e2:(Q4K L n k).2.2=L'):
 (k'=Wk.zero∨(k'.on=true∧0≤k'.i∧k'.i<n∧0≤k'.cell))∧L'.length=8+4*n∧Q0j n L'=Q0j n L∧(∀j,j<n→L'.getD (8+2*n+j) 0=L.getD (8+2*n+j) 0)∧
 (∀j,j<n→L.getD (8+3*n+j) 0≠0→L'.getD (8+3*n+j) 0≠0)∧(∀f:Fr,Q3d n {f with wk:=k'}+1≤Q3d n {f with wk:=k})∧
 (∀j,j<n→k.i≤j→L.getD (8+2*n+j) 0=(k.cell+1)%4294967296→L'.getD (8+3*n+j) 0≠0∨(k'.on=true∧k'.cell=k.cell∧k'.i≤j)):=by
 rw[Y2X h1 h2 hl hk h0 hi]at e1 e2
 have hnx:Q4e n k=Wk.zero∨((Q4e n k).on=true∧0≤(Q4e n k).i∧(Q4e n k).i<n∧0≤(Q4e n k).cell):=by
  unfold Q4e
  split
  ·exact Or.inl rfl
  ·exact Or.inr ⟨hk,by simp;omega,by simp;omega,hc⟩
 have hpass: ∀j:Nat,j<n→k.i<j→(Q4e n k).on=true∧(Q4e n k).cell=k.cell∧(Q4e n k).i≤j:=by
  intro j hj hlt
  unfold Q4e
  rw[if_neg (by omega)]
  exact⟨hk,rfl,by simp;omega⟩
 by_cases hh:k.hit=true
 ·rw[if_pos hh]at e1 e2
  simp only at e1 e2
  subst e1 e2
  refine⟨hnx,by simpa using hl,Q7Y (by omega),fun j hj=>Q2d (by omega),fun j hj hne=> ?_,fun f=>X1N hk h0 hi,fun j hj hle hwt=> ?_⟩
  ·rw[Q7w];split;decide;exact hne
  ·by_cases e:k.i.toNat=j
   ·left;rw[Q7w,if_pos (by omega)];decide
   ·right;exact hpass j hj (by omega)
 ·rw[if_neg hh]at e1 e2
  simp only at e1 e2
  subst e2
  by_cases hm:L.getD (8+2*n+k.i.toNat) 0=(k.cell+1)%4294967296
  ·rw[if_pos hm]at e1
   subst e1
   refine⟨Or.inr ⟨rfl,h0,hi,hc⟩,hl,rfl,fun _ _=>rfl,fun _ _ h=>h,fun f=> ?_,fun j hj hle hwt=>Or.inr ⟨rfl,rfl,hle⟩⟩
   unfold Q3d
   simp[hk,hh]
   omega
  ·rw[if_neg hm]at e1
   subst e1
   refine⟨hnx,hl,rfl,fun _ _=>rfl,fun _ _ h=>h,fun f=>X1N hk h0 hi,fun j hj hle hwt=> ?_⟩
   by_cases e:k.i.toNat=j
   ·subst e;exact absurd hwt hm
   ·right;exact hpass j hj (by omega)
theorem Q6W{k:Wk}{f:Fr}(hk:k.on=true)(h0:0≤k.i)(hi:k.i<n)(e:f.wk=k):0<Q3d n f:=by
 unfold Q3d
 rw[e,if_pos hk]
 split<;>omega
theorem Q8J(G:K.Good n M.mode)(Kp:K.Q5D n I)(h1:1≤n)(h2:n≤64)(H:MI K I n (b+1) M ps)(hi:i<n)(hm:M.mode=2)
 (hf:M.fs.getD i Fr.zero=f) (hh:M.hold.getD i 0=h) (hp:ps.getD i (K.idle 0)=p) (hk:f.wk.on=true) (h0:0≤f.wk.i) (hlt:f.wk.i<n) (hc:0≤f.wk.cell) (hst:f.st=0)
 (hend:f.ret≠0→Q5F K n M.mode i Fr.zero (Q0c f.op f.ret h) p) (hmore: ∀k':Wk,(f.ret=0∧k'=Wk.zero)∨(k'.on=true∧0≤k'.i∧k'.i<n∧0≤k'.cell)→Q5F K n M.mode i {f with wk:=k'} h p):
 Goes K I n b nw nv cp M ps i f h:=by
 have hfl:=H.fsl
 have hhl:=H.hol
 have hpl:=H.psl
 have hnum:=H.num
 obtain⟨k',e1⟩: ∃k',(Q4K M.L n f.wk).1=k':=⟨_,rfl⟩
 obtain⟨L',e2⟩: ∃L',(Q4K M.L n f.wk).2.2=L':=⟨_,rfl⟩
 obtain⟨c1,c2,c3,c4,c5,c6,c7⟩:=X6x h1 h2 H.len hk h0 hlt hc e1 e2
 have hstep:=X8Q (g:=K.g) (M:=M) (i:=i) (f:=f) (h:=h) hk
 rw[hnum,e1,e2]at hstep
 have hps:ps.set i p=ps:=set_self (by omega) hp
 have main: ∀f' h',Q5F K n M.mode i f' h' p→f'.st=0→f'.wk=k'→MI K I n b (M.put i f' h' L') ps∧Went K n nw nv cp M ps i (M.put i f' h' L') ps:=by
  intro f' h' ha hs hw'
  constructor
  ·rw[←hps]
   refine MI.put H G hi c2 ha (by rw[hps,c3];exact Kp.weak _ _ _ H.inv) (fun c pr _ h=>by omega) (fun j hj _=>c4 j hj) (fun c pr _ h=>by omega) (fun j c pr hj hji hwt hs3 hpr=> ?_)
   rw[c3]at hpr
   rcases H.woken j c pr hj hwt hs3 hpr with h3|⟨u,h3,h4,h5,h6⟩
   ·exact Or.inl (c5 j hj h3)
   ·by_cases e:u=i
    ·subst e
     rw[hf]at h4 h5 h6
     have hwj:=H.watch j c pr hj hwt (Or.inr hs3)
     rw[hw']
     rcases c7 j hj h6 (by rw[h5];exact hwj)with h7|⟨h7,h8,h9⟩
     ·exact Or.inl h7
     ·exact Or.inr (Or.inl ⟨h7,by rw[h8,h5],h9⟩)
    ·exact Or.inr (Or.inr ⟨u,h3,e,h4,h5,h6⟩)
  ·obtain⟨o1,o2,o3,o4⟩:=Q3L (K:=K) (f':=f') (h':=h') (p':=p) (L':=L') (M:=M) (ps:=ps) (i:=i) (by omega) (by omega) (by omega)
   refine⟨⟨rfl,rfl⟩,fun j hj=>⟨(o1 j hj).1,(o1 j hj).2.1,rfl⟩,Or.inl ?_⟩
   rw[o2,hf]
   refine⟨Q6W hk h0 hlt rfl,?_,rfl,c3⟩
   have:=c6 f
   have e3:Q3d n f'=Q3d n {f with wk:=k'}:=by unfold Q3d;rw[hw']
   rw[e3]
   exact this
 unfold Goes
 rw[hstep]
 by_cases hb:f.ret≠0∧k'.on=false
 ·rw[if_pos hb]
  have hz:k'=Wk.zero:=by
   rcases c1 with h3|h3
   ·exact h3
   ·rw[hb.2]at h3;cases h3.1
  exact⟨ps,main _ _ (hend hb.1) rfl hz.symm⟩
 ·rw[if_neg hb]
  refine⟨ps,main _ _ (hmore k' ?_) hst rfl⟩
  rcases c1 with h3|h3
  ·left
   refine⟨?_,h3⟩
   rcases Decidable.em (f.ret=0)with h4|h4
   ·exact h4
   ·exact absurd ⟨h4,by rw[h3];rfl⟩ hb
  ·exact Or.inr h3
theorem X2H(G:K.Good n M.mode)(Kp:K.Q5D n I)(Lv:K.Live n I N V C nw nv cp)(h1:1≤n)(h2:n≤64)(H:MI K I n (b+1) M ps)(hi:i<n){c:Nat}{pr:Int→Bool}{st:Int}(hm:M.mode=2)(hok:K.ok p)(hw:K.wait i p=some (c,pr))(hst:st=1∨st=2∨st=3)
 (hf:M.fs.getD i Fr.zero={(K.conc p).1 with st:=st}) (hh:M.hold.getD i 0=(K.conc p).2) (hp:ps.getD i (K.idle 0)=p):Goes K I n b nw nv cp M ps i {(K.conc p).1 with st:=st} (K.conc p).2:=by
 obtain⟨q1,q2,q3⟩:=G.plain p
 have hop:=G.wait_op i p c pr hw
 have hfl:=H.fsl
 have hhl:=H.hol
 have hpl:=H.psl
 have hsees:=Kp.sees _ ps _ i c pr H.inv hi hpl
 rw[hp]at hsees
 have hsees:=hsees hw
 have hc:=G.wait_lt i p c pr hok hi hw
 obtain⟨s1,s2,s3⟩:=G.wait_step p i c pr st (M.run i {(K.conc p).1 with st:=st}) hok hi hw (by omega) (by omega) H.num rfl rfl rfl H.len
 rw[show(M.run i {(K.conc p).1 with st:=st}).L=M.L from rfl]at s1 s2 s3
 have hl0: ∀s:Int,Q3d n {(K.conc p).1 with st:=s}=0:=fun s=>Q3u q2
 have hps:ps.set i p=ps:=set_self (by omega) hp
 have hoff:(M.fs.getD i Fr.zero).wk.on=false:=by rw[hf];show(K.conc p).1.wk.on=false;rw[q2];rfl
 have hinv:I b (ps.set i p) (Q0j n M.L):=by rw[hps];exact Kp.weak _ _ _ H.inv
 have hno: ∀s':Rn,s'.f.ret=0→s'.over=false:=fun s' e=>by unfold Rn.over;rw[e];rfl
 unfold Goes
 rw[hm]at s1 s2 s3
 rcases hst with rfl|rfl|rfl
 ·
  obtain⟨a,ha⟩:=look1 (c:=c) (pr:=pr) h1 h2 hi H.len
  rw[ha]at s1 s3
  have s4:=s3 rfl
  simp only[Bool.false_eq_true,if_false]at s1 s4
  have hstep:M.goes K.g i {(K.conc p).1 with st:=1} (K.conc p).2=_:=Q5i (by show(K.conc p).1.wk.on=false;rw[q2];rfl) (Q5K (by show Q1y M.mode 1≠3;rw[Q4b hm (by omega) (by omega)];decide))
  rw[hno _ (by rw[s4];exact q3)]at hstep
  simp only[Bool.false_eq_true,if_false]at hstep
  rw[hstep,s1,s4]
  have hmf:Q0j n (M.L.set (8+2*n+i) (((c:Int)+1)%4294967296))=Q0j n M.L:=Q7Y (by omega)
  refine⟨ps.set i p,MI.put H G hi (by simpa using H.len) (Q5F.staged p c pr 2 hm hok hw (by simp)) (by rw[hmf];exact hinv) (fun c2 pr2 hw2 _=> ?_) (fun j hj hji=>Q2d (by omega)) (fun c pr _ hs=>by simp at hs) (MI.others H hoff hmf (fun j hj hji=>Q2d (by omega)) _),?_⟩
  ·rw[hw]at hw2
   obtain⟨rfl,rfl⟩:=Prod.mk.inj (Option.some.inj hw2)
   have:=H.len
   rw[Q7w,if_pos ⟨rfl,by omega⟩]
  ·obtain⟨o1,o2,o3,o4⟩:=Q3L (K:=K) (f':={(K.conc p).1 with st:=2}) (h':=(K.conc p).2) (p':=p) (L':=M.L.set (8+2*n+i) (((c:Int)+1)%4294967296)) (M:=M) (ps:=ps) (i:=i) (by omega) (by omega) (by omega)
   refine⟨⟨rfl,rfl⟩,o1,Or.inr (Or.inr ?_)⟩
   rw[o2,o4,hf,hp]
   refine⟨hl0 1,hl0 2,hmf,Nat.le_refl _,Nat.le_refl _,fun j hj hji=>Q2d (by omega),Or.inl ?_⟩
   show Q5G K cp (Q0j n M.L) M.mode i {(K.conc p).1 with st:=2} p ((M.L.set (8+2*n+i) (((c:Int)+1)%4294967296)).getD (8+3*n+i) 0)+1≤_
   rw[Q2d (by omega)]
   unfold Q5G
   rw[hw]
   cases hpr:pr (Q0j n M.L c)<;>simp[hpr,hm]<;>omega
 ·
  rw[look2 H.len hc]at s1 s3
  simp only at s1 s3
  have s4:=s3 trivial
  have hstep:M.goes K.g i {(K.conc p).1 with st:=2} (K.conc p).2=_:=Q5i (by show(K.conc p).1.wk.on=false;rw[q2];rfl) (Q5K (by show Q1y M.mode 2≠3;rw[Q4b hm (by omega) (by omega)];decide))
  cases hpr:pr (Q0j n M.L c)with
  |true=>
   rw[hpr]at s4
   simp only[if_true]at s4
   rw[hno _ (by rw[s4];exact q3)]at hstep
   simp only[Bool.false_eq_true,if_false]at hstep
   rw[hstep,s1,s4]
   refine⟨ps.set i (K.post p (Q0j n M.L c)),MI.put H G hi H.len (Q5F.seen p c pr (Q0j n M.L c) hm hok hw hpr) (hsees hpr) (fun c pr _ hs=>by simp at hs) (fun j hj _=>rfl) (fun c pr _ hs=>by simp at hs) (MI.others H hoff rfl (fun _ _ _=>rfl) _),?_⟩
   obtain⟨o1,o2,o3,o4⟩:=Q3L (K:=K) (f':={(K.conc p).1 with a:=K.keep p (Q0j n M.L c),st:=4}) (h':=(K.conc p).2) (p':=K.post p (Q0j n M.L c)) (L':=M.L) (M:=M) (ps:=ps) (i:=i) (by omega) (by omega) (by omega)
   refine⟨⟨rfl,rfl⟩,o1,Or.inr (Or.inr ?_)⟩
   rw[o2,o4,hf,hp]
   obtain⟨g1,g2⟩:=Lv.post_w i p c pr (Q0j n M.L c) hw
   refine⟨hl0 2,Q3u q2,rfl,g1,g2,fun _ _ _=>rfl,Or.inl ?_⟩
   have h6:=Lv.wait_yes (Q0j n M.L) i p c pr hw hpr
   unfold Q5G
   rw[hw]
   simp only[if_true,hpr]
   simp
   omega
  |false=>
   rw[hpr]at s4
   simp only[Bool.false_eq_true,if_false]at s4
   rw[hno _ (by rw[s4];exact q3)]at hstep
   simp only[Bool.false_eq_true,if_false]at hstep
   rw[hstep,s1,s4]
   refine⟨ps.set i p,MI.put H G hi H.len (Q5F.staged p c pr 3 hm hok hw (by simp)) hinv (fun c2 pr2 hw2 _=> ?_) (fun j hj _=>rfl) (fun c2 pr2 hw2 _=> ?_) (MI.others H hoff rfl (fun _ _ _=>rfl) _),?_⟩
   ·rw[←hp]at hw2
    exact H.watch i c2 pr2 hi hw2 (by rw[hf];simp)
   ·rw[hw]at hw2
    obtain⟨rfl,rfl⟩:=Prod.mk.inj (Option.some.inj hw2)
    exact hpr
   ·obtain⟨o1,o2,o3,o4⟩:=Q3L (K:=K) (f':={(K.conc p).1 with st:=3}) (h':=(K.conc p).2) (p':=p) (L':=M.L) (M:=M) (ps:=ps) (i:=i) (by omega) (by omega) (by omega)
    refine⟨⟨rfl,rfl⟩,o1,Or.inr (Or.inr ?_)⟩
    rw[o2,o4,hf,hp]
    refine⟨hl0 2,hl0 3,rfl,Nat.le_refl _,Nat.le_refl _,fun _ _ _=>rfl,Or.inl ?_⟩
    show Q5G K cp (Q0j n M.L) M.mode i {(K.conc p).1 with st:=3} p (M.L.getD (8+3*n+i) 0)+1≤_
    unfold Q5G
    rw[hw]
    simp[hpr,hm]
    omega
 ·
  by_cases hq:M.L.getD (8+3*n+i) 0=0
  ·have hstep:M.goes K.g i {(K.conc p).1 with st:=3} (K.conc p).2=_:=X5A (by show(K.conc p).1.wk.on=false;rw[q2];rfl) (by
    show Q2R M.L M.n M.mode i 3=true
    unfold Q2R
    rw[Q4b hm (by omega) (by omega),H.num,Q8j h1 h2 hi H.len,hq]
    rfl)
   have hsame:M.put i {(K.conc p).1 with st:=3} (K.conc p).2 M.L=M:=by
    rw[←hf,←hh]
    exact X3E (by omega) (by omega)
   rw[hstep,hsame]
   refine⟨ps,H.weaken Kp,⟨rfl,rfl⟩,fun j _=>⟨rfl,rfl,rfl⟩,Or.inr (Or.inr ?_)⟩
   rw[hf]
   refine⟨hl0 3,hl0 3,rfl,Nat.le_refl _,Nat.le_refl _,fun _ _ _=>rfl,Or.inr ?_⟩
   cases hpr:pr (Q0j n M.L c)with
   |false=>
    left
    have hpp:Q5G K cp (Q0j n M.L) M.mode i {(K.conc p).1 with st:=3} (ps.getD i (K.idle 0)) (M.L.getD (8+3*n+i) 0)=0:=by
     unfold Q5G
     rw[hp,hw,hq]
     simp[hpr,hm]
    exact⟨hpp,hpp⟩
   |true=>
    right
    rcases H.woken i c pr hi (by rw[hp];exact hw) (by rw[hf]) hpr with h3|⟨u,h3,h4,h5⟩
    ·exact absurd hq h3
    ·exact⟨u,h3,h4⟩
  ·obtain⟨a,ha⟩:=look3 (c:=c) (pr:=pr) h1 h2 hi H.len hq
   rw[ha]at s1 s3
   have s4:=s3 rfl
   simp only[Bool.false_eq_true,if_false]at s1 s4
   have hstep:M.goes K.g i {(K.conc p).1 with st:=3} (K.conc p).2=_:=Q5i (by show(K.conc p).1.wk.on=false;rw[q2];rfl) (by
    show Q2R M.L M.n M.mode i 3=false
    unfold Q2R
    rw[H.num,Q8j h1 h2 hi H.len]
    have:(M.L.getD (8+3*n+i) 0 !=0)=true:=by simpa using hq
    rw[this]
    simp)
   rw[hno _ (by rw[s4];exact q3)]at hstep
   simp only[Bool.false_eq_true,if_false]at hstep
   rw[hstep,s1,s4]
   have hmf:Q0j n (M.L.set (8+3*n+i) 0)=Q0j n M.L:=Q7Y (by omega)
   have hlen:=H.len
   refine⟨ps.set i p,MI.put H G hi (by simpa using H.len) (Q5F.staged p c pr 2 hm hok hw (by simp)) (by rw[hmf];exact hinv) (fun c2 pr2 hw2 _=> ?_) (fun j hj hji=>Q2d (by omega)) (fun c pr _ hs=>by simp at hs) (MI.others H hoff hmf (fun j hj hji=>Q2d (by omega)) _),?_⟩
   ·rw[←hp]at hw2
    rw[Q2d (by omega)]
    exact H.watch i c2 pr2 hi hw2 (by rw[hf];simp)
   ·obtain⟨o1,o2,o3,o4⟩:=Q3L (K:=K) (f':={(K.conc p).1 with st:=2}) (h':=(K.conc p).2) (p':=p) (L':=M.L.set (8+3*n+i) 0) (M:=M) (ps:=ps) (i:=i) (by omega) (by omega) (by omega)
    refine⟨⟨rfl,rfl⟩,o1,Or.inr (Or.inr ?_)⟩
    rw[o2,o4,hf,hp]
    refine⟨hl0 3,hl0 2,hmf,Nat.le_refl _,Nat.le_refl _,fun j hj hji=>Q2d (by omega),Or.inl ?_⟩
    show Q5G K cp (Q0j n M.L) M.mode i {(K.conc p).1 with st:=2} p ((M.L.set (8+3*n+i) 0).getD (8+3*n+i) 0)+1≤_
    rw[Q7w,if_pos ⟨rfl,by omega⟩]
    unfold Q5G
    rw[hw]
    cases hpr:pr (Q0j n M.L c)with
    |true=>simp[hpr,hm];omega
    |false=>
     have hq2: ¬M.L[8+3*n+i]?.getD 0=0:=by rw[←List.getD_eq_getElem?_getD];exact hq
     simp[hpr,hm,hq2]
theorem X8R(G:K.Good n M.mode)(Kp:K.Q5D n I)(Lv:K.Live n I N V C nw nv cp)(h1:1≤n)(h2:n≤64)(H:MI K I n (b+1) M ps)(hi:i<n){q:P}{c:Nat}{pr:Int→Bool}{v:Int}(hm:M.mode=2)(hok:K.ok q)(hw:K.wait i q=some (c,pr))(hpr:pr v=true)
 (hf:M.fs.getD i Fr.zero={(K.conc q).1 with a:=K.keep q v,st:=4}) (hh:M.hold.getD i 0=(K.conc q).2) (hp:ps.getD i (K.idle 0)=K.post q v):Goes K I n b nw nv cp M ps i {(K.conc q).1 with a:=K.keep q v,st:=4} (K.conc q).2:=by
 obtain⟨q1,q2,q3⟩:=G.plain q
 have hop:=G.wait_op i q c pr hw
 have hfl:=H.fsl
 have hhl:=H.hol
 have hpl:=H.psl
 have hh2:(K.conc q).2≠2:=fun e=>hop (by rw[G.two q e,G.idle_conc];rfl)
 obtain⟨s1,s2,s3,s4,s5⟩:=G.wait_last q i c pr v (M.run i {(K.conc q).1 with a:=K.keep q v,st:=4}) hok hi hm hw hpr H.num rfl rfl rfl H.len
 rw[show(M.run i {(K.conc q).1 with a:=K.keep q v,st:=4}).L=M.L from rfl,hm,look4 h1 h2 hi H.len]at s1
 have hoff:(M.fs.getD i Fr.zero).wk.on=false:=by rw[hf];show(K.conc q).1.wk.on=false;rw[q2];rfl
 have hstep:M.goes K.g i {(K.conc q).1 with a:=K.keep q v,st:=4} (K.conc q).2=_:=Q5i (by show(K.conc q).1.wk.on=false;rw[q2];rfl) (Q5K (by show Q1y M.mode 4≠3;rw[Q4b hm (by omega) (by omega)];decide))
 obtain⟨f',h',e1,e2,e3,e4⟩:=Q8X (t:=i) (w:=none) (Or.inr hm) G h1 s2 s3 s4 s5 hh2
 rw[X7J e1]at hstep
 unfold Goes
 rw[hstep,s1]
 have hmf:Q0j n (M.L.set (8+2*n+i) 0)=Q0j n M.L:=Q7Y (by omega)
 have hps:ps.set i (K.post q v)=ps:=set_self (by omega) hp
 refine⟨ps.set i (K.post q v),MI.put H G hi (by simpa using H.len) e2 (by rw[hmf,hps];exact Kp.weak _ _ _ H.inv) (fun c pr _ hs=>by omega) (fun j hj hji=>Q2d (by omega)) (fun c pr _ hs=>by omega) (MI.others H hoff hmf (fun j hj hji=>Q2d (by omega)) f'),?_⟩
 obtain⟨o1,o2,o3,o4⟩:=Q3L (K:=K) (f':=f') (h':=h') (p':=K.post q v) (L':=M.L.set (8+2*n+i) 0) (M:=M) (ps:=ps) (i:=i) (by omega) (by omega) (by omega)
 refine⟨⟨rfl,rfl⟩,o1,Or.inr (Or.inr ?_)⟩
 rw[o2,o4,hf,hp]
 refine⟨Q3u q2,Q3u e4,hmf,Nat.le_refl _,Nat.le_refl _,fun j hj hji=>Q2d (by omega),Or.inl ?_⟩
 have h5:=Q7o Lv (m:=Q0j n M.L) (mode:=M.mode) (t:=i) (f:=f') (p:=K.post q v) (q:=(M.L.set (8+2*n+i) 0).getD (8+3*n+i) 0) e3
 have h6:Q5G K cp (Q0j n M.L) M.mode i {(K.conc q).1 with a:=K.keep q v,st:=4} (K.post q v) (M.L.getD (8+3*n+i) 0)=1+cp (Q0j n M.L) i (K.post q v):=by
  unfold Q5G
  rw[if_pos rfl]
 rw[h6]
 exact Nat.le_trans (Nat.succ_le_succ h5) (by omega)
theorem Q7Z(G:K.Good n M.mode)(Kp:K.Q5D n I)(Lv:K.Live n I N V C nw nv cp)(h1:1≤n)(h2:n≤64)(hm:M.mode=1∨M.mode=2)(H:MI K I n (b+1) M ps)(hi:i<n)(hop:(M.fs.getD i Fr.zero).op≠0):
 Goes K I n b nw nv cp M ps i (M.fs.getD i Fr.zero) (M.hold.getD i 0):=by
 have ha:=H.abs i hi
 obtain⟨f,hf⟩: ∃f,M.fs.getD i Fr.zero=f:=⟨_,rfl⟩
 obtain⟨h,hh⟩: ∃h,M.hold.getD i 0=h:=⟨_,rfl⟩
 obtain⟨p,hp⟩: ∃p,ps.getD i (K.idle 0)=p:=⟨_,rfl⟩
 rw[hf]at hop
 rw[hf,hh]
 rw[hf,hh,hp]at ha
 cases ha with
 |plain=>
  cases hw:K.wait i p with
  |none=>exact Y1w G Kp Lv h1 hm H hi hf hh hp hop hw
  |some x=>obtain⟨c,pr⟩:=x;exact X8S G Kp Lv h1 hm H hi hf hh hp hw
 |waking _ k hm2 hk h0 hlt hc hop2=>
  obtain⟨q1,q2,q3⟩:=G.plain p
  refine Q8J G Kp h1 h2 H hi hm2 hf hh hp hk h0 hlt hc q1 (fun hr=>absurd q3 hr) (fun k' hk'=> ?_)
  rcases hk' with⟨_,rfl⟩|⟨g1,g2,g3,g4⟩
  ·have e:({{(K.conc p).1 with wk:=k}with wk:=Wk.zero}:Fr)=(K.conc p).1:=by
    show({(K.conc p).1 with wk:=Wk.zero}:Fr)=_
    rw[←q2]
   rw[e]
   exact Q5F.plain p
  ·exact Q5F.waking p k' hm2 g1 g2 g3 g4 hop2
 |staged _ c pr st hm2 hok hw hst=>exact X2H G Kp Lv h1 h2 H hi hm2 hok hw hst hf hh hp
 |seen q c pr v hm2 hok hw hpr=>exact X8R G Kp Lv h1 h2 H hi hm2 hok hw hpr hf hh hp
 |over _ _ hm2 hk h0 hlt hc hop2 hr hst hh2=>
  refine Q8J G Kp h1 h2 H hi hm2 hf hh hp hk h0 hlt hc hst (fun _=> ?_) (fun k' hk'=> ?_)
  ·have:=Q5F.plain (K:=K) (n:=n) (mode:=M.mode) (t:=i) (K.idle (Q0c f.op f.ret h))
   rw[G.idle_conc]at this
   exact this
  ·rcases hk' with⟨h3,_⟩|⟨g1,g2,g3,g4⟩
   ·exact absurd h3 hr
   ·exact Q5F.over {f with wk:=k'} h hm2 g1 g2 g3 g4 hop2 hr hst hh2
end
def sm:Nat→(Nat→Nat)→Nat
 |0,_=>0
 |n+1,f=>sm n f+f n
section
variable {P:Type}{K:Q3D P}{I:Nat→List P→(Nat→Int)→Prop}{n b:Nat}{M:Mt}{ps:List P}{N V C:Nat}{nw nv:P→Nat}{cp:(Nat→Int)→Nat→P→Nat}{i:Nat}{f:Fr}{h:Int}{p:P}
theorem X4a{g:Rn→Rn}{M:Mt}{i:Nat}{f f0:Fr}{h h0:Int}:(M.put i f0 h0 M.L).goes g i f h=M.goes g i f h:=by
 unfold Mt.goes
 simp only[X2n]
 rfl
theorem Q5F.idle(G:K.Good n M.mode){t:Nat}(H:Q5F K n M.mode t f h p)(hop:f.op=0):f=Fr.zero∧p=K.idle h:=by
 cases H with
 |plain=>
  have e:=G.idle_only p hop
  refine⟨?_,e⟩
  rw[e,G.idle_conc]
 |waking _ k _ _ _ _ _ h9=>exact absurd hop h9
 |staged _ c pr st _ _ hw _=>exact absurd hop (G.wait_op t p c pr hw)
 |seen q c pr v _ _ hw _=>exact absurd hop (G.wait_op t q c pr hw)
 |over _ _ _ _ _ _ _ h9=>exact absurd hop h9
theorem Q5F.holds(G:K.Good n M.mode){t:Nat}(H:Q5F K n M.mode t f h p):(h≠0→(K.conc p).2≠0)∧(h=2→p=K.idle 2):=by
 cases H with
 |plain=>exact⟨fun h=>h,fun h=>G.two p h⟩
 |waking _ k _ _ _ _ _ h9=>exact⟨fun h=>h,fun h=>G.two p h⟩
 |staged _ c pr st _ _ hw _=>exact⟨fun h=>h,fun h=>G.two p h⟩
 |seen q c pr v _ _ hw _=>
  refine⟨fun h=>G.post_hold t q c pr v hw h,fun h=> ?_⟩
  have:=G.two q h
  have h9:=G.wait_op t q c pr hw
  rw[this,G.idle_conc]at h9
  exact absurd rfl h9
 |over _ _ _ _ _ _ _ h9 h8 h7 h6=>
  refine⟨fun hh=> ?_,fun hh=>absurd hh h6⟩
  rw[G.idle_conc]
  show Q0c f.op f.ret h≠0
  unfold Q0c
  repeat' split
  all_goals first|exact hh|decide
theorem MI.begins(G:K.Good n M.mode)(Kp:K.Q5D n I)(H:MI K I n (b+1) M ps)(hi:i<n)(hop:(M.fs.getD i Fr.zero).op=0){op:Int}(hmay:Q6T op (M.hold.getD i 0)=true):
 MI K I n b (M.put i (Q4h op) (Q0w op (M.hold.getD i 0)) M.L) (ps.set i (K.start op (M.hold.getD i 0))):=by
 obtain⟨e1,e2⟩:=(H.abs i hi).idle G hop
 have hb:=Kp.begins _ ps _ i op (M.hold.getD i 0) H.inv hi H.psl e2 hmay
 have ha:=Q5F.plain (K:=K) (n:=n) (mode:=M.mode) (t:=i) (K.start op (M.hold.getD i 0))
 rw[G.start_conc op _ hmay]at ha
 exact MI.put H G hi H.len ha hb (fun c pr _ hs=>by simp[Q4h]at hs) (fun _ _ _=>rfl) (fun c pr _ hs=>by simp[Q4h]at hs) (MI.others H (by rw[e1];rfl) rfl (fun _ _ _=>rfl) _)
theorem Q9J(G:K.Good n M.mode)(Kp:K.Q5D n I)(Lv:K.Live n I N V C nw nv cp)(h1:1≤n)(h2:n≤64)(hm:M.mode=1∨M.mode=2)(H:MI K I n (b+2) M ps)(hi:i<n)(op:Int):
 ∃ps',MI K I n b (M.Q5A K.g i op) ps':=by
 unfold Mt.Q5A
 by_cases hop:(M.fs.getD i Fr.zero).op=0
 ·rw[if_pos hop]
  by_cases hmay:Q6T op (M.hold.getD i 0)=true
  ·rw[if_pos hmay,←X4a (f0:=Q4h op) (h0:=Q0w op (M.hold.getD i 0))]
   have H0:=H.begins G Kp hi hop hmay
   have hne:op≠0:=by
    rintro rfl
    unfold Q6T at hmay
    repeat' split at hmay
    all_goals simp at hmay
   obtain⟨o1,o2,o3,o4⟩:=Q3L (K:=K) (f':=Q4h op) (h':=Q0w op (M.hold.getD i 0)) (p':=K.start op (M.hold.getD i 0)) (L':=M.L) (M:=M) (ps:=ps) (i:=i) (by have:=H.fsl;omega) (by have:=H.hol;omega) (by have:=H.psl;omega)
   obtain⟨ps',h3,_⟩:=Q7Z (M:=M.put i (Q4h op) (Q0w op (M.hold.getD i 0)) M.L) G Kp Lv h1 h2 hm H0 hi (by rw[o2];exact hne)
   rw[o2,o3]at h3
   exact⟨ps',h3⟩
  ·rw[if_neg hmay]
   exact⟨ps,(H.weaken Kp).weaken Kp⟩
 ·rw[if_neg hop]
  obtain⟨ps',h3,_⟩:=Q7Z G Kp Lv h1 h2 hm (H.weaken Kp) hi hop
  exact⟨ps',h3⟩
end
structure Q3D.All{P:Type}(K:Q3D P)(n:Nat)(mode:Int)(I:Nat→List P→(Nat→Int)→Prop)(N V C:Nat)(nw nv:P→Nat)(cp:(Nat→Int)→Nat→P→Nat):Prop where
 good:K.Good n mode
 keeps:K.Q5D n I
 live:K.Live n I N V C nw nv cp
 holds: ∀b ps m i h,I b ps m→i<n→ps.length=n→ps.getD i (K.idle 0)=K.idle h→h=0∨h=1∨h=2
 excl: ∀b ps m i j,I b ps m→ps.length=n→i<n→j<n→j≠i→ps.getD i (K.idle 0)=K.idle 2→(K.conc (ps.getD j (K.idle 0))).2=0
 still: ∀t h,K.wait t (K.idle h)=none
section
variable {P:Type}{K:Q3D P}{I:Nat→List P→(Nat→Int)→Prop}{n b:Nat}{mode:Int}{M:Mt}{ps:List P}{N V C:Nat}{nw nv:P→Nat}{cp:(Nat→Int)→Nat→P→Nat}{i:Nat}{f:Fr}{h:Int}{p:P}
theorem X7c(G:K.Good n mode)(still: ∀t h,K.wait t (K.idle h)=none)(L:List Int)(hL:L.length=8+4*n)(hI:I b (List.replicate n (K.idle 0)) (Q0j n L)):MI K I n b (Mt.start n mode L) (List.replicate n (K.idle 0)):=by
 have hr: ∀j,(List.replicate n (K.idle 0)).getD j (K.idle 0)=K.idle 0:=fun j=>by
  rw[List.getD_eq_getElem?_getD,List.getElem?_replicate];split<;>rfl
 have hf: ∀j,(List.replicate n Fr.zero).getD j Fr.zero=Fr.zero:=fun j=>by
  rw[List.getD_eq_getElem?_getD,List.getElem?_replicate];split<;>rfl
 have hh: ∀j,(List.replicate n (0:Int)).getD j 0=0:=fun j=>by
  rw[List.getD_eq_getElem?_getD,List.getElem?_replicate];split<;>rfl
 refine⟨rfl,by simp[Mt.start],by simp[Mt.start],by simp,hL,fun i hi=> ?_,hI,fun i c pr hi hw _=> ?_,fun i c pr hi hw _ _=> ?_⟩
 ·show Q5F K n mode i ((List.replicate n Fr.zero).getD i Fr.zero) ((List.replicate n (0:Int)).getD i 0) _
  rw[hr,hf,hh]
  have:=Q5F.plain (K:=K) (n:=n) (mode:=mode) (t:=i) (K.idle 0)
  rw[G.idle_conc]at this
  exact this
 ·rw[hr,still]at hw
  cases hw
 ·rw[hr,still]at hw
  cases hw
end
end Go.Proofs.YthnimpkoidablaaGreat.Z
