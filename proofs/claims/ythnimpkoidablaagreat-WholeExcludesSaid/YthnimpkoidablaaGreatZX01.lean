import Derived.Test.YthnimpkoidablaaGreatZX00
import Derived.Test.YthnimpkoidablaaGreatZB01
set_option linter.unusedVariables false
set_option linter.unusedSimpArgs false
namespace Go.Proofs.YthnimpkoidablaaGreat.Z
open Go.RowKit
section
theorem Y1q{n:Nat}{L:List Int}{c:Nat}{v:Int}(hl:L.length=8+4*n)(hc:c<8+2*n):Q0j n (L.set c v)=upd (Q0j n L) c v:=by
 funext j
 unfold Q0j upd
 rw[Q7w]
 by_cases h:j=c
 ·subst h
  rw[if_pos hc,if_pos ⟨rfl,by omega⟩,if_pos rfl]
 ·rw[if_neg (fun h2:c=j∧c<L.length=>h h2.1.symm),if_neg h]
theorem X1M{n:Nat}{L:List Int}(hl:L.length=8+4*n){w:Option (Nat×Int)}(hc: ∀c v,w=some (c,v)→c<8+2*n):Q0j n (Q0e L w)=written (Q0j n L) w:=by
 cases w with
 |none=>rfl
 |some x=>obtain⟨c,v⟩:=x;exact Y1q hl (hc c v rfl)
theorem X0Q(L:List Int)(w:Option (Nat×Int)):(Q0e L w).length=L.length:=by
 cases w with
 |none=>rfl
 |some x=>obtain⟨c,v⟩:=x;simp[Q0e]
theorem Q7C{n j:Nat}{L:List Int}{w:Option (Nat×Int)}(hc: ∀c v,w=some (c,v)→c<8+2*n)(hj:8+2*n≤j):(Q0e L w).getD j 0=L.getD j 0:=by
 cases w with
 |none=>rfl
 |some x=>
  obtain⟨c,v⟩:=x
  have:=hc c v rfl
  exact Q2d (by omega)
variable {P:Type}
end
section
variable {P:Type}{K:Q3D P}{I:Nat→List P→(Nat→Int)→Prop}{n b:Nat}{M:Mt}{ps:List P}
theorem Q5F.Y3h{mode:Int}{t:Nat}{f:Fr}{h:Int}{p:P}(G:K.Good n mode)(H:Q5F K n mode t f h p):(f.st=2∨f.st=3)→mode=2:=by
 intro hs
 cases H<;>first|assumption|(have:=(G.plain p).1;omega)
structure Q3D.Live(K:Q3D P)(n:Nat)(I:Nat→List P→(Nat→Int)→Prop)(N V C:Nat)(nw nv:P→Nat)(cp:(Nat→Int)→Nat→P→Nat):Prop where
 nwle: ∀p,nw p≤N
 nvle: ∀p,nv p≤V
 five:5≤C
 cple: ∀m t p,cp m t p+1≤C∧(K.wait t p≠none→cp m t p+2≤C)
 wait_yes: ∀m t p c pr,K.wait t p=some (c,pr)→pr (m c)=true→cp m t (K.post p (m c))+1≤cp m t p
 wait_no: ∀m t p c pr,K.wait t p=some (c,pr)→pr (m c)=false→5≤cp m t p
 post_w: ∀t p c pr v,K.wait t p=some (c,pr)→nw (K.post p v)≤nw p∧nv (K.post p v)≤nv p
 write: ∀m t p w,K.wait t p=none→(K.conc p).1.op≠0→(K.act t p m).2.1=some w→nw (K.act t p m).1+1≤nw p∧nv (K.act t p m).1+(if(K.act t p m).2.2.isSome then 1 else 0)≤nv p
 quiet: ∀b ps m t p,I b ps m→ps.length=n→t<n→ps.getD t (K.idle 0)=p→K.wait t p=none→(K.conc p).1.op≠0→(K.act t p m).2.1=none→(K.act t p m).2.2=none∧nw (K.act t p m).1≤nw p∧nv (K.act t p m).1≤nv p∧cp m t (K.act t p m).1+1≤cp m t p
 gives: ∀m t h,h=1∨h=2→nw (K.start (2*h) h)≤nw (K.idle h)∧nv (K.start (2*h) h)≤nv (K.idle h)∧cp m t (K.start (2*h) h)≤cp m t (K.idle h)
 rests: ∀m t,cp m t (K.idle 0)=0
 zero: ∀m t p,K.wait t p=none→cp m t p=0→p=K.idle 0
 free: ∀b ps m,I b ps m→ps.length=n→(∀i,i<n→ps.getD i (K.idle 0)=K.idle 0∨ ∃c pr,K.wait i (ps.getD i (K.idle 0))=some (c,pr)∧pr (m c)=false)→ ∀i,i<n→ps.getD i (K.idle 0)=K.idle 0
theorem Q8R{C x:Nat}{Q:Prop}(h:x+2≤C):x+1≤C∧(Q→x+2≤C):=⟨by omega,fun _=>h⟩
def Q5G(K:Q3D P)(cp:(Nat→Int)→Nat→P→Nat)(m:Nat→Int)(mode:Int)(t:Nat)(f:Fr)(p:P)(q:Int):Nat:=
 if f.st=4 then 1+cp m t p
 else match K.wait t p with
  |some (c,pr)=>if pr (m c)then(if f.st=0 then 0 else if f.st=2 then 1 else 2)+cp m t p
   else if mode=2 then(if f.st=0 then 3 else if f.st=1 then 2 else if f.st=2 then 1 else 0)+(if q≠0 then 2 else 0)else 0
  |none=>cp m t p
theorem Q7o{N V C:Nat}{nw nv:P→Nat}{cp:(Nat→Int)→Nat→P→Nat}(Lv:K.Live n I N V C nw nv cp){m:Nat→Int}{mode:Int}{t:Nat}{f:Fr}{p:P}{q:Int}(hs:f.st=0):Q5G K cp m mode t f p q≤cp m t p:=by
 unfold Q5G
 rw[if_neg (by omega)]
 split
 ·rename_i c pr hw
  cases hp:pr (m c)with
  |true=>simp[hs]
  |false=>
   have:=Lv.wait_no m t p c pr hw hp
   simp only[hs,if_true,Bool.false_eq_true,if_false]
   repeat' split
   all_goals omega
 ·exact Nat.le_refl _
structure Went(K:Q3D P)(n:Nat)(nw nv:P→Nat)(cp:(Nat→Int)→Nat→P→Nat)(M:Mt)(ps:List P)(i:Nat)(M':Mt)(ps':List P):Prop where
 num:M'.n=M.n∧M'.mode=M.mode
 others: ∀j,j≠i→M'.fs.getD j Fr.zero=M.fs.getD j Fr.zero∧M'.hold.getD j 0=M.hold.getD j 0∧ps'.getD j (K.idle 0)=ps.getD j (K.idle 0)
 kind:(0<Q3d n (M.fs.getD i Fr.zero)∧Q3d n (M'.fs.getD i Fr.zero)+1≤Q3d n (M.fs.getD i Fr.zero)∧ps'=ps∧Q0j n M'.L=Q0j n M.L)∨
  (Q3d n (M.fs.getD i Fr.zero)=0∧nw (ps'.getD i (K.idle 0))+1≤nw (ps.getD i (K.idle 0))∧nv (ps'.getD i (K.idle 0))+(if 0<Q3d n (M'.fs.getD i Fr.zero)then 1 else 0)≤nv (ps.getD i (K.idle 0)))∨
  (Q3d n (M.fs.getD i Fr.zero)=0∧Q3d n (M'.fs.getD i Fr.zero)=0∧Q0j n M'.L=Q0j n M.L∧nw (ps'.getD i (K.idle 0))≤nw (ps.getD i (K.idle 0))∧nv (ps'.getD i (K.idle 0))≤nv (ps.getD i (K.idle 0))∧
   (∀j,j<n→j≠i→M'.L.getD (8+3*n+j) 0=M.L.getD (8+3*n+j) 0)∧
   (Q5G K cp (Q0j n M.L) M.mode i (M'.fs.getD i Fr.zero) (ps'.getD i (K.idle 0)) (M'.L.getD (8+3*n+i) 0)+1≤Q5G K cp (Q0j n M.L) M.mode i (M.fs.getD i Fr.zero) (ps.getD i (K.idle 0)) (M.L.getD (8+3*n+i) 0)∨
    (Q5G K cp (Q0j n M.L) M.mode i (M'.fs.getD i Fr.zero) (ps'.getD i (K.idle 0)) (M'.L.getD (8+3*n+i) 0)=0∧Q5G K cp (Q0j n M.L) M.mode i (M.fs.getD i Fr.zero) (ps.getD i (K.idle 0)) (M.L.getD (8+3*n+i) 0)=0)∨
    ∃j,j<n∧(M.fs.getD j Fr.zero).wk.on=true))
theorem Q3L{M:Mt}{ps:List P}{i:Nat}{f':Fr}{h':Int}{p':P}{L':List Int}(hf:i<M.fs.length)(hh:i<M.hold.length)(hp:i<ps.length):
 (∀j,j≠i→(M.put i f' h' L').fs.getD j Fr.zero=M.fs.getD j Fr.zero∧(M.put i f' h' L').hold.getD j 0=M.hold.getD j 0∧(ps.set i p').getD j (K.idle 0)=ps.getD j (K.idle 0))∧
 (M.put i f' h' L').fs.getD i Fr.zero=f'∧(M.put i f' h' L').hold.getD i 0=h'∧(ps.set i p').getD i (K.idle 0)=p':=by
 refine⟨fun j hj=>⟨Q2d (fun h=>hj h.symm),Q2d (fun h=>hj h.symm),Q2d (fun h=>hj h.symm)⟩,?_,?_,?_⟩
 ·show(M.fs.set i f').getD i Fr.zero=f'
  rw[Q2K hf,if_pos rfl]
 ·show(M.hold.set i h').getD i 0=h'
  rw[Q2K hh,if_pos rfl]
 ·rw[Q2K hp,if_pos rfl]
end
section
variable {P:Type}{K:Q3D P}{I:Nat→List P→(Nat→Int)→Prop}{n b:Nat}{M:Mt}{ps:List P}{N V C:Nat}{nw nv:P→Nat}{cp:(Nat→Int)→Nat→P→Nat}{i:Nat}{f:Fr}{h:Int}{p:P}
def Goes(K:Q3D P)(I:Nat→List P→(Nat→Int)→Prop)(n b:Nat)(nw nv:P→Nat)(cp:(Nat→Int)→Nat→P→Nat)(M:Mt)(ps:List P)(i:Nat)(f:Fr)(h:Int):Prop:=
 ∃ps',MI K I n b (M.goes K.g i f h) ps'∧Went K n nw nv cp M ps i (M.goes K.g i f h) ps'
theorem Y1t{f:Fr}(h:f.wk.on=false):Q3d n f=0:=by unfold Q3d;rw[h];rfl
theorem Q3u{f:Fr}(h:f.wk=Wk.zero):Q3d n f=0:=Y1t (by rw[h];rfl)
theorem Y1w(G:K.Good n M.mode)(Kp:K.Q5D n I)(Lv:K.Live n I N V C nw nv cp)(h1:1≤n)(hm:M.mode=1∨M.mode=2)(H:MI K I n (b+1) M ps)(hi:i<n)
 (hf:M.fs.getD i Fr.zero=(K.conc p).1) (hh:M.hold.getD i 0=(K.conc p).2) (hp:ps.getD i (K.idle 0)=p) (hop:(K.conc p).1.op≠0) (hw:K.wait i p=none):Goes K I n b nw nv cp M ps i (K.conc p).1 (K.conc p).2:=by
 obtain⟨q1,q2,q3⟩:=G.plain p
 have hfl:=H.fsl
 have hhl:=H.hol
 have hpl:=H.psl
 have hok:=Kp.ok _ ps _ i H.inv hi hpl
 have hacts:=Kp.acts _ ps _ i H.inv hi hpl
 have hwks:=fun j c pr=>Kp.wakes _ ps _ i j c pr H.inv hi
 have hlw:=Lv.write (Q0j n M.L) i p
 have hlq:=Lv.quiet _ ps (Q0j n M.L) i p H.inv hpl hi hp
 rw[hp]at hok hacts hwks
 have A:=G.act p i (M.run i (K.conc p).1) hok hi hw hop H.num rfl rfl rfl H.len
 have hacts:=hacts hw hop
 rw[show(M.run i (K.conc p).1).L=M.L from rfl]at A
 have hstep:M.goes K.g i (K.conc p).1 (K.conc p).2=_:=Q5i (by rw[q2];rfl) (Q5K (by rw[q1,Q7k];decide))
 have hh2:(K.conc p).2≠2:=fun e=>hop (by rw[G.two p e,G.idle_conc];rfl)
 obtain⟨f',h',e1,e2,e3,e4⟩:=Q8X (t:=i) hm G h1 A.f A.st (show _=Q1f M.mode _ from A.wk) A.op hh2
 rw[X7J e1]at hstep
 unfold Goes
 rw[hstep,A.L]
 have hmw:=X1M H.len A.lt
 have hL:(M.run i (K.conc p).1).L=M.L:=rfl
 rw[hL]
 generalize hR:K.act i p (Q0j n M.L)=R at*
 obtain⟨p',w,k⟩:=R
 simp only at*
 refine⟨ps.set i p',MI.put H G hi (by rw[X0Q];exact H.len) e2 (by rw[hmw];exact hacts) (fun c pr _ hs=>by omega) (fun j hj _=>Q7C A.lt (by omega)) (fun c pr _ hs=>by omega) (fun j c pr hj hji hwt hs hpr=> ?_),?_⟩
 ·rw[hmw]at hpr
  rcases hwks j c pr hj (fun h=>hji h.symm) hpl hw hop hwt (by exact hpr)with hold|hwake
  ·rcases H.woken j c pr hj hwt hs hold with h3|⟨u,h3,h4,h5⟩
   ·exact Or.inl (by rw[Q7C A.lt (by omega)];exact h3)
   ·refine Or.inr (Or.inr ⟨u,h3,?_,h4,h5⟩)
    rintro rfl
    rw[hf,q2]at h4
    cases h4
  ·refine Or.inr (Or.inl ?_)
   have hm2:=(H.abs j hj).Y3h G (Or.inr hs)
   rw[e4,hwake]
   show(Q3e M.mode c).on=true∧(Q3e M.mode c).cell=c∧(Q3e M.mode c).i≤j
   unfold Q3e
   rw[if_pos hm2]
   exact⟨rfl,rfl,by simp⟩
 ·obtain⟨o1,o2,o3,o4⟩:=Q3L (K:=K) (f':=f') (h':=h') (p':=p') (L':=Q0e M.L w) (M:=M) (ps:=ps) (i:=i) (by omega) (by omega) (by omega)
  refine⟨⟨rfl,rfl⟩,o1,?_⟩
  rw[o2,o4,hf,hp]
  have hl0:Q3d n (K.conc p).1=0:=Q3u q2
  cases w with
  |some x=>
   right;left
   obtain⟨g1,g2⟩:=hlw x hw hop rfl
   refine⟨hl0,g1,?_⟩
   cases k with
   |none=>rw[Q3u (f:=f') (by rw[e4];rfl)];simpa using g2
   |some c=>
    simp only[Option.isSome_some,if_true]at g2
    split<;>omega
  |none=>
   right;right
   obtain⟨g1,g2,g3,g4⟩:=hlq hw hop rfl
   subst g1
   refine⟨hl0,Q3u (f:=f') (by rw[e4];rfl),rfl,g2,g3,fun j hj hji=>rfl,Or.inl ?_⟩
   have:=Q7o Lv (m:=Q0j n M.L) (mode:=M.mode) (t:=i) (f:=f') (p:=p') (q:=(M.put i f' h' (Q0e M.L none)).L.getD (8+3*n+i) 0) e3
   have hpp:Q5G K cp (Q0j n M.L) M.mode i (K.conc p).1 p (M.L.getD (8+3*n+i) 0)=cp (Q0j n M.L) i p:=by
    unfold Q5G
    rw[if_neg (by omega),hw]
   rw[hpp]
   omega
theorem X8S(G:K.Good n M.mode)(Kp:K.Q5D n I)(Lv:K.Live n I N V C nw nv cp)(h1:1≤n)(hm:M.mode=1∨M.mode=2)(H:MI K I n (b+1) M ps)(hi:i<n)
 (hf:M.fs.getD i Fr.zero=(K.conc p).1) (hh:M.hold.getD i 0=(K.conc p).2) (hp:ps.getD i (K.idle 0)=p) {c:Nat} {pr:Int→Bool} (hw:K.wait i p=some (c,pr)):Goes K I n b nw nv cp M ps i (K.conc p).1 (K.conc p).2:=by
 obtain⟨q1,q2,q3⟩:=G.plain p
 have hop:=G.wait_op i p c pr hw
 have hfl:=H.fsl
 have hhl:=H.hol
 have hpl:=H.psl
 have hok:=Kp.ok _ ps _ i H.inv hi hpl
 have hsees:=Kp.sees _ ps _ i c pr H.inv hi hpl
 rw[hp]at hok hsees
 have hsees:=hsees hw
 have hc:=G.wait_lt i p c pr hok hi hw
 have hfst:(M.run i (K.conc p).1).f={(K.conc p).1 with st:=0}:=by
  show(K.conc p).1=_
  rw[←q1]
 obtain⟨s1,s2,s3⟩:=G.wait_step p i c pr 0 (M.run i (K.conc p).1) hok hi hw (Int.le_refl _) (by omega) H.num rfl rfl hfst H.len
 rw[show(M.run i (K.conc p).1).L=M.L from rfl,look0 H.len hc]at s1 s2 s3
 simp only at s1 s2 s3
 have hstep:M.goes K.g i (K.conc p).1 (K.conc p).2=_:=Q5i (by rw[q2];rfl) (Q5K (by rw[q1,Q7k];decide))
 have hh2:(K.conc p).2≠2:=fun e=>hop (by rw[G.two p e,G.idle_conc];rfl)
 have hl0:Q3d n (K.conc p).1=0:=Q3u q2
 unfold Goes
 cases hpr:pr (Q0j n M.L c)with
 |true=>
  obtain⟨s4,s5,s6,s7⟩:=s2 hpr
  obtain⟨f',h',e1,e2,e3,e4⟩:=Q8X (t:=i) (w:=none) hm G h1 s4 s5 s6 s7 hh2
  rw[X7J e1]at hstep
  rw[hstep,s1]
  refine⟨ps.set i (K.post p (Q0j n M.L c)),MI.put H G hi H.len e2 (hsees hpr) (fun c pr _ hs=>by omega) (fun j hj _=>rfl) (fun c pr _ hs=>by omega) (MI.others H (by rw[hf,q2];rfl) rfl (fun _ _ _=>rfl) f'),?_⟩
  obtain⟨o1,o2,o3,o4⟩:=Q3L (K:=K) (f':=f') (h':=h') (p':=K.post p (Q0j n M.L c)) (L':=M.L) (M:=M) (ps:=ps) (i:=i) (by omega) (by omega) (by omega)
  refine⟨⟨rfl,rfl⟩,o1,Or.inr (Or.inr ?_)⟩
  rw[o2,o4,hf,hp]
  obtain⟨g1,g2⟩:=Lv.post_w i p c pr (Q0j n M.L c) hw
  refine⟨hl0,Q3u (f:=f') e4,rfl,g1,g2,fun j hj hji=>rfl,Or.inl ?_⟩
  have h5:=Q7o Lv (m:=Q0j n M.L) (mode:=M.mode) (t:=i) (f:=f') (p:=K.post p (Q0j n M.L c)) (q:=M.L.getD (8+3*n+i) 0) e3
  have h6:=Lv.wait_yes (Q0j n M.L) i p c pr hw hpr
  have hpp:Q5G K cp (Q0j n M.L) M.mode i (K.conc p).1 p (M.L.getD (8+3*n+i) 0)=cp (Q0j n M.L) i p:=by
   unfold Q5G
   rw[if_neg (by omega),hw]
   simp[hpr,q1]
  rw[hpp]
  exact Nat.le_trans (Nat.succ_le_succ h5) h6
 |false=>
  have s4:=s3 hpr
  rw[hpr]at s4
  simp only[Bool.false_eq_true,if_false]at s4
  have hnover:(K.g (M.run i (K.conc p).1)).over=false:=by
   unfold Rn.over
   rw[s4]
   simp[q3]
  rw[hnover]at hstep
  simp only[Bool.false_eq_true,if_false]at hstep
  rw[hstep,s1,s4]
  rcases hm with hm|hm
  ·rw[if_neg (by omega)]
   have e0:({(K.conc p).1 with st:=0}:Fr)=(K.conc p).1:=hfst.symm
   have e9:M.put i {(K.conc p).1 with st:=0} (K.conc p).2 M.L=M:=by
    rw[e0,←hf,←hh]
    exact X3E (by omega) (by omega)
   rw[e9]
   refine⟨ps,H.weaken Kp,⟨rfl,rfl⟩,fun j _=>⟨rfl,rfl,rfl⟩,Or.inr (Or.inr ?_)⟩
   rw[hf]
   refine⟨hl0,hl0,rfl,Nat.le_refl _,Nat.le_refl _,fun _ _ _=>rfl,Or.inr (Or.inl ?_)⟩
   have hpp:Q5G K cp (Q0j n M.L) M.mode i (K.conc p).1 (ps.getD i (K.idle 0)) (M.L.getD (8+3*n+i) 0)=0:=by
    unfold Q5G
    rw[hp,if_neg (by omega),hw]
    simp[hpr,hm]
   exact⟨hpp,hpp⟩
  ·rw[if_pos hm]
   refine⟨ps.set i p,MI.put H G hi H.len (Q5F.staged p c pr 1 hm hok hw (by simp)) (by rw[set_self (by omega) hp];exact Kp.weak _ _ _ H.inv) (fun c pr _ hs=>by simp at hs) (fun j hj _=>rfl) (fun c pr _ hs=>by simp at hs) (MI.others H (by rw[hf,q2];rfl) rfl (fun _ _ _=>rfl) _),?_⟩
   obtain⟨o1,o2,o3,o4⟩:=Q3L (K:=K) (f':={(K.conc p).1 with st:=1}) (h':=(K.conc p).2) (p':=p) (L':=M.L) (M:=M) (ps:=ps) (i:=i) (by omega) (by omega) (by omega)
   refine⟨⟨rfl,rfl⟩,o1,Or.inr (Or.inr ?_)⟩
   rw[o2,o4,hf,hp]
   refine⟨hl0,Q3u q2,rfl,Nat.le_refl _,Nat.le_refl _,fun _ _ _=>rfl,Or.inl ?_⟩
   show Q5G K cp (Q0j n M.L) M.mode i {(K.conc p).1 with st:=1} p (M.L.getD (8+3*n+i) 0)+1≤_
   unfold Q5G
   rw[hw]
   simp[hpr,hm,q1]
   omega
end
section
variable {P:Type}{K:Q3D P}{I:Nat→List P→(Nat→Int)→Prop}{n b:Nat}{M:Mt}{ps:List P}{N V C:Nat}{nw nv:P→Nat}{cp:(Nat→Int)→Nat→P→Nat}{i:Nat}{f:Fr}{h:Int}{p:P}
theorem Q6W{k:Wk}{f:Fr}(hk:k.on=true)(h0:0≤k.i)(hi:k.i<n)(e:f.wk=k):0<Q3d n f:=by
 unfold Q3d
 rw[e,if_pos hk]
 split<;>omega
theorem Q8J(G:K.Good n M.mode)(Kp:K.Q5D n I)(h1:1≤n)(h2:n≤64)(H:MI K I n (b+1) M ps)(hi:i<n)(hm:M.mode=2)
 (hf:M.fs.getD i Fr.zero=f) (hh:M.hold.getD i 0=h) (hp:ps.getD i (K.idle 0)=p) (hk:f.wk.on=true) (h0:0≤f.wk.i) (hlt:f.wk.i<n) (hc:0≤f.wk.cell) (hst:f.st=0)
 (hend:f.ret≠0→Q5F K n M.mode i Fr.zero (Q0c f.op f.ret h) p) (hmore: ∀k':Wk,(f.ret=0∧k'=Wk.zero)∨(k'.on=true∧0≤k'.i∧k'.i<n∧0≤k'.cell)→Q5F K n M.mode i {f with wk:=k'} h p):
 Goes K I n b nw nv cp M ps i f h:=by
 have hfl:=H.fsl
 have hhl:=H.hol
 have hpl:=H.psl
 have hnum:=H.num
 obtain⟨k',e1⟩: ∃k',(Q4K M.L n f.wk).1=k':=⟨_,rfl⟩
 obtain⟨L',e2⟩: ∃L',(Q4K M.L n f.wk).2.2=L':=⟨_,rfl⟩
 obtain⟨c1,c2,c3,c4,c5,c6,c7⟩:=X6x h1 h2 H.len hk h0 hlt hc e1 e2
 have hstep:=X8Q (g:=K.g) (M:=M) (i:=i) (f:=f) (h:=h) hk
 rw[hnum,e1,e2]at hstep
 have hps:ps.set i p=ps:=set_self (by omega) hp
 have main: ∀f' h',Q5F K n M.mode i f' h' p→f'.st=0→f'.wk=k'→MI K I n b (M.put i f' h' L') ps∧Went K n nw nv cp M ps i (M.put i f' h' L') ps:=by
  intro f' h' ha hs hw'
  constructor
  ·rw[←hps]
   refine MI.put H G hi c2 ha (by rw[hps,c3];exact Kp.weak _ _ _ H.inv) (fun c pr _ h=>by omega) (fun j hj _=>c4 j hj) (fun c pr _ h=>by omega) (fun j c pr hj hji hwt hs3 hpr=> ?_)
   rw[c3]at hpr
   rcases H.woken j c pr hj hwt hs3 hpr with h3|⟨u,h3,h4,h5,h6⟩
   ·exact Or.inl (c5 j hj h3)
   ·by_cases e:u=i
    ·subst e
     rw[hf]at h4 h5 h6
     have hwj:=H.watch j c pr hj hwt (Or.inr hs3)
     rw[hw']
     rcases c7 j hj h6 (by rw[h5];exact hwj)with h7|⟨h7,h8,h9⟩
     ·exact Or.inl h7
     ·exact Or.inr (Or.inl ⟨h7,by rw[h8,h5],h9⟩)
    ·exact Or.inr (Or.inr ⟨u,h3,e,h4,h5,h6⟩)
  ·obtain⟨o1,o2,o3,o4⟩:=Q3L (K:=K) (f':=f') (h':=h') (p':=p) (L':=L') (M:=M) (ps:=ps) (i:=i) (by omega) (by omega) (by omega)
   refine⟨⟨rfl,rfl⟩,fun j hj=>⟨(o1 j hj).1,(o1 j hj).2.1,rfl⟩,Or.inl ?_⟩
   rw[o2,hf]
   refine⟨Q6W hk h0 hlt rfl,?_,rfl,c3⟩
   have:=c6 f
   have e3:Q3d n f'=Q3d n {f with wk:=k'}:=by unfold Q3d;rw[hw']
   rw[e3]
   exact this
 unfold Goes
 rw[hstep]
 by_cases hb:f.ret≠0∧k'.on=false
 ·rw[if_pos hb]
  have hz:k'=Wk.zero:=by
   rcases c1 with h3|h3
   ·exact h3
   ·rw[hb.2]at h3;cases h3.1
  exact⟨ps,main _ _ (hend hb.1) rfl hz.symm⟩
 ·rw[if_neg hb]
  refine⟨ps,main _ _ (hmore k' ?_) hst rfl⟩
  rcases c1 with h3|h3
  ·left
   refine⟨?_,h3⟩
   rcases Decidable.em (f.ret=0)with h4|h4
   ·exact h4
   ·exact absurd ⟨h4,by rw[h3];rfl⟩ hb
  ·exact Or.inr h3
theorem X2H(G:K.Good n M.mode)(Kp:K.Q5D n I)(Lv:K.Live n I N V C nw nv cp)(h1:1≤n)(h2:n≤64)(H:MI K I n (b+1) M ps)(hi:i<n){c:Nat}{pr:Int→Bool}{st:Int}(hm:M.mode=2)(hok:K.ok p)(hw:K.wait i p=some (c,pr))(hst:st=1∨st=2∨st=3)
 (hf:M.fs.getD i Fr.zero={(K.conc p).1 with st:=st}) (hh:M.hold.getD i 0=(K.conc p).2) (hp:ps.getD i (K.idle 0)=p):Goes K I n b nw nv cp M ps i {(K.conc p).1 with st:=st} (K.conc p).2:=by
 obtain⟨q1,q2,q3⟩:=G.plain p
 have hop:=G.wait_op i p c pr hw
 have hfl:=H.fsl
 have hhl:=H.hol
 have hpl:=H.psl
 have hsees:=Kp.sees _ ps _ i c pr H.inv hi hpl
 rw[hp]at hsees
 have hsees:=hsees hw
 have hc:=G.wait_lt i p c pr hok hi hw
 obtain⟨s1,s2,s3⟩:=G.wait_step p i c pr st (M.run i {(K.conc p).1 with st:=st}) hok hi hw (by omega) (by omega) H.num rfl rfl rfl H.len
 rw[show(M.run i {(K.conc p).1 with st:=st}).L=M.L from rfl]at s1 s2 s3
 have hl0: ∀s:Int,Q3d n {(K.conc p).1 with st:=s}=0:=fun s=>Q3u q2
 have hps:ps.set i p=ps:=set_self (by omega) hp
 have hoff:(M.fs.getD i Fr.zero).wk.on=false:=by rw[hf];show(K.conc p).1.wk.on=false;rw[q2];rfl
 have hinv:I b (ps.set i p) (Q0j n M.L):=by rw[hps];exact Kp.weak _ _ _ H.inv
 have hno: ∀s':Rn,s'.f.ret=0→s'.over=false:=fun s' e=>by unfold Rn.over;rw[e];rfl
 unfold Goes
 rw[hm]at s1 s2 s3
 rcases hst with rfl|rfl|rfl
 ·
  obtain⟨a,ha⟩:=look1 (c:=c) (pr:=pr) h1 h2 hi H.len
  rw[ha]at s1 s3
  have s4:=s3 rfl
  simp only[Bool.false_eq_true,if_false]at s1 s4
  have hstep:M.goes K.g i {(K.conc p).1 with st:=1} (K.conc p).2=_:=Q5i (by show(K.conc p).1.wk.on=false;rw[q2];rfl) (Q5K (by show Q1y M.mode 1≠3;rw[Q4b hm (by omega) (by omega)];decide))
  rw[hno _ (by rw[s4];exact q3)]at hstep
  simp only[Bool.false_eq_true,if_false]at hstep
  rw[hstep,s1,s4]
  have hmf:Q0j n (M.L.set (8+2*n+i) (((c:Int)+1)%4294967296))=Q0j n M.L:=Q7Y (by omega)
  refine⟨ps.set i p,MI.put H G hi (by simpa using H.len) (Q5F.staged p c pr 2 hm hok hw (by simp)) (by rw[hmf];exact hinv) (fun c2 pr2 hw2 _=> ?_) (fun j hj hji=>Q2d (by omega)) (fun c pr _ hs=>by simp at hs) (MI.others H hoff hmf (fun j hj hji=>Q2d (by omega)) _),?_⟩
  ·rw[hw]at hw2
   obtain⟨rfl,rfl⟩:=Prod.mk.inj (Option.some.inj hw2)
   have:=H.len
   rw[Q7w,if_pos ⟨rfl,by omega⟩]
  ·obtain⟨o1,o2,o3,o4⟩:=Q3L (K:=K) (f':={(K.conc p).1 with st:=2}) (h':=(K.conc p).2) (p':=p) (L':=M.L.set (8+2*n+i) (((c:Int)+1)%4294967296)) (M:=M) (ps:=ps) (i:=i) (by omega) (by omega) (by omega)
   refine⟨⟨rfl,rfl⟩,o1,Or.inr (Or.inr ?_)⟩
   rw[o2,o4,hf,hp]
   refine⟨hl0 1,hl0 2,hmf,Nat.le_refl _,Nat.le_refl _,fun j hj hji=>Q2d (by omega),Or.inl ?_⟩
   show Q5G K cp (Q0j n M.L) M.mode i {(K.conc p).1 with st:=2} p ((M.L.set (8+2*n+i) (((c:Int)+1)%4294967296)).getD (8+3*n+i) 0)+1≤_
   rw[Q2d (by omega)]
   unfold Q5G
   rw[hw]
   cases hpr:pr (Q0j n M.L c)<;>simp[hpr,hm]<;>omega
 ·
  rw[look2 H.len hc]at s1 s3
  simp only at s1 s3
  have s4:=s3 trivial
  have hstep:M.goes K.g i {(K.conc p).1 with st:=2} (K.conc p).2=_:=Q5i (by show(K.conc p).1.wk.on=false;rw[q2];rfl) (Q5K (by show Q1y M.mode 2≠3;rw[Q4b hm (by omega) (by omega)];decide))
  cases hpr:pr (Q0j n M.L c)with
  |true=>
   rw[hpr]at s4
   simp only[if_true]at s4
   rw[hno _ (by rw[s4];exact q3)]at hstep
   simp only[Bool.false_eq_true,if_false]at hstep
   rw[hstep,s1,s4]
   refine⟨ps.set i (K.post p (Q0j n M.L c)),MI.put H G hi H.len (Q5F.seen p c pr (Q0j n M.L c) hm hok hw hpr) (hsees hpr) (fun c pr _ hs=>by simp at hs) (fun j hj _=>rfl) (fun c pr _ hs=>by simp at hs) (MI.others H hoff rfl (fun _ _ _=>rfl) _),?_⟩
   obtain⟨o1,o2,o3,o4⟩:=Q3L (K:=K) (f':={(K.conc p).1 with a:=K.keep p (Q0j n M.L c),st:=4}) (h':=(K.conc p).2) (p':=K.post p (Q0j n M.L c)) (L':=M.L) (M:=M) (ps:=ps) (i:=i) (by omega) (by omega) (by omega)
   refine⟨⟨rfl,rfl⟩,o1,Or.inr (Or.inr ?_)⟩
   rw[o2,o4,hf,hp]
   obtain⟨g1,g2⟩:=Lv.post_w i p c pr (Q0j n M.L c) hw
   refine⟨hl0 2,Q3u q2,rfl,g1,g2,fun _ _ _=>rfl,Or.inl ?_⟩
   have h6:=Lv.wait_yes (Q0j n M.L) i p c pr hw hpr
   unfold Q5G
   rw[hw]
   simp only[if_true,hpr]
   simp
   omega
  |false=>
   rw[hpr]at s4
   simp only[Bool.false_eq_true,if_false]at s4
   rw[hno _ (by rw[s4];exact q3)]at hstep
   simp only[Bool.false_eq_true,if_false]at hstep
   rw[hstep,s1,s4]
   refine⟨ps.set i p,MI.put H G hi H.len (Q5F.staged p c pr 3 hm hok hw (by simp)) hinv (fun c2 pr2 hw2 _=> ?_) (fun j hj _=>rfl) (fun c2 pr2 hw2 _=> ?_) (MI.others H hoff rfl (fun _ _ _=>rfl) _),?_⟩
   ·rw[←hp]at hw2
    exact H.watch i c2 pr2 hi hw2 (by rw[hf];simp)
   ·rw[hw]at hw2
    obtain⟨rfl,rfl⟩:=Prod.mk.inj (Option.some.inj hw2)
    exact hpr
   ·obtain⟨o1,o2,o3,o4⟩:=Q3L (K:=K) (f':={(K.conc p).1 with st:=3}) (h':=(K.conc p).2) (p':=p) (L':=M.L) (M:=M) (ps:=ps) (i:=i) (by omega) (by omega) (by omega)
    refine⟨⟨rfl,rfl⟩,o1,Or.inr (Or.inr ?_)⟩
    rw[o2,o4,hf,hp]
    refine⟨hl0 2,hl0 3,rfl,Nat.le_refl _,Nat.le_refl _,fun _ _ _=>rfl,Or.inl ?_⟩
    show Q5G K cp (Q0j n M.L) M.mode i {(K.conc p).1 with st:=3} p (M.L.getD (8+3*n+i) 0)+1≤_
    unfold Q5G
    rw[hw]
    simp[hpr,hm]
    omega
 ·
  by_cases hq:M.L.getD (8+3*n+i) 0=0
  ·have hstep:M.goes K.g i {(K.conc p).1 with st:=3} (K.conc p).2=_:=X5A (by show(K.conc p).1.wk.on=false;rw[q2];rfl) (by
    show Q2R M.L M.n M.mode i 3=true
    unfold Q2R
    rw[Q4b hm (by omega) (by omega),H.num,Q8j h1 h2 hi H.len,hq]
    rfl)
   have hsame:M.put i {(K.conc p).1 with st:=3} (K.conc p).2 M.L=M:=by
    rw[←hf,←hh]
    exact X3E (by omega) (by omega)
   rw[hstep,hsame]
   refine⟨ps,H.weaken Kp,⟨rfl,rfl⟩,fun j _=>⟨rfl,rfl,rfl⟩,Or.inr (Or.inr ?_)⟩
   rw[hf]
   refine⟨hl0 3,hl0 3,rfl,Nat.le_refl _,Nat.le_refl _,fun _ _ _=>rfl,Or.inr ?_⟩
   cases hpr:pr (Q0j n M.L c)with
   |false=>
    left
    have hpp:Q5G K cp (Q0j n M.L) M.mode i {(K.conc p).1 with st:=3} (ps.getD i (K.idle 0)) (M.L.getD (8+3*n+i) 0)=0:=by
     unfold Q5G
     rw[hp,hw,hq]
     simp[hpr,hm]
    exact⟨hpp,hpp⟩
   |true=>
    right
    rcases H.woken i c pr hi (by rw[hp];exact hw) (by rw[hf]) hpr with h3|⟨u,h3,h4,h5⟩
    ·exact absurd hq h3
    ·exact⟨u,h3,h4⟩
  ·obtain⟨a,ha⟩:=look3 (c:=c) (pr:=pr) h1 h2 hi H.len hq
   rw[ha]at s1 s3
   have s4:=s3 rfl
   simp only[Bool.false_eq_true,if_false]at s1 s4
   have hstep:M.goes K.g i {(K.conc p).1 with st:=3} (K.conc p).2=_:=Q5i (by show(K.conc p).1.wk.on=false;rw[q2];rfl) (by
    show Q2R M.L M.n M.mode i 3=false
    unfold Q2R
    rw[H.num,Q8j h1 h2 hi H.len]
    have:(M.L.getD (8+3*n+i) 0 !=0)=true:=by simpa using hq
    rw[this]
    simp)
   rw[hno _ (by rw[s4];exact q3)]at hstep
   simp only[Bool.false_eq_true,if_false]at hstep
   rw[hstep,s1,s4]
   have hmf:Q0j n (M.L.set (8+3*n+i) 0)=Q0j n M.L:=Q7Y (by omega)
   have hlen:=H.len
   refine⟨ps.set i p,MI.put H G hi (by simpa using H.len) (Q5F.staged p c pr 2 hm hok hw (by simp)) (by rw[hmf];exact hinv) (fun c2 pr2 hw2 _=> ?_) (fun j hj hji=>Q2d (by omega)) (fun c pr _ hs=>by simp at hs) (MI.others H hoff hmf (fun j hj hji=>Q2d (by omega)) _),?_⟩
   ·rw[←hp]at hw2
    rw[Q2d (by omega)]
    exact H.watch i c2 pr2 hi hw2 (by rw[hf];simp)
   ·obtain⟨o1,o2,o3,o4⟩:=Q3L (K:=K) (f':={(K.conc p).1 with st:=2}) (h':=(K.conc p).2) (p':=p) (L':=M.L.set (8+3*n+i) 0) (M:=M) (ps:=ps) (i:=i) (by omega) (by omega) (by omega)
    refine⟨⟨rfl,rfl⟩,o1,Or.inr (Or.inr ?_)⟩
    rw[o2,o4,hf,hp]
    refine⟨hl0 3,hl0 2,hmf,Nat.le_refl _,Nat.le_refl _,fun j hj hji=>Q2d (by omega),Or.inl ?_⟩
    show Q5G K cp (Q0j n M.L) M.mode i {(K.conc p).1 with st:=2} p ((M.L.set (8+3*n+i) 0).getD (8+3*n+i) 0)+1≤_
    rw[Q7w,if_pos ⟨rfl,by omega⟩]
    unfold Q5G
    rw[hw]
    cases hpr:pr (Q0j n M.L c)with
    |true=>simp[hpr,hm];omega
    |false=>
     have hq2: ¬M.L[8+3*n+i]?.getD 0=0:=by rw[←List.getD_eq_getElem?_getD];exact hq
     simp[hpr,hm,hq2]
theorem X8R(G:K.Good n M.mode)(Kp:K.Q5D n I)(Lv:K.Live n I N V C nw nv cp)(h1:1≤n)(h2:n≤64)(H:MI K I n (b+1) M ps)(hi:i<n){q:P}{c:Nat}{pr:Int→Bool}{v:Int}(hm:M.mode=2)(hok:K.ok q)(hw:K.wait i q=some (c,pr))(hpr:pr v=true)
 (hf:M.fs.getD i Fr.zero={(K.conc q).1 with a:=K.keep q v,st:=4}) (hh:M.hold.getD i 0=(K.conc q).2) (hp:ps.getD i (K.idle 0)=K.post q v):Goes K I n b nw nv cp M ps i {(K.conc q).1 with a:=K.keep q v,st:=4} (K.conc q).2:=by
 obtain⟨q1,q2,q3⟩:=G.plain q
 have hop:=G.wait_op i q c pr hw
 have hfl:=H.fsl
 have hhl:=H.hol
 have hpl:=H.psl
 have hh2:(K.conc q).2≠2:=fun e=>hop (by rw[G.two q e,G.idle_conc];rfl)
 obtain⟨s1,s2,s3,s4,s5⟩:=G.wait_last q i c pr v (M.run i {(K.conc q).1 with a:=K.keep q v,st:=4}) hok hi hm hw hpr H.num rfl rfl rfl H.len
 rw[show(M.run i {(K.conc q).1 with a:=K.keep q v,st:=4}).L=M.L from rfl,hm,look4 h1 h2 hi H.len]at s1
 have hoff:(M.fs.getD i Fr.zero).wk.on=false:=by rw[hf];show(K.conc q).1.wk.on=false;rw[q2];rfl
 have hstep:M.goes K.g i {(K.conc q).1 with a:=K.keep q v,st:=4} (K.conc q).2=_:=Q5i (by show(K.conc q).1.wk.on=false;rw[q2];rfl) (Q5K (by show Q1y M.mode 4≠3;rw[Q4b hm (by omega) (by omega)];decide))
 obtain⟨f',h',e1,e2,e3,e4⟩:=Q8X (t:=i) (w:=none) (Or.inr hm) G h1 s2 s3 s4 s5 hh2
 rw[X7J e1]at hstep
 unfold Goes
 rw[hstep,s1]
 have hmf:Q0j n (M.L.set (8+2*n+i) 0)=Q0j n M.L:=Q7Y (by omega)
 have hps:ps.set i (K.post q v)=ps:=set_self (by omega) hp
 refine⟨ps.set i (K.post q v),MI.put H G hi (by simpa using H.len) e2 (by rw[hmf,hps];exact Kp.weak _ _ _ H.inv) (fun c pr _ hs=>by omega) (fun j hj hji=>Q2d (by omega)) (fun c pr _ hs=>by omega) (MI.others H hoff hmf (fun j hj hji=>Q2d (by omega)) f'),?_⟩
 obtain⟨o1,o2,o3,o4⟩:=Q3L (K:=K) (f':=f') (h':=h') (p':=K.post q v) (L':=M.L.set (8+2*n+i) 0) (M:=M) (ps:=ps) (i:=i) (by omega) (by omega) (by omega)
 refine⟨⟨rfl,rfl⟩,o1,Or.inr (Or.inr ?_)⟩
 rw[o2,o4,hf,hp]
 refine⟨Q3u q2,Q3u e4,hmf,Nat.le_refl _,Nat.le_refl _,fun j hj hji=>Q2d (by omega),Or.inl ?_⟩
 have h5:=Q7o Lv (m:=Q0j n M.L) (mode:=M.mode) (t:=i) (f:=f') (p:=K.post q v) (q:=(M.L.set (8+2*n+i) 0).getD (8+3*n+i) 0) e3
 have h6:Q5G K cp (Q0j n M.L) M.mode i {(K.conc q).1 with a:=K.keep q v,st:=4} (K.post q v) (M.L.getD (8+3*n+i) 0)=1+cp (Q0j n M.L) i (K.post q v):=by
  unfold Q5G
  rw[if_pos rfl]
 rw[h6]
 exact Nat.le_trans (Nat.succ_le_succ h5) (by omega)
theorem Q7Z(G:K.Good n M.mode)(Kp:K.Q5D n I)(Lv:K.Live n I N V C nw nv cp)(h1:1≤n)(h2:n≤64)(hm:M.mode=1∨M.mode=2)(H:MI K I n (b+1) M ps)(hi:i<n)(hop:(M.fs.getD i Fr.zero).op≠0):
 Goes K I n b nw nv cp M ps i (M.fs.getD i Fr.zero) (M.hold.getD i 0):=by
 have ha:=H.abs i hi
 obtain⟨f,hf⟩: ∃f,M.fs.getD i Fr.zero=f:=⟨_,rfl⟩
 obtain⟨h,hh⟩: ∃h,M.hold.getD i 0=h:=⟨_,rfl⟩
 obtain⟨p,hp⟩: ∃p,ps.getD i (K.idle 0)=p:=⟨_,rfl⟩
 rw[hf]at hop
 rw[hf,hh]
 rw[hf,hh,hp]at ha
 cases ha with
 |plain=>
  cases hw:K.wait i p with
  |none=>exact Y1w G Kp Lv h1 hm H hi hf hh hp hop hw
  |some x=>obtain⟨c,pr⟩:=x;exact X8S G Kp Lv h1 hm H hi hf hh hp hw
 |waking _ k hm2 hk h0 hlt hc hop2=>
  obtain⟨q1,q2,q3⟩:=G.plain p
  refine Q8J G Kp h1 h2 H hi hm2 hf hh hp hk h0 hlt hc q1 (fun hr=>absurd q3 hr) (fun k' hk'=> ?_)
  rcases hk' with⟨_,rfl⟩|⟨g1,g2,g3,g4⟩
  ·have e:({{(K.conc p).1 with wk:=k}with wk:=Wk.zero}:Fr)=(K.conc p).1:=by
    show({(K.conc p).1 with wk:=Wk.zero}:Fr)=_
    rw[←q2]
   rw[e]
   exact Q5F.plain p
  ·exact Q5F.waking p k' hm2 g1 g2 g3 g4 hop2
 |staged _ c pr st hm2 hok hw hst=>exact X2H G Kp Lv h1 h2 H hi hm2 hok hw hst hf hh hp
 |seen q c pr v hm2 hok hw hpr=>exact X8R G Kp Lv h1 h2 H hi hm2 hok hw hpr hf hh hp
 |over _ _ hm2 hk h0 hlt hc hop2 hr hst hh2=>
  refine Q8J G Kp h1 h2 H hi hm2 hf hh hp hk h0 hlt hc hst (fun _=> ?_) (fun k' hk'=> ?_)
  ·have:=Q5F.plain (K:=K) (n:=n) (mode:=M.mode) (t:=i) (K.idle (Q0c f.op f.ret h))
   rw[G.idle_conc]at this
   exact this
  ·rcases hk' with⟨h3,_⟩|⟨g1,g2,g3,g4⟩
   ·exact absurd h3 hr
   ·exact Q5F.over {f with wk:=k'} h hm2 g1 g2 g3 g4 hop2 hr hst hh2
end
section
variable {P:Type}{K:Q3D P}{I:Nat→List P→(Nat→Int)→Prop}{n b:Nat}{M:Mt}{ps:List P}{N V C:Nat}{nw nv:P→Nat}{cp:(Nat→Int)→Nat→P→Nat}{i:Nat}{f:Fr}{h:Int}{p:P}
theorem Q9J(G:K.Good n M.mode)(Kp:K.Q5D n I)(Lv:K.Live n I N V C nw nv cp)(h1:1≤n)(h2:n≤64)(hm:M.mode=1∨M.mode=2)(H:MI K I n (b+2) M ps)(hi:i<n)(op:Int):
 ∃ps',MI K I n b (M.Q5A K.g i op) ps':=by
 unfold Mt.Q5A
 by_cases hop:(M.fs.getD i Fr.zero).op=0
 ·rw[if_pos hop]
  by_cases hmay:Q6T op (M.hold.getD i 0)=true
  ·rw[if_pos hmay,←X4a (f0:=Q4h op) (h0:=Q0w op (M.hold.getD i 0))]
   have H0:=H.begins G Kp hi hop hmay
   have hne:op≠0:=by
    rintro rfl
    unfold Q6T at hmay
    repeat' split at hmay
    all_goals simp at hmay
   obtain⟨o1,o2,o3,o4⟩:=Q3L (K:=K) (f':=Q4h op) (h':=Q0w op (M.hold.getD i 0)) (p':=K.start op (M.hold.getD i 0)) (L':=M.L) (M:=M) (ps:=ps) (i:=i) (by have:=H.fsl;omega) (by have:=H.hol;omega) (by have:=H.psl;omega)
   obtain⟨ps',h3,_⟩:=Q7Z (M:=M.put i (Q4h op) (Q0w op (M.hold.getD i 0)) M.L) G Kp Lv h1 h2 hm H0 hi (by rw[o2];exact hne)
   rw[o2,o3]at h3
   exact⟨ps',h3⟩
  ·rw[if_neg hmay]
   exact⟨ps,(H.weaken Kp).weaken Kp⟩
 ·rw[if_neg hop]
  obtain⟨ps',h3,_⟩:=Q7Z G Kp Lv h1 h2 hm (H.weaken Kp) hi hop
  exact⟨ps',h3⟩
end
structure Q3D.All{P:Type}(K:Q3D P)(n:Nat)(mode:Int)(I:Nat→List P→(Nat→Int)→Prop)(N V C:Nat)(nw nv:P→Nat)(cp:(Nat→Int)→Nat→P→Nat):Prop where
 good:K.Good n mode
 keeps:K.Q5D n I
 live:K.Live n I N V C nw nv cp
 holds: ∀b ps m i h,I b ps m→i<n→ps.length=n→ps.getD i (K.idle 0)=K.idle h→h=0∨h=1∨h=2
 excl: ∀b ps m i j,I b ps m→ps.length=n→i<n→j<n→j≠i→ps.getD i (K.idle 0)=K.idle 2→(K.conc (ps.getD j (K.idle 0))).2=0
 still: ∀t h,K.wait t (K.idle h)=none
section
variable {P:Type}{K:Q3D P}{I:Nat→List P→(Nat→Int)→Prop}{n b:Nat}{mode:Int}{M:Mt}{ps:List P}{N V C:Nat}{nw nv:P→Nat}{cp:(Nat→Int)→Nat→P→Nat}{i:Nat}{f:Fr}{h:Int}{p:P}
theorem Q3x(A:K.All n mode I N V C nw nv cp)(L:List Int)(hL:L.length=8+4*n)(hI:I b (List.replicate n (K.idle 0)) (Q0j n L)):MI K I n b (Mt.start n mode L) (List.replicate n (K.idle 0)):=X7c A.good A.still L hL hI
end
section
variable {P:Type}{K:Q3D P}{I:Nat→List P→(Nat→Int)→Prop}{n b:Nat}{mode:Int}{M:Mt}{ps:List P}{N V C:Nat}{nw nv:P→Nat}{cp:(Nat→Int)→Nat→P→Nat}
theorem X4Y(A:K.All n mode I N V C nw nv cp)(h1:1≤n)(h2:n≤64)(hm:mode=1∨mode=2)(hM:M.mode=mode)(H:MI K I n (b+2) M ps)(t op:Int): ∃ps',MI K I n b (M.Q3R K.g t op).1 ps'∧(M.Q3R K.g t op).1.mode=mode:=by
 by_cases hin:0≤t∧t<(M.fs.length:Int)
 ·obtain⟨i,rfl⟩: ∃i:Nat,t=i:=⟨t.toNat,by omega⟩
  have G:=A.good
  rw[←hM]at G
  have hi:i<n:=by have:=H.fsl;omega
  rw[Q9K (by omega) (by rw[H.hol,H.fsl])]
  obtain⟨q,hq⟩:=Q9J G A.keeps A.live h1 h2 (by rw[hM];exact hm) H hi op
  exact⟨q,hq,(Q5d K.g M _ _).2.1.trans hM⟩
 ·rw[X7Z hin]
  exact⟨ps,H.weak2 A.keeps,hM⟩
theorem Q6I(A:K.All n mode I N V C nw nv cp)(h1:1≤n)(h2:n≤64)(hm:mode=1∨mode=2): ∀(l:List (Int×Int)) (b:Nat) (M:Mt) (ps:List P),M.mode=mode→MI K I n (b+2*l.length) M ps→ ∃ps',MI K I n b (Q5b K.g l M).1 ps'∧(Q5b K.g l M).1.mode=mode
 |[],b,M,ps,hM,H=>⟨ps,H,hM⟩
 |x::l,b,M,ps,hM,H=>by
  rw[show b+2*(x::l).length=b+2*l.length+2 by rw[List.length_cons];omega]at H
  obtain⟨q,h3,h4⟩:=X4Y A h1 h2 hm hM H x.1 x.2
  exact Q6I A h1 h2 hm l b _ q h4 h3
end
def Q7e(g:Rn→Rn)(L:List Int)(n:Nat)(mode:Int):Prop:=
 ∃(P:Type) (K:Q3D P) (I:Nat→List P→(Nat→Int)→Prop) (N V C:Nat) (nw nv:P→Nat) (cp:(Nat→Int)→Nat→P→Nat),K.g=g∧K.All n mode I N V C nw nv cp∧
  (n≤8→n*((C+1)*N+2*n*V)+2*n+C<2*n*(8*n+40))∧ ∀B,B≤100000→ ∃ps,MI K I n B (Mt.start n mode L) ps
end Go.Proofs.YthnimpkoidablaaGreat.Z
