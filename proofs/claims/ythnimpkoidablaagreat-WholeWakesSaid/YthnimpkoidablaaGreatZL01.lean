import Derived.Test.YthnimpkoidablaaGreatZL00
import Derived.Test.YthnimpkoidablaaGreatZB03
set_option linter.unusedVariables false
set_option linter.unusedSimpArgs false
namespace Go.Proofs.YthnimpkoidablaaGreat.Z
open Go.RowKit
def mx:Nat→(Nat→Nat)→Nat
 |0,_=>0
 |n+1,f=>max (mx n f) (f n)
theorem Y6n{f g:Nat→Nat}: ∀n,(∀j,j<n→f j≤g j)→sm n f≤sm n g
 |0,_=>Nat.le_refl _
 |n+1,h=>by
  have:=Y6n n (fun j hj=>h j (by omega))
  have:=h n (by omega)
  unfold sm
  omega
theorem X7d{f g:Nat→Nat}: ∀n,(∀j,j<n→f j=g j)→sm n f=sm n g
 |0,_=>rfl
 |n+1,h=>by
  have:=X7d n (fun j hj=>h j (by omega))
  have:=h n (by omega)
  unfold sm
  omega
theorem Y1Y{f g:Nat→Nat}{i:Nat}: ∀n,i<n→(∀j,j<n→j≠i→f j=g j)→sm n f+g i=sm n g+f i
 |0,h,_=>by omega
 |n+1,h,hh=>by
  unfold sm
  by_cases e:i=n
  ·subst e
   have:=X7d (f:=f) (g:=g) i (fun j hj=>hh j (by omega) (by omega))
   omega
  ·have:=Y1Y n (by omega) (fun j hj hji=>hh j (by omega) hji)
   have:=hh n (by omega) (fun h=>e h.symm)
   omega
theorem Y0j(n c:Nat):sm n (fun _=>c)=n*c:=by
 induction n with
 |zero=>simp[sm]
 |succ n ih=>unfold sm;rw[ih,Nat.succ_mul]
theorem Q7O{f:Nat→Nat}{b:Nat}: ∀n,(∀j,j<n→f j≤b)→mx n f≤b
 |0,_=>Nat.zero_le _
 |n+1,h=>by
  have:=Q7O n (fun j hj=>h j (by omega))
  have:=h n (by omega)
  unfold mx
  omega
theorem Q9l{f:Nat→Nat}{j:Nat}: ∀n,j<n→f j≤mx n f
 |0,h=>by omega
 |n+1,h=>by
  unfold mx
  by_cases e:j=n
  ·subst e;omega
  ·have:=Q9l (f:=f) (j:=j) n (by omega)
   omega
section
variable {P:Type}{K:Q3D P}{I:Nat→List P→(Nat→Int)→Prop}{n b:Nat}{M:Mt}{ps:List P}{N V C:Nat}{nw nv:P→Nat}{cp:(Nat→Int)→Nat→P→Nat}{i:Nat}{f:Fr}{h:Int}{p:P}
theorem Q9J(G:K.Good n M.mode)(Kp:K.Q5D n I)(Lv:K.Live n I N V C nw nv cp)(h1:1≤n)(h2:n≤64)(hm:M.mode=1∨M.mode=2)(H:MI K I n (b+2) M ps)(hi:i<n)(op:Int):
 ∃ps',MI K I n b (M.Q5A K.g i op) ps':=by
 unfold Mt.Q5A
 by_cases hop:(M.fs.getD i Fr.zero).op=0
 ·rw[if_pos hop]
  by_cases hmay:Q6T op (M.hold.getD i 0)=true
  ·rw[if_pos hmay,←X4a (f0:=Q4h op) (h0:=Q0w op (M.hold.getD i 0))]
   have H0:=H.begins G Kp hi hop hmay
   have hne:op≠0:=by
    rintro rfl
    unfold Q6T at hmay
    repeat' split at hmay
    all_goals simp at hmay
   obtain⟨o1,o2,o3,o4⟩:=Q3L (K:=K) (f':=Q4h op) (h':=Q0w op (M.hold.getD i 0)) (p':=K.start op (M.hold.getD i 0)) (L':=M.L) (M:=M) (ps:=ps) (i:=i) (by have:=H.fsl;omega) (by have:=H.hol;omega) (by have:=H.psl;omega)
   obtain⟨ps',h3,_⟩:=Q7Z (M:=M.put i (Q4h op) (Q0w op (M.hold.getD i 0)) M.L) G Kp Lv h1 h2 hm H0 hi (by rw[o2];exact hne)
   rw[o2,o3]at h3
   exact⟨ps',h3⟩
  ·rw[if_neg hmay]
   exact⟨ps,(H.weaken Kp).weaken Kp⟩
 ·rw[if_neg hop]
  obtain⟨ps',h3,_⟩:=Q7Z G Kp Lv h1 h2 hm (H.weaken Kp) hi hop
  exact⟨ps',h3⟩
def Q5N(K:Q3D P)(cp:(Nat→Int)→Nat→P→Nat)(n:Nat)(M:Mt)(ps:List P)(j:Nat):Nat:=Q5G K cp (Q0j n M.L) M.mode j (M.fs.getD j Fr.zero) (ps.getD j (K.idle 0)) (M.L.getD (8+3*n+j) 0)
def Q3i(n:Nat)(M:Mt)(j:Nat):Nat:=Q3d n (M.fs.getD j Fr.zero)
def aM(K:Q3D P)(n C:Nat)(nw nv:P→Nat)(ps:List P):Nat:=sm n (fun j=>(C+1)*nw (ps.getD j (K.idle 0))+2*n*nv (ps.getD j (K.idle 0)))
def bM(n:Nat)(M:Mt):Nat:=mx n (Q3i n M)
def dM(K:Q3D P)(cp:(Nat→Int)→Nat→P→Nat)(n C:Nat)(M:Mt)(ps:List P):Nat:=if 0<bM n M then C else mx n (Q5N K cp n M ps)
def phi(K:Q3D P)(nw nv:P→Nat)(cp:(Nat→Int)→Nat→P→Nat)(n C:Nat)(M:Mt)(ps:List P):Nat:=aM K n C nw nv ps+bM n M+dM K cp n C M ps
theorem X7Y(G:K.Good n M.mode)(Kp:K.Q5D n I)(Lv:K.Live n I N V C nw nv cp)(hholds: ∀b ps m i h,I b ps m→i<n→ps.length=n→ps.getD i (K.idle 0)=K.idle h→h=0∨h=1∨h=2)
 (hiw: ∀t h,K.wait t (K.idle h)=none) (h1:1≤n) (h2:n≤64) (hm:M.mode=1∨M.mode=2) (H:MI K I n (b+2) M ps) (hi:i<n):
 ∃ps',MI K I n b (M.Q5A K.g i (2*M.hold.getD i 0)) ps'∧Went K n nw nv cp M ps i (M.Q5A K.g i (2*M.hold.getD i 0)) ps':=by
 unfold Mt.Q5A
 by_cases hop:(M.fs.getD i Fr.zero).op=0
 ·rw[if_pos hop]
  obtain⟨e1,e2⟩:=(H.abs i hi).idle G hop
  have hl0:Q3d n (M.fs.getD i Fr.zero)=0:=by rw[e1];rfl
  have hpot:Q5G K cp (Q0j n M.L) M.mode i (M.fs.getD i Fr.zero) (ps.getD i (K.idle 0)) (M.L.getD (8+3*n+i) 0)=cp (Q0j n M.L) i (K.idle (M.hold.getD i 0)):=by
   unfold Q5G
   rw[e1,e2,hiw]
   rfl
  rcases hholds _ ps _ i _ H.inv hi H.psl e2 with h0|h3
  ·rw[if_neg (by rw[h0];decide)]
   refine⟨ps,(H.weaken Kp).weaken Kp,⟨rfl,rfl⟩,fun j _=>⟨rfl,rfl,rfl⟩,Or.inr (Or.inr ⟨hl0,hl0,rfl,Nat.le_refl _,Nat.le_refl _,fun _ _ _=>rfl,Or.inr (Or.inl ?_)⟩)⟩
   rw[hpot,h0,Lv.rests]
   exact⟨rfl,rfl⟩
  ·have hmay:Q6T (2*M.hold.getD i 0) (M.hold.getD i 0)=true:=by rcases h3 with h|h<;>rw[h]<;>decide
   have hg:=Lv.gives (Q0j n M.L) i (M.hold.getD i 0) h3
   have hsw:=G.start_wait i _ _ hmay
   rw[if_pos hmay,←X4a (f0:=Q4h (2*M.hold.getD i 0)) (h0:=Q0w (2*M.hold.getD i 0) (M.hold.getD i 0))]
   have H0:=H.begins G Kp hi hop hmay
   obtain⟨o1,o2,o3,o4⟩:=Q3L (K:=K) (f':=Q4h (2*M.hold.getD i 0)) (h':=Q0w (2*M.hold.getD i 0) (M.hold.getD i 0)) (p':=K.start (2*M.hold.getD i 0) (M.hold.getD i 0)) (L':=M.L) (M:=M) (ps:=ps) (i:=i) (by have:=H.fsl;omega) (by have:=H.hol;omega) (by have:=H.psl;omega)
   obtain⟨ps',h4,h5,h6,h7⟩:=Q7Z (M:=M.put i (Q4h (2*M.hold.getD i 0)) (Q0w (2*M.hold.getD i 0) (M.hold.getD i 0)) M.L) G Kp Lv h1 h2 hm H0 hi (by rw[o2];show 2*M.hold.getD i 0≠0;omega)
   rw[o2,o3]at h4 h5 h6 h7
   rw[o4]at h7
   refine⟨ps',h4,⟨h5.1.trans rfl,h5.2.trans rfl⟩,fun j hj=> ?_,?_⟩
   ·obtain⟨g1,g2,g3⟩:=h6 j hj
    obtain⟨k1,k2,k3⟩:=o1 j hj
    exact⟨g1.trans k1,g2.trans k2,g3.trans k3⟩
   ·have hlz:Q3d n (Q4h (2*M.hold.getD i 0))=0:=rfl
    have hpz:Q5G K cp (Q0j n M.L) M.mode i (Q4h (2*M.hold.getD i 0)) (K.start (2*M.hold.getD i 0) (M.hold.getD i 0)) (M.L.getD (8+3*n+i) 0)=cp (Q0j n M.L) i (K.start (2*M.hold.getD i 0) (M.hold.getD i 0)):=by
     unfold Q5G
     rw[hsw]
     rfl
    rw[hpot,e2]
    rcases h7 with⟨k1,_⟩|⟨k1,k2,k3⟩|⟨k1,k2,k3,k4,k5,k6,k7⟩
    ·rw[hlz]at k1
     exact absurd k1 (by decide)
    ·exact Or.inr (Or.inl ⟨hl0,by omega,by omega⟩)
    ·refine Or.inr (Or.inr ⟨hl0,k2,k3,by omega,by omega,k6,?_⟩)
     rcases k7 with k7|⟨k7,k8⟩|⟨j,k8,k9⟩
     ·left
      have k7:_+1≤Q5G K cp (Q0j n M.L) M.mode i (Q4h (2*M.hold.getD i 0)) (K.start (2*M.hold.getD i 0) (M.hold.getD i 0)) (M.L.getD (8+3*n+i) 0):=k7
      rw[hpz]at k7
      exact Nat.le_trans k7 hg.2.2
     ·have k7:Q5G K cp (Q0j n M.L) M.mode i _ _ _=0:=k7
      rcases Nat.eq_zero_or_pos (cp (Q0j n M.L) i (K.idle (M.hold.getD i 0)))with hz|hz
      ·exact Or.inr (Or.inl ⟨k7,hz⟩)
      ·left
       rw[k7]
       exact hz
     ·right;right
      by_cases e:j=i
      ·subst e
       rw[o2]at k9
       cases k9
      ·rw[(o1 j e).1]at k9
       exact⟨j,k8,k9⟩
 ·rw[if_neg hop]
  exact Q7Z G Kp Lv h1 h2 hm (H.weaken Kp) hi hop
theorem Y0S(hn: ∀{M':Mt},M'.mode=M.mode→True){M':Mt}{ps':List P}{j:Nat}(e1:M'.mode=M.mode)(e2:Q0j n M'.L=Q0j n M.L)(e3:M'.fs.getD j Fr.zero=M.fs.getD j Fr.zero)(e4:ps'.getD j (K.idle 0)=ps.getD j (K.idle 0))(e5:M'.L.getD (8+3*n+j) 0=M.L.getD (8+3*n+j) 0):
 Q5N K cp n M' ps' j=Q5N K cp n M ps j:=by
 unfold Q5N
 rw[e1,e2,e3,e4,e5]
theorem X9R(Lv:K.Live n I N V C nw nv cp)(hi:i<n){M':Mt}{ps':List P}(G':Q5F K n M'.mode i (M'.fs.getD i Fr.zero) (M'.hold.getD i 0) (ps'.getD i (K.idle 0)))(hle: ∀f:Fr,Q3d n f≤2*n)(W:Went K n nw nv cp M ps i M' ps'):
 phi K nw nv cp n C M' ps'+1≤phi K nw nv cp n C M ps∨
 (aM K n C nw nv ps'≤aM K n C nw nv ps∧(∀j,j≠i→Q3i n M' j=Q3i n M j)∧
  ((0<Q3i n M i∧Q3i n M' i+1≤Q3i n M i)∨
   (Q3i n M i=0∧Q3i n M' i=0∧Q0j n M'.L=Q0j n M.L∧(∀j,j<n→j≠i→Q5N K cp n M' ps' j=Q5N K cp n M ps j)∧
    (Q5N K cp n M' ps' i+1≤Q5N K cp n M ps i∨(Q5N K cp n M' ps' i=0∧Q5N K cp n M ps i=0)∨ ∃j,j<n∧(M.fs.getD j Fr.zero).wk.on=true)))):=by
 obtain⟨⟨_,hmode⟩,hoth,hk⟩:=W
 have hlo: ∀j,j≠i→Q3i n M' j=Q3i n M j:=fun j hj=>by unfold Q3i;rw[(hoth j hj).1]
 have hone:aM K n C nw nv ps'+((C+1)*nw (ps.getD i (K.idle 0))+2*n*nv (ps.getD i (K.idle 0)))=aM K n C nw nv ps+((C+1)*nw (ps'.getD i (K.idle 0))+2*n*nv (ps'.getD i (K.idle 0))):=
  Y1Y (f:=fun j=>(C+1)*nw (ps'.getD j (K.idle 0))+2*n*nv (ps'.getD j (K.idle 0))) (g:=fun j=>(C+1)*nw (ps.getD j (K.idle 0))+2*n*nv (ps.getD j (K.idle 0))) n hi (fun j _ hj=>by rw[(hoth j hj).2.2])
 rcases hk with⟨k1,k2,rfl,k4⟩|⟨k1,k2,k3⟩|⟨k1,k2,k3,k4,k5,k6,k7⟩
 ·exact Or.inr ⟨Nat.le_refl _,hlo,Or.inl ⟨k1,k2⟩⟩
 ·left
  generalize hu:(if 0<Q3d n (M'.fs.getD i Fr.zero)then 1 else 0)=u at k3
  have hb:bM n M'≤bM n M+2*n*u:=by
   refine Q7O n (fun j hj=> ?_)
   by_cases e:j=i
   ·subst e
    by_cases h0:0<Q3d n (M'.fs.getD j Fr.zero)
    ·rw[if_pos h0]at hu
     subst hu
     have:=hle (M'.fs.getD j Fr.zero)
     unfold Q3i
     omega
    ·unfold Q3i
     omega
   ·rw[hlo j e]
    have:=Q9l (f:=Q3i n M) n hj
    unfold bM
    omega
  have hd:dM K cp n C M' ps'≤C:=by
   unfold dM
   split
   ·exact Nat.le_refl _
   ·exact Q7O n (fun j _=>X0u Lv)
  have e1:(C+1)*(nw (ps'.getD i (K.idle 0))+1)≤(C+1)*nw (ps.getD i (K.idle 0)):=Nat.mul_le_mul_left _ k2
  have e2:2*n*(nv (ps'.getD i (K.idle 0))+u)≤2*n*nv (ps.getD i (K.idle 0)):=Nat.mul_le_mul_left _ k3
  rw[Nat.mul_add]at e1 e2
  unfold phi
  omega
 ·right
  have e1:(C+1)*nw (ps'.getD i (K.idle 0))≤(C+1)*nw (ps.getD i (K.idle 0)):=Nat.mul_le_mul_left _ k4
  have e2:2*n*nv (ps'.getD i (K.idle 0))≤2*n*nv (ps.getD i (K.idle 0)):=Nat.mul_le_mul_left _ k5
  refine⟨by omega,hlo,Or.inr ⟨k1,k2,k3,fun j hj hji=> ?_,?_⟩⟩
  ·obtain⟨g1,g2,g3⟩:=hoth j hji
   exact Y0S (fun _=>trivial) hmode k3 g1 g3 (k6 j hj hji)
  ·unfold Q5N
   rw[hmode,k3]
   exact k7
end
structure Q3D.All{P:Type}(K:Q3D P)(n:Nat)(mode:Int)(I:Nat→List P→(Nat→Int)→Prop)(N V C:Nat)(nw nv:P→Nat)(cp:(Nat→Int)→Nat→P→Nat):Prop where
 good:K.Good n mode
 keeps:K.Q5D n I
 live:K.Live n I N V C nw nv cp
 holds: ∀b ps m i h,I b ps m→i<n→ps.length=n→ps.getD i (K.idle 0)=K.idle h→h=0∨h=1∨h=2
 excl: ∀b ps m i j,I b ps m→ps.length=n→i<n→j<n→j≠i→ps.getD i (K.idle 0)=K.idle 2→(K.conc (ps.getD j (K.idle 0))).2=0
 still: ∀t h,K.wait t (K.idle h)=none
section
variable {P:Type}{K:Q3D P}{I:Nat→List P→(Nat→Int)→Prop}{n b:Nat}{mode:Int}{M:Mt}{ps:List P}{N V C:Nat}{nw nv:P→Nat}{cp:(Nat→Int)→Nat→P→Nat}{i:Nat}{f:Fr}{h:Int}{p:P}
theorem left_le(n:Nat)(f:Fr):Q3d n f≤2*n:=by
 unfold Q3d
 split<;>omega
def Rest(n:Nat)(M:Mt):Prop:= ∀j,j<n→M.fs.getD j Fr.zero=Fr.zero∧M.hold.getD j 0=0
theorem rest_of(A:K.All n mode I N V C nw nv cp)(hM:M.mode=mode)(H:MI K I n b M ps)(hoff: ∀j,j<n→Q3i n M j=0)(hpot: ∀j,j<n→Q5N K cp n M ps j=0):Rest n M:=by
 have G:=A.good
 rw[←hM]at G
 have hwoff: ∀j,j<n→(M.fs.getD j Fr.zero).wk.on=true→(M.fs.getD j Fr.zero).wk.i<n→False:=fun j hj hk hlt=>by
  have:=hoff j hj
  unfold Q3i Q3d at this
  rw[if_pos hk]at this
  split at this<;>omega
 have hw: ∀j,j<n→ps.getD j (K.idle 0)=K.idle 0∨ ∃c pr,K.wait j (ps.getD j (K.idle 0))=some (c,pr)∧pr (Q0j n M.L c)=false:=by
  intro j hj
  have hp:=hpot j hj
  unfold Q5N Q5G at hp
  split at hp
  ·omega
  split at hp
  ·rename_i c pr hw
   cases hpr:pr (Q0j n M.L c)with
   |true=>
    rw[hpr]at hp
    have:=A.live.wait_yes _ _ _ _ _ hw hpr
    simp only[if_true]at hp
    omega
   |false=>exact Or.inr ⟨c,pr,hw,hpr⟩
  ·rename_i hw
   exact Or.inl (A.live.zero _ _ _ hw hp)
 have hid:=A.live.free _ ps _ H.inv H.psl hw
 intro j hj
 have ha:=H.abs j hj
 have hpj:=hid j hj
 have hp:=hpot j hj
 obtain⟨f,hf⟩: ∃f,M.fs.getD j Fr.zero=f:=⟨_,rfl⟩
 obtain⟨h,hh⟩: ∃h,M.hold.getD j 0=h:=⟨_,rfl⟩
 have hwo:=hwoff j hj
 rw[hf]at hwo
 unfold Q5N at hp
 rw[hpj,hf]at hp
 rw[hf,hh,hpj]at ha
 rw[hf,hh]
 generalize hq:K.idle 0=q0 at ha
 cases ha with
 |plain=>
  subst hq
  rw[G.idle_conc]
  exact⟨rfl,rfl⟩
 |waking _ k _ hk _ hlt _ _=>exact absurd (hwo hk hlt) id
 |staged _ c pr st _ _ hw2 _=>
  subst hq
  rw[A.still]at hw2
  cases hw2
 |seen q c pr v _ _ hw2 _=>
  unfold Q5G at hp
  rw[if_pos rfl]at hp
  omega
 |over _ _ _ hk _ hlt _ _=>exact absurd (hwo hk hlt) id
theorem X7E(H:Rest n M)(hi:i<n){g:Rn→Rn}:M.Q5A g i (2*M.hold.getD i 0)=M:=by
 obtain⟨e1,e2⟩:=H i hi
 unfold Mt.Q5A
 rw[e1,e2,if_pos (show Fr.zero.op=0 from rfl),if_neg (by decide)]
theorem Q8q(H:Rest n M){g:Rn→Rn}: ∀t,t≤n→Q2g g M t=M
 |0,_=>rfl
 |t+1,ht=>by
  unfold Q2g
  rw[Q8q H t (by omega)]
  exact X7E H (by omega)
theorem X4F(A:K.All n mode I N V C nw nv cp)(h1:1≤n)(h2:n≤64)(hm:mode=1∨mode=2)(hM:M.mode=mode)(H:MI K I n (b+2*n) M ps):
 ∃ps',MI K I n b (Q2g K.g M n) ps'∧(Q2g K.g M n).mode=mode∧(phi K nw nv cp n C (Q2g K.g M n) ps'+1≤phi K nw nv cp n C M ps∨Rest n M):=by
 have key: ∀t,t≤n→ ∃ps',MI K I n (b+2*(n-t)) (Q2g K.g M t) ps'∧(Q2g K.g M t).mode=mode∧(phi K nw nv cp n C (Q2g K.g M t) ps'+1≤phi K nw nv cp n C M ps∨
  (aM K n C nw nv ps'≤aM K n C nw nv ps∧phi K nw nv cp n C (Q2g K.g M t) ps'≤phi K nw nv cp n C M ps∧
   (0<bM n M→(∀j,j<t→Q3i n (Q2g K.g M t) j+1≤bM n M)∧ ∀j,t≤j→j<n→Q3i n (Q2g K.g M t) j=Q3i n M j)∧
   (bM n M=0→(∀j,j<n→Q3i n (Q2g K.g M t) j=0)∧(∀j,j<t→Q5N K cp n (Q2g K.g M t) ps' j+1≤Q5N K cp n M ps j∨(Q5N K cp n (Q2g K.g M t) ps' j=0∧Q5N K cp n M ps j=0))∧
    ∀j,t≤j→j<n→Q5N K cp n (Q2g K.g M t) ps' j=Q5N K cp n M ps j))):=by
  intro t
  induction t with
  |zero=>
   intro _
   refine⟨ps,H,hM,Or.inr ⟨Nat.le_refl _,Nat.le_refl _,fun hb=>⟨fun j hj=>by omega,fun j _ _=>rfl⟩,fun hb=>⟨fun j hj=> ?_,fun j hj=>by omega,fun j _ _=>rfl⟩⟩⟩
   have:=Q9l (f:=Q3i n M) n hj
   unfold bM at hb
   show Q3i n M j=0
   omega
  |succ t ih=>
   intro ht
   obtain⟨q,hq,hmode,hor⟩:=ih (by omega)
   rw[show b+2*(n-t)=b+2*(n-(t+1))+2 by omega]at hq
   have htn:t<n:=by omega
   show∃ps',MI K I n (b+2*(n-(t+1))) ((Q2g K.g M t).Q5A K.g t (2*(Q2g K.g M t).hold.getD t 0)) ps'∧((Q2g K.g M t).Q5A K.g t (2*(Q2g K.g M t).hold.getD t 0)).mode=mode∧(phi K nw nv cp n C ((Q2g K.g M t).Q5A K.g t (2*(Q2g K.g M t).hold.getD t 0)) ps'+1≤phi K nw nv cp n C M ps∨
    (aM K n C nw nv ps'≤aM K n C nw nv ps∧phi K nw nv cp n C ((Q2g K.g M t).Q5A K.g t (2*(Q2g K.g M t).hold.getD t 0)) ps'≤phi K nw nv cp n C M ps∧
     (0<bM n M→(∀j,j<t+1→Q3i n ((Q2g K.g M t).Q5A K.g t (2*(Q2g K.g M t).hold.getD t 0)) j+1≤bM n M)∧ ∀j,t+1≤j→j<n→Q3i n ((Q2g K.g M t).Q5A K.g t (2*(Q2g K.g M t).hold.getD t 0)) j=Q3i n M j)∧
     (bM n M=0→(∀j,j<n→Q3i n ((Q2g K.g M t).Q5A K.g t (2*(Q2g K.g M t).hold.getD t 0)) j=0)∧(∀j,j<t+1→Q5N K cp n ((Q2g K.g M t).Q5A K.g t (2*(Q2g K.g M t).hold.getD t 0)) ps' j+1≤Q5N K cp n M ps j∨(Q5N K cp n ((Q2g K.g M t).Q5A K.g t (2*(Q2g K.g M t).hold.getD t 0)) ps' j=0∧Q5N K cp n M ps j=0))∧
      ∀j,t+1≤j→j<n→Q5N K cp n ((Q2g K.g M t).Q5A K.g t (2*(Q2g K.g M t).hold.getD t 0)) ps' j=Q5N K cp n M ps j)))
   generalize Q2g K.g M t=Mt1 at hq hmode hor⊢
   have G:=A.good
   rw[←hmode]at G
   obtain⟨q',h3,W⟩:=X7Y (M:=Mt1) G A.keeps A.live A.holds A.still h1 h2 (by rw[hmode];exact hm) hq htn
   have hW:=X9R A.live htn (h3.abs t htn) (left_le n) W
   refine⟨q',h3,W.num.2.trans hmode,?_⟩
   generalize Mt1.Q5A K.g t (2*Mt1.hold.getD t 0)=Mt2 at h3 W hW⊢
   have mono:phi K nw nv cp n C Mt2 q'≤phi K nw nv cp n C Mt1 q:=by
    rcases hW with h4|⟨h4,h5,h6⟩
    ·omega
    ·have hb:bM n Mt2≤bM n Mt1:=by
      refine Q7O n (fun j hj=> ?_)
      have h9:=Q9l (f:=Q3i n Mt1) n hj
      unfold bM
      by_cases e:j=t
      ·subst e
       rcases h6 with⟨_,h7⟩|⟨_,h7,_⟩<;>omega
      ·rw[h5 j e];exact h9
     have hd:dM K cp n C Mt2 q'≤dM K cp n C Mt1 q:=by
      unfold dM
      have hC: ∀(M3:Mt) (q3:List P),(if 0<bM n M3 then C else mx n (Q5N K cp n M3 q3))≤C:=fun M3 q3=>by
       split
       ·exact Nat.le_refl _
       ·exact Q7O n (fun j _=>X0u A.live)
      by_cases hb0:0<bM n Mt1
      ·rw[if_pos hb0];exact hC Mt2 q'
      ·rw[if_neg hb0,if_neg (by omega)]
       refine Q7O n (fun j hj=> ?_)
       have h9:=Q9l (f:=Q5N K cp n Mt1 q) n hj
       have hl:=fun j (hj:j<n)=>Q9l (f:=Q3i n Mt1) n hj
       unfold bM at hb0
       rcases h6 with⟨h7,_⟩|⟨_,_,_,h8,h10⟩
       ·have:=hl t htn;omega
       ·by_cases e:j=t
        ·subst e
         rcases h10 with h10|⟨h10,_⟩|⟨u,hu,h10⟩
         ·omega
         ·omega
         ·have h11:=hl u hu
          have h12:=(hq.abs u hu)
          exfalso
          have:0<Q3i n Mt1 u:=by
           unfold Q3i
           generalize Mt1.fs.getD u Fr.zero=f at h10 h12
           generalize Mt1.hold.getD u 0=hh at h12
           generalize q.getD u (K.idle 0)=pp at h12
           cases h12 with
           |plain=>rw[(G.plain pp).2.1]at h10;cases h10
           |waking _ k _ hk h0 hlt _ _=>exact Q6W hk h0 hlt rfl
           |staged _ c pr st _ _ hw2 _=>rw[show({(K.conc pp).1 with st:=st}:Fr).wk=(K.conc pp).1.wk from rfl,(G.plain pp).2.1]at h10;cases h10
           |seen q c pr v _ _ hw2 _=>rw[show({(K.conc q).1 with a:=K.keep q v,st:=4}:Fr).wk=(K.conc q).1.wk from rfl,(G.plain q).2.1]at h10;cases h10
           |over _ _ _ hk h0 hlt _ _=>exact Q6W hk h0 hlt rfl
          omega
        ·rw[h8 j hj e];exact h9
     unfold phi
     omega
   rcases hor with h4|⟨h4,h5,h6,h7⟩
   ·left;omega
   ·rcases hW with h8|⟨h8,h9,h10⟩
    ·left;omega
    ·right
     refine⟨by omega,by omega,fun hb=> ?_,fun hb=> ?_⟩
     ·obtain⟨k1,k2⟩:=h6 hb
      refine⟨fun j hj=> ?_,fun j hj hjn=> ?_⟩
      ·by_cases e:j=t
       ·subst e
        have h11:=k2 j (Nat.le_refl _) htn
        have h12:=Q9l (f:=Q3i n M) n htn
        unfold bM at hb⊢
        rcases h10 with⟨_,h10⟩|⟨_,h10,_⟩<;>omega
       ·rw[h9 j e];exact k1 j (by omega)
      ·rw[h9 j (by omega)];exact k2 j (by omega) hjn
     ·obtain⟨k1,k2,k3⟩:=h7 hb
      rcases h10 with⟨h10,_⟩|⟨_,h11,h12,h13,h14⟩
      ·have:=k1 t htn;omega
      ·refine⟨fun j hj=> ?_,fun j hj=> ?_,fun j hj hjn=> ?_⟩
       ·by_cases e:j=t
        ·subst e;exact h11
        ·rw[h9 j e];exact k1 j hj
       ·by_cases e:j=t
        ·subst e
         rw[←k3 j (Nat.le_refl _) htn]
         rcases h14 with h14|h14|⟨u,hu,h14⟩
         ·exact Or.inl h14
         ·exact Or.inr h14
         ·exfalso
          have h15:=k1 u hu
          have h12:=(hq.abs u hu)
          have:0<Q3i n Mt1 u:=by
           unfold Q3i
           generalize Mt1.fs.getD u Fr.zero=f at h14 h12
           generalize Mt1.hold.getD u 0=hh at h12
           generalize q.getD u (K.idle 0)=pp at h12
           cases h12 with
           |plain=>rw[(G.plain pp).2.1]at h14;cases h14
           |waking _ k _ hk h0 hlt _ _=>exact Q6W hk h0 hlt rfl
           |staged _ c pr st _ _ hw2 _=>rw[show({(K.conc pp).1 with st:=st}:Fr).wk=(K.conc pp).1.wk from rfl,(G.plain pp).2.1]at h14;cases h14
           |seen q c pr v _ _ hw2 _=>rw[show({(K.conc q).1 with a:=K.keep q v,st:=4}:Fr).wk=(K.conc q).1.wk from rfl,(G.plain q).2.1]at h14;cases h14
           |over _ _ _ hk h0 hlt _ _=>exact Q6W hk h0 hlt rfl
          omega
        ·rw[h13 j (by omega) e];exact k2 j (by omega)
       ·rw[h13 j hjn (by omega)];exact k3 j (by omega) hjn
 obtain⟨ps',h3,hmode,h4⟩:=key n (Nat.le_refl _)
 rw[Nat.sub_self]at h3
 refine⟨ps',h3,hmode,?_⟩
 rcases h4 with h4|⟨h4,h5,h6,h7⟩
 ·exact Or.inl h4
 ·have hC:dM K cp n C (Q2g K.g M n) ps'≤C:=by
   unfold dM
   split
   ·exact Nat.le_refl _
   ·exact Q7O n (fun j _=>X0u A.live)
  by_cases hb:0<bM n M
  ·left
   obtain⟨k1,_⟩:=h6 hb
   have:bM n (Q2g K.g M n)+1≤bM n M:=by
    have:bM n (Q2g K.g M n)≤bM n M-1:=Q7O n (fun j hj=>by have:=k1 j hj;omega)
    omega
   have hd:dM K cp n C M ps=C:=by unfold dM;rw[if_pos hb]
   unfold phi
   omega
  ·obtain⟨k1,k2,_⟩:=h7 (by omega)
   have hb2:bM n (Q2g K.g M n)=0:=by
    have:bM n (Q2g K.g M n)≤0:=Q7O n (fun j hj=>by have:=k1 j hj;omega)
    omega
   have hd:dM K cp n C M ps=mx n (Q5N K cp n M ps):=by unfold dM;rw[if_neg hb]
   have hd2:dM K cp n C (Q2g K.g M n) ps'=mx n (Q5N K cp n (Q2g K.g M n) ps'):=by unfold dM;rw[if_neg (by omega)]
   by_cases hz:0<mx n (Q5N K cp n M ps)
   ·left
    have:mx n (Q5N K cp n (Q2g K.g M n) ps')≤mx n (Q5N K cp n M ps)-1:=Q7O n (fun j hj=>by
     have h9:=Q9l (f:=Q5N K cp n M ps) n hj
     rcases k2 j hj with h8|⟨h8,_⟩<;>omega)
    unfold phi
    omega
   ·right
    refine rest_of A hM H (fun j hj=> ?_) (fun j hj=> ?_)
    ·have:=Q9l (f:=Q3i n M) n hj
     unfold bM at hb
     omega
    ·have:=Q9l (f:=Q5N K cp n M ps) n hj
     omega
theorem Q6t(A:K.All n mode I N V C nw nv cp)(h1:1≤n)(h2:n≤64)(hm:mode=1∨mode=2)(hM:M.mode=mode){B:Nat}(H:MI K I n B M ps): ∀r b,b+2*n*r=B→ ∃ps',MI K I n b (Q2v K.g n M r) ps'∧(Q2v K.g n M r).mode=mode∧(phi K nw nv cp n C (Q2v K.g n M r) ps'+r≤phi K nw nv cp n C M ps∨Rest n (Q2v K.g n M r))
 |0,b,hb=>⟨ps,by have:b=B:=by simpa using hb
                 rw[this];exact H,hM,Or.inl (Nat.le_refl _)⟩
 |r+1,b,hb=>by
  obtain⟨q,h3,h4,h5⟩:=Q6t A h1 h2 hm hM H r (b+2*n) (by rw[←hb,Nat.mul_add];omega)
  obtain⟨q',h6,h7,h8⟩:=X4F A h1 h2 hm h4 h3
  refine⟨q',h6,h7,?_⟩
  show _∨Rest n (Q2g K.g (Q2v K.g n M r) n)
  rcases h5 with h5|h5
  ·rcases h8 with h8|h8
   ·left
    show phi K nw nv cp n C (Q2g K.g (Q2v K.g n M r) n) q'+(r+1)≤_
    omega
   ·right
    rw[Q8q h8 n (Nat.le_refl _)]
    exact h8
  ·right
   rw[Q8q h5 n (Nat.le_refl _)]
   exact h5
theorem Y2k(A:K.All n mode I N V C nw nv cp):phi K nw nv cp n C M ps≤n*((C+1)*N+2*n*V)+2*n+C:=by
 have e1:aM K n C nw nv ps≤n*((C+1)*N+2*n*V):=by
  rw[←Y0j]
  refine Y6n n (fun j _=> ?_)
  exact Nat.add_le_add (Nat.mul_le_mul_left _ (A.live.nwle _)) (Nat.mul_le_mul_left _ (A.live.nvle _))
 have e2:bM n M≤2*n:=Q7O n (fun j _=>left_le n _)
 have e3:dM K cp n C M ps≤C:=by
  unfold dM
  split
  ·exact Nat.le_refl _
  ·exact Q7O n (fun j _=>X0u A.live)
 unfold phi
 omega
theorem Q3x(A:K.All n mode I N V C nw nv cp)(L:List Int)(hL:L.length=8+4*n)(hI:I b (List.replicate n (K.idle 0)) (Q0j n L)):MI K I n b (Mt.start n mode L) (List.replicate n (K.idle 0)):=X7c A.good A.still L hL hI
end
section
variable {P:Type}{K:Q3D P}{I:Nat→List P→(Nat→Int)→Prop}{n b:Nat}{mode:Int}{M:Mt}{ps:List P}{N V C:Nat}{nw nv:P→Nat}{cp:(Nat→Int)→Nat→P→Nat}
theorem X4Y(A:K.All n mode I N V C nw nv cp)(h1:1≤n)(h2:n≤64)(hm:mode=1∨mode=2)(hM:M.mode=mode)(H:MI K I n (b+2) M ps)(t op:Int): ∃ps',MI K I n b (M.Q3R K.g t op).1 ps'∧(M.Q3R K.g t op).1.mode=mode:=by
 by_cases hin:0≤t∧t<(M.fs.length:Int)
 ·obtain⟨i,rfl⟩: ∃i:Nat,t=i:=⟨t.toNat,by omega⟩
  have G:=A.good
  rw[←hM]at G
  have hi:i<n:=by have:=H.fsl;omega
  rw[Q9K (by omega) (by rw[H.hol,H.fsl])]
  obtain⟨q,hq⟩:=Q9J G A.keeps A.live h1 h2 (by rw[hM];exact hm) H hi op
  exact⟨q,hq,(Q5d K.g M _ _).2.1.trans hM⟩
 ·rw[X7Z hin]
  exact⟨ps,H.weak2 A.keeps,hM⟩
theorem Q6I(A:K.All n mode I N V C nw nv cp)(h1:1≤n)(h2:n≤64)(hm:mode=1∨mode=2): ∀(l:List (Int×Int)) (b:Nat) (M:Mt) (ps:List P),M.mode=mode→MI K I n (b+2*l.length) M ps→ ∃ps',MI K I n b (Q5b K.g l M).1 ps'∧(Q5b K.g l M).1.mode=mode
 |[],b,M,ps,hM,H=>⟨ps,H,hM⟩
 |x::l,b,M,ps,hM,H=>by
  rw[show b+2*(x::l).length=b+2*l.length+2 by rw[List.length_cons];omega]at H
  obtain⟨q,h3,h4⟩:=X4Y A h1 h2 hm hM H x.1 x.2
  exact Q6I A h1 h2 hm l b _ q h4 h3
structure X0L(n:Nat)(M:Mt):Prop where
 busy: ∃i,i<n∧(M.fs.getD i Fr.zero).op≠0
 stuck: ∀i,i<n→(M.fs.getD i Fr.zero).op≠0→M.Q3a i=true
 holds: ∀i,i<n→(M.fs.getD i Fr.zero).op=0→M.hold.getD i 0=0
theorem X8z(A:K.All n mode I N V C nw nv cp)(h1:1≤n)(h2:n≤64)(hm:mode=2)(hM:M.mode=mode)(H:MI K I n b M ps): ¬X0L n M:=by
 intro S
 have G:=A.good
 rw[←hM]at G
 have hst: ∀i,i<n→(M.fs.getD i Fr.zero).op≠0→(M.fs.getD i Fr.zero).wk.on=false∧(M.fs.getD i Fr.zero).st=3∧M.L.getD (8+3*n+i) 0=0:=by
  intro i hi hop
  have h:=S.stuck i hi hop
  unfold Mt.Q3a at h
  simp only[Bool.and_eq_true,Bool.not_eq_true']at h
  obtain⟨_,h3,h4⟩:=h
  refine⟨h3,?_⟩
  unfold Q2R Q1y Q6k ldA at h4
  simp only[Bool.and_eq_true,beq_iff_eq,Bool.not_eq_true',bne_eq_false_iff_eq]at h4
  obtain⟨h5,h6⟩:=h4
  have e3:cellP M.n 3 i=8+3*n+i:=by rw[H.num];exact Q1p h1 h2 (by omega) (by omega)
  rw[e3,if_pos ⟨by omega,by rw[H.len];omega⟩,show((8:Int)+3*n+i).toNat=8+3*n+i by omega]at h6
  split at h5
  ·exact⟨h5,h6⟩
  ·omega
 have hw: ∀i,i<n→((M.fs.getD i Fr.zero).op=0→ps.getD i (K.idle 0)=K.idle 0)∧((M.fs.getD i Fr.zero).op≠0→ ∃c pr,K.wait i (ps.getD i (K.idle 0))=some (c,pr)∧pr (Q0j n M.L c)=false):=by
  intro i hi
  refine⟨fun hop=> ?_,fun hop=> ?_⟩
  ·have:=((H.abs i hi).idle G hop).2
   rw[this,S.holds i hi hop]
  ·obtain⟨w1,w2,w3⟩:=hst i hi hop
   have hwt: ∃c pr,K.wait i (ps.getD i (K.idle 0))=some (c,pr):=by
    have ha:=H.abs i hi
    generalize ps.getD i (K.idle 0)=p at ha
    generalize M.hold.getD i 0=h at ha
    generalize M.fs.getD i Fr.zero=f at ha w1 w2 hop
    cases ha with
    |plain=>exact absurd w2 (by rw[(G.plain p).1];decide)
    |waking _ k h3 h4=>exact absurd w1 (by show¬(k.on=false);rw[h4];decide)
    |staged _ c pr st h3 h4 h5=>exact⟨c,pr,h5⟩
    |seen q c pr v=>exact absurd w2 (by show¬((4:Int)=3);decide)
    |over _ _ h3 h4 h5 h6 h7 h8 h9 h10=>exact absurd w2 (by rw[h10];decide)
   obtain⟨c,pr,hwt⟩:=hwt
   refine⟨c,pr,hwt,?_⟩
   cases hpr:pr (Q0j n M.L c)with
   |false=>rfl
   |true=>
    exfalso
    rcases H.woken i c pr hi hwt w2 hpr with h3|⟨j,hj,h3,_⟩
    ·exact h3 w3
    ·by_cases hoj:(M.fs.getD j Fr.zero).op=0
     ·have:=((H.abs j hj).idle G hoj).1
      rw[this]at h3
      cases h3
     ·have:=(hst j hj hoj).1
      rw[h3]at this
      cases this
 have hid:=A.live.free _ ps _ H.inv H.psl (fun i hi=>by
  by_cases hop:(M.fs.getD i Fr.zero).op=0
  ·exact Or.inl ((hw i hi).1 hop)
  ·exact Or.inr ((hw i hi).2 hop))
 obtain⟨i,hi,hop⟩:=S.busy
 obtain⟨c,pr,h3,_⟩:=(hw i hi).2 hop
 rw[hid i hi,A.still]at h3
 cases h3
end
def Q7e(g:Rn→Rn)(L:List Int)(n:Nat)(mode:Int):Prop:=
 ∃(P:Type) (K:Q3D P) (I:Nat→List P→(Nat→Int)→Prop) (N V C:Nat) (nw nv:P→Nat) (cp:(Nat→Int)→Nat→P→Nat),K.g=g∧K.All n mode I N V C nw nv cp∧
  (n≤8→n*((C+1)*N+2*n*V)+2*n+C<2*n*(8*n+40))∧ ∀B,B≤100000→ ∃ps,MI K I n B (Mt.start n mode L) ps
theorem X9S{g:Rn→Rn}{L:List Int}{n:Nat}(h:Q7e g L n 2)(h1:1≤n)(h2:n≤8)(l:List (Int×Int))(hl:l.length≤400):
 (∀j,j≤l.length→ ¬X0L n (Q5b g (l.take j) (Mt.start n 2 L)).1)∧
 ∀t,t<n→((Q2v g n (Q5b g l (Mt.start n 2 L)).1 (2*n*(8*n+40))).fs.getD t Fr.zero).op=0∧(Q2v g n (Q5b g l (Mt.start n 2 L)).1 (2*n*(8*n+40))).hold.getD t 0=0:=by
 obtain⟨P,K,I,N,V,C,nw,nv,cp,rfl,A,hfit,hst⟩:=h
 have hfit:=hfit h2
 have hB:2*n*(2*n*(8*n+40))≤30000:=by
  rcases(show n=1∨n=2∨n=3∨n=4∨n=5∨n=6∨n=7∨n=8 by omega)with rfl|rfl|rfl|rfl|rfl|rfl|rfl|rfl<;>decide
 obtain⟨ps,H⟩:=hst (2*n*(2*n*(8*n+40))+2*l.length) (by omega)
 constructor
 ·intro j hj
  have e:(l.take j).length=j:=by rw[List.length_take];omega
  obtain⟨q,h3,h4⟩:=Q6I A h1 (by omega) (Or.inr rfl) (l.take j) (2*n*(2*n*(8*n+40))+2*(l.length-j)) _ ps rfl (by rw[e];rw[show 2*n*(2*n*(8*n+40))+2*(l.length-j)+2*j=2*n*(2*n*(8*n+40))+2*l.length by omega];exact H)
  exact X8z A h1 (by omega) rfl h4 h3
 ·intro t ht
  obtain⟨q,h3,h4⟩:=Q6I A h1 (by omega) (Or.inr rfl) l (2*n*(2*n*(8*n+40))) _ ps rfl H
  obtain⟨q',h5,h6,h7⟩:=Q6t A h1 (by omega) (Or.inr rfl) h4 h3 (2*n*(8*n+40)) 0 (by omega)
  rcases h7 with h7|h7
  ·have:=Y2k (M:=(Q5b K.g l (Mt.start n 2 L)).1) (ps:=q) A
   omega
  ·obtain⟨e1,e2⟩:=h7 t ht
   rw[e1]
   exact⟨rfl,e2⟩
section
variable {P:Type}
theorem Y2I{f:P→Int}{d:P}{l:List P}{n:Nat}(hl:l.length=n)(h:ws f l≠0): ∃i,i<n∧f (l.getD i d)≠0:=by
 rcases Classical.em (∃i,i<n∧f (l.getD i d)≠0)with h1|h1
 ·exact h1
 ·exfalso
  refine h (Q5H (d:=d) hl (fun i hi=> ?_))
  rcases Decidable.em (f (l.getD i d)=0)with h2|h2
  ·exact h2
  ·exact absurd ⟨i,hi,h2⟩ h1
end
section
variable {l:List Ph}{x0 x1 ph Rin Rout:Int}{i:Nat}
theorem Q2u.free(H:Q2u l x0 x1 ph Rin Rout)(hb: ∀q,q∈l→q.inn=false∧q.up=false∧q.a2=false∧(q.rd=true→q.pd=true)∧(∀w,q.wt=some w→x0%4=w)∧(q.pd=true→ ∃a,q.sn=some a∧ ¬x1=(if q.rd then(a-256)%4294967296 else a))):
 ∀q,q∈l→q.wt=none∧q.pd=false:=by
 obtain⟨⟨s0,s1,s2,s3,s4,s5,s6,s7⟩,s8,s9⟩:=H.sums
 have one:=H.one
 have on:=H.on
 have off:=H.off
 have x1e:=H.x1
 have i0:ws wIn l=0:=Q6q (fun q hq=>by unfold wIn;rw[(hb q hq).1];rfl)
 have u0:ws wUp l=0:=Q6q (fun q hq=>by unfold wUp;rw[(hb q hq).2.1];rfl)
 have pd0:ws wPd l=0:=by
  rcases(show ws wPd l=0∨ws wPd l=1 by omega)with h|h
  ·exact h
  ·exfalso
   obtain⟨i,hi,hp⟩:=Y2I (d:=Ph.none) (f:=wPd) (l:=l) (n:=l.length) rfl (by omega)
   have QM:=Q0k (d:=Ph.none) hi
   have hpd:(l.getD i Ph.none).pd=true:=by
    unfold wPd at hp
    cases h:(l.getD i Ph.none).pd with
    |true=>rfl
    |false=>rw[h]at hp;exact absurd rfl hp
   obtain⟨a,ha,hne⟩:=(hb _ QM).2.2.2.2.2 hpd
   obtain⟨A,a1,a2⟩:=H.sn _ QM a ha
   have o0:ws (Q2Z ph) l=0:=Q6q (fun q hq=>by
    unfold Q2Z
    split
    ·rename_i hw
     have:=(hb q hq).2.2.2.2.1 _ hw
     omega
    ·rfl)
   have r1:ws wRd l=wRd (l.getD i Ph.none):=by
    have e:=Q0l (f:=wRd) (d:=Ph.none) (x:=Ph.none) hi
    have z:ws wRd (l.set i Ph.none)=0:=Q6q (fun q hq=>by
     rcases Q0i hi hq with rfl|⟨j,hj,hji,rfl⟩
     ·rfl
     ·have k1:=H.alone hi rfl ((H.ok _ QM).turn hpd) hj hji
      have hm:=Q0k (d:=Ph.none) hj
      unfold wRd
      cases hr:(l.getD j Ph.none).rd with
      |false=>rfl
      |true=>
       exfalso
       have k2:=(hb _ hm).2.2.2.1 hr
       have k3:=(H.ok _ hm).some
       have k4:=Q2l (l.getD j Ph.none)
       have k5:=Q2r (l.getD j Ph.none)
       have k6:=Q2s (l.getD j Ph.none)
       simp only[wHd,wPd,k1,k2,if_true,Bool.false_eq_true,if_false]at k3
       omega)
    have z0:wRd Ph.none=0:=rfl
    omega
   rw[o0,r1]at a2
   unfold wRd at a2
   cases hr:(l.getD i Ph.none).rd with
   |true=>
    rw[hr]at a2 hne
    simp only[if_true]at a2 hne
    exact hne (by omega)
   |false=>
    rw[hr]at a2 hne
    simp only[Bool.false_eq_true,if_false]at a2 hne
    exact hne (by omega)
 intro q hq
 constructor
 ·cases hw:q.wt with
  |none=>rfl
  |some w=>
   exfalso
   have h1:=(hb q hq).2.2.2.2.1 w hw
   have h2:=((H.ok q hq).wt w hw).1
   have h3:=off (by omega)
   omega
 ·cases hp:q.pd with
  |false=>rfl
  |true=>
   exfalso
   obtain⟨i,hi,rfl⟩:=List.getElem_of_mem hq
   have:=Q0m (d:=Ph.none) Q2Q hi
   unfold wPd at this
   rw[show l.getD i Ph.none=l[i]by simp[List.getD,hi],hp]at this
   have e:ws (fun q:Ph=>if q.pd=true then(1:Int)else 0) l=ws wPd l:=rfl
   simp only[if_true]at this
   omega
end
section
variable {n:Nat}{ks ks':Nat→Mk}{tail tail':Int}{nx nx' bl bl':Nat→Int}{Q:List Nat}{t:Nat}
theorem Q5z.free(H:Q5z n ks tail nx bl Q)(h: ∀i,i<n→(ks i).inq=false∨ks i= .hd∨(ks i= .e4∧bl i≠0)∨(ks i= .g2∧nx i=0)):Q=[]∨ ∃t r,Q=t::r∧t<n∧ks t= .hd:=by
 cases Q with
 |nil=>exact Or.inl rfl
 |cons x r=>
  right
  have hx:=H.lt x (by simp)
  have hin:=(H.inq x hx).1 (by simp)
  have hh:=H.hd
  rw[Q3N]at hh
  refine⟨x,r,rfl,hx,?_⟩
  rcases h x hx with g|g|⟨g,g2⟩|⟨g,g2⟩
  ·rw[hin]at g;cases g
  ·exact g
  ·exfalso
   rw[g]at hh
   rcases hh with h|h|⟨h,_⟩|⟨_,h,_⟩|⟨_,h⟩
   ·cases h
   ·cases h
   ·cases h
   ·cases h
   ·exact g2 h
  ·exfalso
   rw[g]at hh
   have hr:r≠[]:=by
    rcases hh with h|h|⟨_,h⟩|⟨_,h,_⟩|⟨h,_⟩
    ·cases h
    ·cases h
    ·exact h
    ·cases h
    ·cases h
   have ch:=H.ch
   cases r with
   |nil=>exact hr rfl
   |cons y r'=>
    obtain⟨c1,c2,c3⟩:=ch
    rcases c1 with⟨c1,_⟩|⟨_,c1⟩
    ·have hy:=H.lt y (by simp)
     rcases h y hy with k|k|⟨k,_⟩|⟨k,_⟩<;>rw[c1]at k<;>cases k
    ·omega
end
section
variable {P:Type}{n tc:Nat}{mk:P→Mk}{d p p':P}{ps:List P}{m m':Nat→Int}{i:Nat}
theorem QI.free(H:QI n tc mk d ps m)(h: ∀j,j<n→(mk (ps.getD j d)).inq=false∨mk (ps.getD j d)= .hd∨(mk (ps.getD j d)= .e4∧m (8+n+j)≠0)∨(mk (ps.getD j d)= .g2∧m (8+j)=0)):(∀j,j<n→(mk (ps.getD j d)).inq=false)∨ ∃t,t<n∧mk (ps.getD t d)= .hd:=by
 obtain⟨Q,H⟩:=H
 rcases H.free (fun j hj=>by rw[X5x hj,X5O hj];exact h j hj)with h|⟨t,r,_,h2,h3⟩
 ·left
  intro j hj
  have:=H.inq j hj
  rw[h]at this
  cases hk:(mk (ps.getD j d)).inq with
  |false=>rfl
  |true=>
   have h4:=this.2 hk
   cases h4
 ·exact Or.inr ⟨t,h2,h3⟩
end
end Go.Proofs.YthnimpkoidablaaGreat.Z
