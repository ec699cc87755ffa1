import Derived.Test.YthnimpkoidablaaGreatZX01
import Derived.Test.YthnimpkoidablaaGreatZB03
set_option linter.unusedVariables false
set_option linter.unusedSimpArgs false
namespace Go.Proofs.YthnimpkoidablaaGreat.Z
open Go.RowKit
section
variable {P:Type}
theorem Y2I{f:P→Int}{d:P}{l:List P}{n:Nat}(hl:l.length=n)(h:ws f l≠0): ∃i,i<n∧f (l.getD i d)≠0:=by
 rcases Classical.em (∃i,i<n∧f (l.getD i d)≠0)with h1|h1
 ·exact h1
 ·exfalso
  refine h (Q5H (d:=d) hl (fun i hi=> ?_))
  rcases Decidable.em (f (l.getD i d)=0)with h2|h2
  ·exact h2
  ·exact absurd ⟨i,hi,h2⟩ h1
end
section
variable {l:List Ph}{x0 x1 ph Rin Rout:Int}{i:Nat}
theorem Q2u.free(H:Q2u l x0 x1 ph Rin Rout)(hb: ∀q,q∈l→q.inn=false∧q.up=false∧q.a2=false∧(q.rd=true→q.pd=true)∧(∀w,q.wt=some w→x0%4=w)∧(q.pd=true→ ∃a,q.sn=some a∧ ¬x1=(if q.rd then(a-256)%4294967296 else a))):
 ∀q,q∈l→q.wt=none∧q.pd=false:=by
 obtain⟨⟨s0,s1,s2,s3,s4,s5,s6,s7⟩,s8,s9⟩:=H.sums
 have one:=H.one
 have on:=H.on
 have off:=H.off
 have x1e:=H.x1
 have i0:ws wIn l=0:=Q6q (fun q hq=>by unfold wIn;rw[(hb q hq).1];rfl)
 have u0:ws wUp l=0:=Q6q (fun q hq=>by unfold wUp;rw[(hb q hq).2.1];rfl)
 have pd0:ws wPd l=0:=by
  rcases(show ws wPd l=0∨ws wPd l=1 by omega)with h|h
  ·exact h
  ·exfalso
   obtain⟨i,hi,hp⟩:=Y2I (d:=Ph.none) (f:=wPd) (l:=l) (n:=l.length) rfl (by omega)
   have QM:=Q0k (d:=Ph.none) hi
   have hpd:(l.getD i Ph.none).pd=true:=by
    unfold wPd at hp
    cases h:(l.getD i Ph.none).pd with
    |true=>rfl
    |false=>rw[h]at hp;exact absurd rfl hp
   obtain⟨a,ha,hne⟩:=(hb _ QM).2.2.2.2.2 hpd
   obtain⟨A,a1,a2⟩:=H.sn _ QM a ha
   have o0:ws (Q2Z ph) l=0:=Q6q (fun q hq=>by
    unfold Q2Z
    split
    ·rename_i hw
     have:=(hb q hq).2.2.2.2.1 _ hw
     omega
    ·rfl)
   have r1:ws wRd l=wRd (l.getD i Ph.none):=by
    have e:=Q0l (f:=wRd) (d:=Ph.none) (x:=Ph.none) hi
    have z:ws wRd (l.set i Ph.none)=0:=Q6q (fun q hq=>by
     rcases Q0i hi hq with rfl|⟨j,hj,hji,rfl⟩
     ·rfl
     ·have k1:=H.alone hi rfl ((H.ok _ QM).turn hpd) hj hji
      have hm:=Q0k (d:=Ph.none) hj
      unfold wRd
      cases hr:(l.getD j Ph.none).rd with
      |false=>rfl
      |true=>
       exfalso
       have k2:=(hb _ hm).2.2.2.1 hr
       have k3:=(H.ok _ hm).some
       have k4:=Q2l (l.getD j Ph.none)
       have k5:=Q2r (l.getD j Ph.none)
       have k6:=Q2s (l.getD j Ph.none)
       simp only[wHd,wPd,k1,k2,if_true,Bool.false_eq_true,if_false]at k3
       omega)
    have z0:wRd Ph.none=0:=rfl
    omega
   rw[o0,r1]at a2
   unfold wRd at a2
   cases hr:(l.getD i Ph.none).rd with
   |true=>
    rw[hr]at a2 hne
    simp only[if_true]at a2 hne
    exact hne (by omega)
   |false=>
    rw[hr]at a2 hne
    simp only[Bool.false_eq_true,if_false]at a2 hne
    exact hne (by omega)
 intro q hq
 constructor
 ·cases hw:q.wt with
  |none=>rfl
  |some w=>
   exfalso
   have h1:=(hb q hq).2.2.2.2.1 w hw
   have h2:=((H.ok q hq).wt w hw).1
   have h3:=off (by omega)
   omega
 ·cases hp:q.pd with
  |false=>rfl
  |true=>
   exfalso
   obtain⟨i,hi,rfl⟩:=List.getElem_of_mem hq
   have:=Q0m (d:=Ph.none) Q2Q hi
   unfold wPd at this
   rw[show l.getD i Ph.none=l[i]by simp[List.getD,hi],hp]at this
   have e:ws (fun q:Ph=>if q.pd=true then(1:Int)else 0) l=ws wPd l:=rfl
   simp only[if_true]at this
   omega
end
section
variable {n:Nat}{ks ks':Nat→Mk}{tail tail':Int}{nx nx' bl bl':Nat→Int}{Q:List Nat}{t:Nat}
theorem Q5z.free(H:Q5z n ks tail nx bl Q)(h: ∀i,i<n→(ks i).inq=false∨ks i= .hd∨(ks i= .e4∧bl i≠0)∨(ks i= .g2∧nx i=0)):Q=[]∨ ∃t r,Q=t::r∧t<n∧ks t= .hd:=by
 cases Q with
 |nil=>exact Or.inl rfl
 |cons x r=>
  right
  have hx:=H.lt x (by simp)
  have hin:=(H.inq x hx).1 (by simp)
  have hh:=H.hd
  rw[Q3N]at hh
  refine⟨x,r,rfl,hx,?_⟩
  rcases h x hx with g|g|⟨g,g2⟩|⟨g,g2⟩
  ·rw[hin]at g;cases g
  ·exact g
  ·exfalso
   rw[g]at hh
   rcases hh with h|h|⟨h,_⟩|⟨_,h,_⟩|⟨_,h⟩
   ·cases h
   ·cases h
   ·cases h
   ·cases h
   ·exact g2 h
  ·exfalso
   rw[g]at hh
   have hr:r≠[]:=by
    rcases hh with h|h|⟨_,h⟩|⟨_,h,_⟩|⟨h,_⟩
    ·cases h
    ·cases h
    ·exact h
    ·cases h
    ·cases h
   have ch:=H.ch
   cases r with
   |nil=>exact hr rfl
   |cons y r'=>
    obtain⟨c1,c2,c3⟩:=ch
    rcases c1 with⟨c1,_⟩|⟨_,c1⟩
    ·have hy:=H.lt y (by simp)
     rcases h y hy with k|k|⟨k,_⟩|⟨k,_⟩<;>rw[c1]at k<;>cases k
    ·omega
end
section
variable {P:Type}{n tc:Nat}{mk:P→Mk}{d p p':P}{ps:List P}{m m':Nat→Int}{i:Nat}
theorem QI.free(H:QI n tc mk d ps m)(h: ∀j,j<n→(mk (ps.getD j d)).inq=false∨mk (ps.getD j d)= .hd∨(mk (ps.getD j d)= .e4∧m (8+n+j)≠0)∨(mk (ps.getD j d)= .g2∧m (8+j)=0)):(∀j,j<n→(mk (ps.getD j d)).inq=false)∨ ∃t,t<n∧mk (ps.getD t d)= .hd:=by
 obtain⟨Q,H⟩:=H
 rcases H.free (fun j hj=>by rw[X5x hj,X5O hj];exact h j hj)with h|⟨t,r,_,h2,h3⟩
 ·left
  intro j hj
  have:=H.inq j hj
  rw[h]at this
  cases hk:(mk (ps.getD j d)).inq with
  |false=>rfl
  |true=>
   have h4:=this.2 hk
   cases h4
 ·exact Or.inr ⟨t,h2,h3⟩
end
end Go.Proofs.YthnimpkoidablaaGreat.Z
