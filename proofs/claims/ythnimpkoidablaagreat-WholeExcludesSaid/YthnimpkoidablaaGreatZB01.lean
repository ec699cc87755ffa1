import Derived.Test.YthnimpkoidablaaGreatZB00
import Derived.Test.YthnimpkoidablaaGreatZA22
set_option linter.unusedVariables false
set_option linter.unusedSimpArgs false
namespace Go.Proofs.YthnimpkoidablaaGreat.Z
open Go.RowKit
section
variable {P:Type}{K:Q3D P}{I:Nat→List P→(Nat→Int)→Prop}{n b:Nat}{M:Mt}{ps:List P}
theorem Q4b{mode st:Int}(hm:mode=2)(h0:0≤st)(h1:st≤4):Q1y mode st=st:=by
 unfold Q1y
 rw[if_pos (by omega)]
theorem Q7k(mode:Int):Q1y mode 0=0:=by unfold Q1y;split<;>rfl
theorem Q5F.left{mode:Int}{t:Nat}{f:Fr}{h:Int}{p:P}(G:K.Good n mode)(H:Q5F K n mode t f h p):Q3d n f≤2*n:=by
 unfold Q3d
 split
 ·omega
 ·omega
theorem MI.put(H:MI K I n (b+1) M ps)(G:K.Good n M.mode){i:Nat}(hi:i<n){f':Fr}{h':Int}{p':P}{L':List Int}(hL:L'.length=8+4*n)(ha:Q5F K n M.mode i f' h' p')(hinv:I b (ps.set i p') (Q0j n L'))
 (w1: ∀c pr,K.wait i p'=some (c,pr)→(f'.st=2∨f'.st=3)→L'.getD (8+2*n+i) 0=((c:Int)+1)%4294967296)
 (w2: ∀j,j<n→j≠i→L'.getD (8+2*n+j) 0=M.L.getD (8+2*n+j) 0)
 (w3: ∀c pr,K.wait i p'=some (c,pr)→f'.st=3→pr (Q0j n L' c)=false)
 (w4: ∀j c pr,j<n→j≠i→K.wait j (ps.getD j (K.idle 0))=some (c,pr)→(M.fs.getD j Fr.zero).st=3→pr (Q0j n L' c)=true→
  L'.getD (8+3*n+j) 0≠0∨(f'.wk.on=true∧f'.wk.cell=c∧f'.wk.i≤j)∨ ∃u,u<n∧u≠i∧(M.fs.getD u Fr.zero).wk.on=true∧(M.fs.getD u Fr.zero).wk.cell=c∧(M.fs.getD u Fr.zero).wk.i≤j):
 MI K I n b (M.put i f' h' L') (ps.set i p'):=by
 have hfl:=H.fsl
 have hhl:=H.hol
 have hpl:=H.psl
 refine⟨H.num,by simp[Mt.put,hfl],by simp[Mt.put,hhl],by simp[hpl],hL,fun j hj=> ?_,hinv,fun j c pr hj hw hs=> ?_,fun j c pr hj hw hs hp=> ?_⟩
 ·show Q5F K n M.mode j ((M.fs.set i f').getD j Fr.zero) ((M.hold.set i h').getD j 0) ((ps.set i p').getD j (K.idle 0))
  rw[Q2K (by omega),Q2K (by omega),Q2K (by omega)]
  by_cases e:i=j
  ·subst e
   simp only[if_true]
   exact ha
  ·simp only[if_neg e]
   exact H.abs j hj
 ·have hs:((M.fs.set i f').getD j Fr.zero).st=2∨((M.fs.set i f').getD j Fr.zero).st=3:=hs
  show L'.getD (8+2*n+j) 0=_
  rw[Q2K (by omega)]at hs hw
  by_cases e:i=j
  ·subst e
   simp only[if_true]at hs hw
   exact w1 c pr hw hs
  ·simp only[if_neg e]at hs hw
   rw[w2 j hj (fun h=>e h.symm)]
   exact H.watch j c pr hj hw hs
 ·have hs:((M.fs.set i f').getD j Fr.zero).st=3:=hs
  have hp:pr (Q0j n L' c)=true:=hp
  rw[Q2K (by omega)]at hs hw
  by_cases e:i=j
  ·subst e
   simp only[if_true]at hs hw
   rw[w3 c pr hw hs]at hp
   cases hp
  ·simp only[if_neg e]at hs hw
   rcases w4 j c pr hj (fun h=>e h.symm) hw hs hp with h1|⟨h1,h2,h3⟩|⟨u,h1,h2,h3,h4,h5⟩
   ·exact Or.inl h1
   ·refine Or.inr ⟨i,hi,?_⟩
    show((M.fs.set i f').getD i Fr.zero).wk.on=true∧((M.fs.set i f').getD i Fr.zero).wk.cell=c∧((M.fs.set i f').getD i Fr.zero).wk.i≤j
    rw[Q2K (by omega),if_pos rfl]
    exact⟨h1,h2,h3⟩
   ·refine Or.inr ⟨u,h1,?_⟩
    show((M.fs.set i f').getD u Fr.zero).wk.on=true∧((M.fs.set i f').getD u Fr.zero).wk.cell=c∧((M.fs.set i f').getD u Fr.zero).wk.i≤j
    rw[Q2K (by omega),if_neg (fun h=>h2 h.symm)]
    exact⟨h3,h4,h5⟩
theorem MI.others(H:MI K I n b M ps){i:Nat}{L':List Int}(hw:(M.fs.getD i Fr.zero).wk.on=false)(hm:Q0j n L'=Q0j n M.L)(hp: ∀j,j<n→j≠i→L'.getD (8+3*n+j) 0=M.L.getD (8+3*n+j) 0)(f':Fr):
 ∀j c pr,j<n→j≠i→K.wait j (ps.getD j (K.idle 0))=some (c,pr)→(M.fs.getD j Fr.zero).st=3→pr (Q0j n L' c)=true→
  L'.getD (8+3*n+j) 0≠0∨(f'.wk.on=true∧f'.wk.cell=c∧f'.wk.i≤j)∨ ∃u,u<n∧u≠i∧(M.fs.getD u Fr.zero).wk.on=true∧(M.fs.getD u Fr.zero).wk.cell=c∧(M.fs.getD u Fr.zero).wk.i≤j:=by
 intro j c pr hj hji hwt hs hpr
 rw[hm]at hpr
 rcases H.woken j c pr hj hwt hs hpr with h1|⟨u,h1,h2,h3⟩
 ·exact Or.inl (by rw[hp j hj hji];exact h1)
 ·refine Or.inr (Or.inr ⟨u,h1,?_,h2,h3⟩)
  rintro rfl
  rw[hw]at h2
  cases h2
theorem Q8X{mode:Int}(hm:mode=1∨mode=2)(G:K.Good n mode)(h1:1≤n){t:Nat}{s':Rn}{h:Int}{p':P}{w:Option Nat}(hf:Q0o s'.f h=K.conc p')(hst:s'.f.st=0)(hwk:s'.f.wk=Q1f mode w)(hop:s'.f.op≠0)(hh:h≠2):
 ∃f' h',(if s'.over=true then(Fr.zero,Q0c s'.f.op s'.f.ret h)else(s'.f,h))=(f',h')∧Q5F K n mode t f' h' p'∧f'.st=0∧f'.wk=Q1f mode w:=by
 have hz:Q1f mode w=Wk.zero∨ ∃c,w=some c∧mode=2∧Q1f mode w=⟨true,c,0,false⟩:=by
  cases w with
  |none=>exact Or.inl rfl
  |some c=>
   rcases hm with hm|hm
   ·left;show Q3e mode c=_;unfold Q3e;rw[if_neg (by omega)]
   ·right;exact⟨c,rfl,hm,by show Q3e mode c=_;unfold Q3e;rw[if_pos hm]⟩
 unfold Q0o at hf
 by_cases hr:s'.f.ret=0
 ·rw[if_neg (by simp[hr])]at hf
  refine⟨s'.f,h,by rw[if_neg (by unfold Rn.over;simp[hr])],?_,hst,hwk⟩
  rcases hz with hz|⟨c,hc,hm2,hz⟩
  ·have e:({s'.f with wk:=Wk.zero}:Fr)=s'.f:=by rw[hz]at hwk;rw[←hwk]
   rw[e]at hf
   have:=Q5F.plain (K:=K) (n:=n) (mode:=mode) (t:=t) p'
   rw[←hf]at this
   exact this
  ·have hp1:(K.conc p').1={s'.f with wk:=Wk.zero}:=by rw[←hf]
   have hp2:(K.conc p').2=h:=by rw[←hf]
   have:=Q5F.waking (K:=K) (n:=n) (mode:=mode) (t:=t) p' s'.f.wk hm2 (by rw[hwk,hz]) (by rw[hwk,hz];exact Int.le_refl _) (by rw[hwk,hz];show(0:Int)<n;omega) (by rw[hwk,hz];show(0:Int)≤c;omega) (by rw[hp1];exact hop)
   rw[hp1,hp2]at this
   exact this
 ·rw[if_pos hr]at hf
  have hp:p'=K.idle (Q0c s'.f.op s'.f.ret h):=by
   have:=G.idle_only p' (by rw[←hf];rfl)
   rw[←hf]at this
   exact this
  subst hp
  rcases hz with hz|⟨c,hc,hm2,hz⟩
  ·refine⟨Fr.zero,Q0c s'.f.op s'.f.ret h,by rw[if_pos (by unfold Rn.over;rw[hwk,hz];simp[hr,Wk.zero])],?_,rfl,by rw[hz];rfl⟩
   have:=Q5F.plain (K:=K) (n:=n) (mode:=mode) (t:=t) (K.idle (Q0c s'.f.op s'.f.ret h))
   rw[←hf]at this
   exact this
  ·refine⟨s'.f,h,by rw[if_neg (by unfold Rn.over;rw[hwk,hz];simp)],?_,hst,hwk⟩
   exact Q5F.over s'.f h hm2 (by rw[hwk,hz]) (by rw[hwk,hz];exact Int.le_refl _) (by rw[hwk,hz];show(0:Int)<n;omega) (by rw[hwk,hz];show(0:Int)≤c;omega) hop hr hst hh
theorem X7J{M:Mt}{i:Nat}{b:Bool}{f1 f2 f':Fr}{h1 h2 h':Int}{L':List Int}(h:(if b=true then(f1,h1)else(f2,h2))=(f',h')):(if b=true then M.put i f1 h1 L' else M.put i f2 h2 L')=M.put i f' h' L':=by
 cases b<;>simp at h<;>simp[h]
end
theorem set_self{α:Type}{l:List α}{i:Nat}{d v:α}(h:i<l.length)(e:l.getD i d=v):l.set i v=l:=by
 subst e
 simp[List.getD,h]
section
variable {P:Type}{K:Q3D P}{I:Nat→List P→(Nat→Int)→Prop}{n b:Nat}{M:Mt}{ps:List P}{N V C:Nat}{nw nv:P→Nat}{cp:(Nat→Int)→Nat→P→Nat}{i:Nat}{f:Fr}{h:Int}{p:P}
theorem wkOf_off{mode:Int}:(Q1f mode none).on=false:=rfl
theorem Q5K{L:List Int}{n mode task st:Int}(h:Q1y mode st≠3):Q2R L n mode task st=false:=by
 unfold Q2R
 have:(Q1y mode st==3)=false:=by simpa using h
 rw[this]
 rfl
theorem MI.weaken(Kp:K.Q5D n I)(H:MI K I n (b+1) M ps):MI K I n b M ps:=⟨H.num,H.fsl,H.hol,H.psl,H.len,H.abs,Kp.weak _ _ _ H.inv,H.watch,H.woken⟩
theorem look0{L:List Int}{mode task:Int}{c:Nat}{pr:Int→Bool}(hl:L.length=8+4*n)(hc:c<8+2*n):
 Q0t L n mode task 0 c pr=⟨if pr (Q0j n L c)then 0 else if mode=2 then 1 else 0,⟨1,c,0,0,Q0j n L c⟩,pr (Q0j n L c),pr (Q0j n L c),L⟩:=by
 have e:doA L ⟨1,(c:Int),0,0,0⟩=(⟨1,c,0,0,Q0j n L c⟩,true,L):=by
  rw[Q5y (by omega)]
  simp[Q0j,hc]
 unfold Q0t
 dsimp only
 rw[Q7k,e]
 simp
theorem look2{L:List Int}{task:Int}{c:Nat}{pr:Int→Bool}(hl:L.length=8+4*n)(hc:c<8+2*n):
 Q0t L n 2 task 2 c pr=⟨if pr (Q0j n L c)then 4 else 3,⟨1,c,0,0,Q0j n L c⟩,pr (Q0j n L c),false,L⟩:=by
 have e:doA L ⟨1,(c:Int),0,0,0⟩=(⟨1,c,0,0,Q0j n L c⟩,true,L):=by
  rw[Q5y (by omega)]
  simp[Q0j,hc]
 unfold Q0t
 dsimp only
 rw[Q4b rfl (by omega) (by omega),e]
 simp
theorem look1{L:List Int}{c:Nat}{pr:Int→Bool}(h1:1≤n)(h2:n≤64)(hi:i<n)(hl:L.length=8+4*n):
 ∃a,Q0t L n 2 i 1 c pr=⟨2,a,false,false,L.set (8+2*n+i) (((c:Int)+1)%4294967296)⟩:=by
 have e2:(cellP n 2 i).toNat=8+2*n+i:=by rw[Q1p (by omega) (by omega) (by omega) (by omega)];omega
 have b2:0≤cellP n 2 i∧cellP n 2 i<L.length:=by rw[Q1p (by omega) (by omega) (by omega) (by omega)];omega
 unfold Q0t
 dsimp only
 rw[Q4b rfl (by omega) (by omega),if_pos rfl,Q5y b2,e2]
 exact⟨_,rfl⟩
theorem look4{L:List Int}{c:Nat}{pr:Int→Bool}(h1:1≤n)(h2:n≤64)(hi:i<n)(hl:L.length=8+4*n):
 (Q0t L n 2 i 4 c pr).words=L.set (8+2*n+i) 0:=by
 have e2:(cellP n 2 i).toNat=8+2*n+i:=by rw[Q1p (by omega) (by omega) (by omega) (by omega)];omega
 have b2:0≤cellP n 2 i∧cellP n 2 i<L.length:=by rw[Q1p (by omega) (by omega) (by omega) (by omega)];omega
 unfold Q0t
 dsimp only
 rw[Q4b rfl (by omega) (by omega),if_neg (by decide),if_neg (by decide),if_neg (by decide),if_pos rfl,Q5y b2,e2]
 simp
theorem Q8j{L:List Int}(h1:1≤n)(h2:n≤64)(hi:i<n)(hl:L.length=8+4*n):Q6k L n i=(L.getD (8+3*n+i) 0 !=0):=by
 have e2:(cellP n 3 i).toNat=8+3*n+i:=by rw[Q1p (by omega) (by omega) (by omega) (by omega)];omega
 have b2:0≤cellP n 3 i∧cellP n 3 i<L.length:=by rw[Q1p (by omega) (by omega) (by omega) (by omega)];omega
 unfold Q6k ldA
 rw[if_pos b2,e2]
theorem look3{L:List Int}{c:Nat}{pr:Int→Bool}(h1:1≤n)(h2:n≤64)(hi:i<n)(hl:L.length=8+4*n)(hq:L.getD (8+3*n+i) 0≠0):
 ∃a,Q0t L n 2 i 3 c pr=⟨2,a,false,false,L.set (8+3*n+i) 0⟩:=by
 have e2:(cellP n 3 i).toNat=8+3*n+i:=by rw[Q1p (by omega) (by omega) (by omega) (by omega)];omega
 have b2:0≤cellP n 3 i∧cellP n 3 i<L.length:=by rw[Q1p (by omega) (by omega) (by omega) (by omega)];omega
 have ht:takeA L n i=(⟨4,cellP n 3 i,0,0,L.getD (8+3*n+i) 0⟩,true,L.set (8+3*n+i) 0):=by
  unfold takeA
  rw[Q8j h1 h2 hi hl,if_pos (by simpa using hq),Q5y b2,e2]
  simp
 unfold Q0t
 dsimp only
 rw[Q4b rfl (by omega) (by omega),if_neg (by decide),if_neg (by decide),if_pos rfl,ht]
 exact⟨_,rfl⟩
end
section
variable {P:Type}{K:Q3D P}{I:Nat→List P→(Nat→Int)→Prop}{n b:Nat}{M:Mt}{ps:List P}{N V C:Nat}{nw nv:P→Nat}{cp:(Nat→Int)→Nat→P→Nat}{i:Nat}{f:Fr}{h:Int}{p:P}
theorem X6x{L:List Int}{k:Wk}(h1:1≤n)(h2:n≤64)(hl:L.length=8+4*n)(hk:k.on=true)(h0:0≤k.i)(hi:k.i<n)(hc:0≤k.cell){k':Wk}{L':List Int}(e1:(Q4K L n k).1=k')(e2:(Q4K L n k).2.2=L'):
 (k'=Wk.zero∨(k'.on=true∧0≤k'.i∧k'.i<n∧0≤k'.cell))∧L'.length=8+4*n∧Q0j n L'=Q0j n L∧(∀j,j<n→L'.getD (8+2*n+j) 0=L.getD (8+2*n+j) 0)∧
 (∀j,j<n→L.getD (8+3*n+j) 0≠0→L'.getD (8+3*n+j) 0≠0)∧(∀f:Fr,Q3d n {f with wk:=k'}+1≤Q3d n {f with wk:=k})∧
 (∀j,j<n→k.i≤j→L.getD (8+2*n+j) 0=(k.cell+1)%4294967296→L'.getD (8+3*n+j) 0≠0∨(k'.on=true∧k'.cell=k.cell∧k'.i≤j)):=by
 rw[Y2X h1 h2 hl hk h0 hi]at e1 e2
 have hnx:Q4e n k=Wk.zero∨((Q4e n k).on=true∧0≤(Q4e n k).i∧(Q4e n k).i<n∧0≤(Q4e n k).cell):=by
  unfold Q4e
  split
  ·exact Or.inl rfl
  ·exact Or.inr ⟨hk,by simp;omega,by simp;omega,hc⟩
 have hpass: ∀j:Nat,j<n→k.i<j→(Q4e n k).on=true∧(Q4e n k).cell=k.cell∧(Q4e n k).i≤j:=by
  intro j hj hlt
  unfold Q4e
  rw[if_neg (by omega)]
  exact⟨hk,rfl,by simp;omega⟩
 by_cases hh:k.hit=true
 ·rw[if_pos hh]at e1 e2
  simp only at e1 e2
  subst e1 e2
  refine⟨hnx,by simpa using hl,Q7Y (by omega),fun j hj=>Q2d (by omega),fun j hj hne=> ?_,fun f=>X1N hk h0 hi,fun j hj hle hwt=> ?_⟩
  ·rw[Q7w];split;decide;exact hne
  ·by_cases e:k.i.toNat=j
   ·left;rw[Q7w,if_pos (by omega)];decide
   ·right;exact hpass j hj (by omega)
 ·rw[if_neg hh]at e1 e2
  simp only at e1 e2
  subst e2
  by_cases hm:L.getD (8+2*n+k.i.toNat) 0=(k.cell+1)%4294967296
  ·rw[if_pos hm]at e1
   subst e1
   refine⟨Or.inr ⟨rfl,h0,hi,hc⟩,hl,rfl,fun _ _=>rfl,fun _ _ h=>h,fun f=> ?_,fun j hj hle hwt=>Or.inr ⟨rfl,rfl,hle⟩⟩
   unfold Q3d
   simp[hk,hh]
   omega
  ·rw[if_neg hm]at e1
   subst e1
   refine⟨hnx,hl,rfl,fun _ _=>rfl,fun _ _ h=>h,fun f=>X1N hk h0 hi,fun j hj hle hwt=> ?_⟩
   by_cases e:k.i.toNat=j
   ·subst e;exact absurd hwt hm
   ·right;exact hpass j hj (by omega)
end
def sm:Nat→(Nat→Nat)→Nat
 |0,_=>0
 |n+1,f=>sm n f+f n
section
variable {P:Type}{K:Q3D P}{I:Nat→List P→(Nat→Int)→Prop}{n b:Nat}{M:Mt}{ps:List P}{N V C:Nat}{nw nv:P→Nat}{cp:(Nat→Int)→Nat→P→Nat}{i:Nat}{f:Fr}{h:Int}{p:P}
theorem X4a{g:Rn→Rn}{M:Mt}{i:Nat}{f f0:Fr}{h h0:Int}:(M.put i f0 h0 M.L).goes g i f h=M.goes g i f h:=by
 unfold Mt.goes
 simp only[X2n]
 rfl
theorem Q5F.idle(G:K.Good n M.mode){t:Nat}(H:Q5F K n M.mode t f h p)(hop:f.op=0):f=Fr.zero∧p=K.idle h:=by
 cases H with
 |plain=>
  have e:=G.idle_only p hop
  refine⟨?_,e⟩
  rw[e,G.idle_conc]
 |waking _ k _ _ _ _ _ h9=>exact absurd hop h9
 |staged _ c pr st _ _ hw _=>exact absurd hop (G.wait_op t p c pr hw)
 |seen q c pr v _ _ hw _=>exact absurd hop (G.wait_op t q c pr hw)
 |over _ _ _ _ _ _ _ h9=>exact absurd hop h9
theorem Q5F.holds(G:K.Good n M.mode){t:Nat}(H:Q5F K n M.mode t f h p):(h≠0→(K.conc p).2≠0)∧(h=2→p=K.idle 2):=by
 cases H with
 |plain=>exact⟨fun h=>h,fun h=>G.two p h⟩
 |waking _ k _ _ _ _ _ h9=>exact⟨fun h=>h,fun h=>G.two p h⟩
 |staged _ c pr st _ _ hw _=>exact⟨fun h=>h,fun h=>G.two p h⟩
 |seen q c pr v _ _ hw _=>
  refine⟨fun h=>G.post_hold t q c pr v hw h,fun h=> ?_⟩
  have:=G.two q h
  have h9:=G.wait_op t q c pr hw
  rw[this,G.idle_conc]at h9
  exact absurd rfl h9
 |over _ _ _ _ _ _ _ h9 h8 h7 h6=>
  refine⟨fun hh=> ?_,fun hh=>absurd hh h6⟩
  rw[G.idle_conc]
  show Q0c f.op f.ret h≠0
  unfold Q0c
  repeat' split
  all_goals first|exact hh|decide
theorem MI.begins(G:K.Good n M.mode)(Kp:K.Q5D n I)(H:MI K I n (b+1) M ps)(hi:i<n)(hop:(M.fs.getD i Fr.zero).op=0){op:Int}(hmay:Q6T op (M.hold.getD i 0)=true):
 MI K I n b (M.put i (Q4h op) (Q0w op (M.hold.getD i 0)) M.L) (ps.set i (K.start op (M.hold.getD i 0))):=by
 obtain⟨e1,e2⟩:=(H.abs i hi).idle G hop
 have hb:=Kp.begins _ ps _ i op (M.hold.getD i 0) H.inv hi H.psl e2 hmay
 have ha:=Q5F.plain (K:=K) (n:=n) (mode:=M.mode) (t:=i) (K.start op (M.hold.getD i 0))
 rw[G.start_conc op _ hmay]at ha
 exact MI.put H G hi H.len ha hb (fun c pr _ hs=>by simp[Q4h]at hs) (fun _ _ _=>rfl) (fun c pr _ hs=>by simp[Q4h]at hs) (MI.others H (by rw[e1];rfl) rfl (fun _ _ _=>rfl) _)
end
section
variable {P:Type}{K:Q3D P}{I:Nat→List P→(Nat→Int)→Prop}{n b:Nat}{mode:Int}{M:Mt}{ps:List P}{N V C:Nat}{nw nv:P→Nat}{cp:(Nat→Int)→Nat→P→Nat}{i:Nat}{f:Fr}{h:Int}{p:P}
theorem X7c(G:K.Good n mode)(still: ∀t h,K.wait t (K.idle h)=none)(L:List Int)(hL:L.length=8+4*n)(hI:I b (List.replicate n (K.idle 0)) (Q0j n L)):MI K I n b (Mt.start n mode L) (List.replicate n (K.idle 0)):=by
 have hr: ∀j,(List.replicate n (K.idle 0)).getD j (K.idle 0)=K.idle 0:=fun j=>by
  rw[List.getD_eq_getElem?_getD,List.getElem?_replicate];split<;>rfl
 have hf: ∀j,(List.replicate n Fr.zero).getD j Fr.zero=Fr.zero:=fun j=>by
  rw[List.getD_eq_getElem?_getD,List.getElem?_replicate];split<;>rfl
 have hh: ∀j,(List.replicate n (0:Int)).getD j 0=0:=fun j=>by
  rw[List.getD_eq_getElem?_getD,List.getElem?_replicate];split<;>rfl
 refine⟨rfl,by simp[Mt.start],by simp[Mt.start],by simp,hL,fun i hi=> ?_,hI,fun i c pr hi hw _=> ?_,fun i c pr hi hw _ _=> ?_⟩
 ·show Q5F K n mode i ((List.replicate n Fr.zero).getD i Fr.zero) ((List.replicate n (0:Int)).getD i 0) _
  rw[hr,hf,hh]
  have:=Q5F.plain (K:=K) (n:=n) (mode:=mode) (t:=i) (K.idle 0)
  rw[G.idle_conc]at this
  exact this
 ·rw[hr,still]at hw
  cases hw
 ·rw[hr,still]at hw
  cases hw
end
theorem X3u{α:Type}(l:List α)(i:Nat)(d:α):l.set i (l.getD i d)=l:=by
 apply List.ext_getElem?
 intro j
 rw[List.getElem?_set]
 split
 ·rename_i h
  subst h
  split
  ·rename_i h
   simp[List.getD,h]
  ·rename_i h
   simp[h]
 ·rfl
theorem X1n(M:Mt)(i:Nat):M.put i (M.fs.getD i Fr.zero) (M.hold.getD i 0) M.L=M:=by
 unfold Mt.put
 rw[X3u,X3u]
theorem X3F(M:Mt)(i:Nat)(f f':Fr)(h h':Int)(L L':List Int):(M.put i f h L).put i f' h' L'=M.put i f' h' L':=by
 simp[Mt.put]
theorem X4c{α:Type}{l:List α}{i:Nat}{d x:α}(h:i<l.length):(l.set i x).getD i d=x:=by
 simp[List.getD,h]
theorem Y0f(L:List Int)(n mode i:Int):Q2R L n mode i 0=false:=by
 unfold Q2R Q1y
 split<;>rfl
theorem Q9z{g:Rn→Rn}{M:Mt}{i:Nat}{f:Fr}{h:Int}{L:List Int}(hi:i<M.fs.length)(hh:i<M.hold.length)(hs:(!f.wk.on &&Q2R M.L M.n M.mode i f.st)=false):((M.put i f h M.L).Q4B g i).1=M.goes g i f h:=by
 have e1:(M.put i f h M.L).fs.getD i Fr.zero=f:=X4c hi
 have e2:(M.put i f h M.L).hold.getD i 0=h:=X4c hh
 have e3:(M.put i f h M.L).run i f=M.run i f:=rfl
 unfold Mt.Q4B Mt.goes
 rw[e1,e2,e3,hs]
 by_cases ho:(Q0K g (M.run i f)).over=true
 ·rw[if_pos ho,if_neg (by decide),if_pos ho]
  exact X3F _ _ _ _ _ _ _ _
 ·rw[if_neg ho,if_neg (by decide),if_neg ho]
  exact X3F _ _ _ _ _ _ _ _
theorem Q9K{g:Rn→Rn}{M:Mt}{i:Nat}(hi:i<M.fs.length)(hl:M.hold.length=M.fs.length)(op:Int):(M.Q3R g i op).1=M.Q5A g i op:=by
 unfold Mt.Q3R Mt.Q5A
 rw[if_pos ⟨by omega,by omega⟩]
 simp only[Int.toNat_natCast]
 by_cases hop:(M.fs.getD i Fr.zero).op=0
 ·rw[if_pos hop,if_pos hop]
  by_cases hm:Q6T op (M.hold.getD i 0)=true
  ·rw[if_pos (Y6Y hm),if_pos hm]
   unfold Mt.Q5V
   rw[if_pos hm]
   exact Q9z (L:=M.L) hi (by omega) (by show(!Wk.zero.on &&Q2R M.L M.n M.mode i 0)=false;rw[Y0f];rfl)
  ·rw[if_neg hm]
   split
   ·unfold Mt.Q5V
    rw[if_neg hm]
   ·rfl
 ·rw[if_neg hop,if_neg hop]
  have hb:(!(M.fs.getD i Fr.zero).wk.on &&Q2R M.L M.n M.mode i (M.fs.getD i Fr.zero).st)=M.Q3a i:=by
   unfold Mt.Q3a
   rw[show((M.fs.getD i Fr.zero).op !=0)=true by simp only[bne_iff_ne,ne_eq];exact hop]
   simp
  by_cases hs:M.Q3a i=true
  ·rw[if_pos hs]
   unfold Mt.goes
   rw[hb,if_pos hs]
   exact(X1n M i).symm
  ·rw[if_neg hs]
   have:=Q9z (g:=g) (M:=M) (i:=i) (f:=M.fs.getD i Fr.zero) (h:=M.hold.getD i 0) (L:=M.L) hi (by omega) (by rw[hb];simpa using hs)
   rw[X1n]at this
   exact this
theorem X7Z{g:Rn→Rn}{M:Mt}{t op:Int}(h: ¬(0≤t∧t<(M.fs.length:Int))):(M.Q3R g t op).1=M:=by
 unfold Mt.Q3R
 rw[if_neg h]
section
variable {P:Type}{K:Q3D P}{I:Nat→List P→(Nat→Int)→Prop}{n b:Nat}{mode:Int}{M:Mt}{ps:List P}{N V C:Nat}{nw nv:P→Nat}{cp:(Nat→Int)→Nat→P→Nat}
theorem MI.weak2(Kp:K.Q5D n I)(H:MI K I n (b+2) M ps):MI K I n b M ps:=
 ⟨H.num,H.fsl,H.hol,H.psl,H.len,H.abs,Kp.weak _ _ _ (Kp.weak _ _ _ H.inv),H.watch,H.woken⟩
end
section
variable {P:Type}
def ws(f:P→Int):List P→Int
 |[]=>0
 |x::l=>f x+ws f l
theorem Q0l{f:P→Int}{d x:P}: ∀{l:List P} {i:Nat},i<l.length→ws f (l.set i x)=ws f l-f (l.getD i d)+f x
 |[],i,h=>by simp at h
 |y::l,0,_=>by simp[ws];omega
 |y::l,i+1,h=>by
  have:=Q0l (f:=f) (d:=d) (x:=x) (l:=l) (i:=i) (by simpa using h)
  simp[ws]at this⊢
  omega
theorem Q1w{f:P→Int}(h: ∀x,0≤f x): ∀l:List P,0≤ws f l
 |[]=>Int.le_refl _
 |x::l=>by have:=Q1w h l;have:=h x;simp[ws];omega
theorem Y5O{f g:P→Int}(h: ∀x,f x≤g x): ∀l:List P,ws f l≤ws g l
 |[]=>Int.le_refl _
 |x::l=>by have:=Y5O h l;have:=h x;simp[ws];omega
theorem Q8b{f:P→Int}(h: ∀x,f x≤1): ∀l:List P,ws f l≤l.length
 |[]=>by simp[ws]
 |x::l=>by have:=Q8b h l;have:=h x;simp[ws];omega
theorem Q0m{f:P→Int}{d:P}(h: ∀x,0≤f x): ∀{l:List P} {i:Nat},i<l.length→f (l.getD i d)≤ws f l
 |[],i,hi=>by simp at hi
 |x::l,0,_=>by have:=Q1w h l;simp[ws];omega
 |x::l,i+1,hi=>by
  have:=Q0m h (l:=l) (i:=i) (d:=d) (by simpa using hi)
  have:=h x
  simp[ws]at*
  omega
theorem X3g{f:P→Int}{d:P}(h: ∀x,0≤f x){l:List P}{i j:Nat}(hi:i<l.length)(hj:j<l.length)(hij:i≠j):f (l.getD i d)+f (l.getD j d)≤ws f l:=by
 have h3: ∀{l:List P} {i j:Nat},i<l.length→j<l.length→i≠j→f (l.getD i d)+f (l.getD j d)≤ws f l:=by
  intro l
  induction l with
  |nil=>intro i j hi _ _;simp at hi
  |cons x l ih=>
   intro i j hi hj hij
   cases i with
   |zero=>
    cases j with
    |zero=>exact absurd rfl hij
    |succ j=>
     have:=Q0m (d:=d) h (l:=l) (i:=j) (by simpa using hj)
     simp[ws]at*
     omega
   |succ i=>
    cases j with
    |zero=>
     have:=Q0m (d:=d) h (l:=l) (i:=i) (by simpa using hi)
     simp[ws]at*
     omega
    |succ j=>
     have:=ih (i:=i) (j:=j) (by simpa using hi) (by simpa using hj) (by omega)
     have:=h x
     simp[ws]at*
     omega
 exact h3 hi hj hij
theorem Q6q{f:P→Int}{l:List P}(h: ∀x,x∈l→f x=0):ws f l=0:=by
 induction l with
 |nil=>rfl
 |cons x l ih=>simp[ws,h x (by simp),ih (fun y hy=>h y (List.mem_cons_of_mem _ hy))]
theorem Q0R{f:P→Int}{n:Nat}{x:P}(h:f x=0):ws f (List.replicate n x)=0:=Q6q (fun y hy=>by rw[(List.mem_replicate.1 hy).2,h])
theorem Q5H{f:P→Int}{d:P}{l:List P}{n:Nat}(hl:l.length=n)(h: ∀i,i<n→f (l.getD i d)=0):ws f l=0:=by
 refine Q6q (fun y hy=> ?_)
 obtain⟨i,hi,rfl⟩:=List.getElem_of_mem hy
 have:=h i (by omega)
 simpa[List.getD,hi]using this
end
section
variable {n:Nat}{L:List Int}{c x y:Int}
theorem Q6f(hl:L.length=8+4*n)(h0:0≤c)(hc:c.toNat<8+2*n):doA L ⟨1,c,0,0,0⟩=(⟨1,c,0,0,Q0j n L c.toNat⟩,true,L):=by
 rw[Q5y (by omega)]
 simp[Q0j,hc]
theorem Q7B(hl:L.length=8+4*n)(h0:0≤c)(hc:c.toNat<8+2*n):doA L ⟨3,c,x,0,0⟩=(⟨3,c,x,0,Q0j n L c.toNat⟩,true,L.set c.toNat ((Q0j n L c.toNat+x)%4294967296)):=by
 rw[Q5y (by omega)]
 simp[Q0j,hc]
theorem Q3Y(hl:L.length=8+4*n)(h0:0≤c)(hc:c.toNat<8+2*n):doA L ⟨2,c,x,0,0⟩=(⟨2,c,x,0,Q0j n L c.toNat⟩,true,L.set c.toNat x):=by
 rw[Q5y (by omega)]
 simp[Q0j,hc]
theorem Y7r(hl:L.length=8+4*n)(h0:0≤c)(hc:c.toNat<8+2*n):doA L ⟨4,c,x,0,0⟩=(⟨4,c,x,0,Q0j n L c.toNat⟩,true,L.set c.toNat x):=by
 rw[Q5y (by omega)]
 simp[Q0j,hc]
theorem Q4T(hl:L.length=8+4*n)(h0:0≤c)(hc:c.toNat<8+2*n):doA L ⟨5,c,x,y,0⟩=(⟨5,c,x,y,Q0j n L c.toNat⟩,true,if Q0j n L c.toNat=x then L.set c.toNat y else L):=by
 rw[Q5y (by omega)]
 simp[Q0j,hc]
theorem Q3Z(hl:L.length=8+4*n)(h0:0≤c)(hc:c.toNat<8+2*n):Q7N L c x y=(Q0j n L c.toNat==x):=by
 unfold Q7N
 rw[Q4T hl h0 hc]
 simp
end
theorem Q1u{L:List Int}{n mode task st c:Int}{p:Int→Bool}(h:(Q0t L n mode task st c p).done=true):(Q0t L n mode task st c p).stage=0:=by
 unfold Q0t at h⊢
 dsimp only at h⊢
 repeat' split at h
 all_goals first|(simp at h;done)|skip
 all_goals simp_all
theorem Q1b{L:List Int}{n mode task c:Int}{p:Int→Bool}(hm:mode=2):(Q0t L n mode task 4 c p).done=true∧(Q0t L n mode task 4 c p).stage=0:=by
 unfold Q0t
 dsimp only
 rw[Q4b hm (by omega) (by omega)]
 exact⟨rfl,rfl⟩
theorem Q1i{L:List Int}{n mode task c:Int}{p:Int→Bool}(hm:mode=2):(Q0t L n mode task 4 c p).seen=false:=by
 unfold Q0t
 dsimp only
 rw[Q4b hm (by omega) (by omega)]
 rfl
theorem Q2i{L:List Int}{n mode task st c:Int}{p:Int→Bool}(h0:0≤st)(h3:st≤3)(h:(Q0t L n mode task st c p).done=true):(Q0t L n mode task st c p).seen=true:=by
 have hs:Q1y mode st≠4:=by unfold Q1y;split<;>omega
 unfold Q0t at h⊢
 dsimp only at h⊢
 rw[if_neg hs]at h⊢
 repeat' split at h
 all_goals first|(simp at h;done)|skip
 all_goals simp_all
theorem Q2L{op h:Int}(hm:Q6T op h=true):(h=0∧(op=1∨op=3∨op=5∨op=6))∨(h=1∧(op=2∨op=7))∨(h≠0∧h≠1∧(op=4∨op=8)):=by
 unfold Q6T at hm
 split at hm
 ·rename_i h0
  simp at hm
  exact Or.inl ⟨h0,by omega⟩
 split at hm
 ·rename_i h0 h1
  simp at hm
  exact Or.inr (Or.inl ⟨h1,by omega⟩)
 ·rename_i h0 h1
  simp at hm
  exact Or.inr (Or.inr ⟨h0,h1,by omega⟩)
end Go.Proofs.YthnimpkoidablaaGreat.Z
