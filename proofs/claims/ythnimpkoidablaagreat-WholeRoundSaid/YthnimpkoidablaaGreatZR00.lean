import Derived.Test.YthnimpkoidablaaGreatZA14
set_option linter.unusedVariables false
set_option linter.unusedSimpArgs false
namespace Go.Proofs.YthnimpkoidablaaGreat.Z
open Go.RowKit
theorem and_split(v m:BitVec 32):v.toNat=(v &&&m).toNat+(v &&& ~~~m).toNat:=by
 have hz:(v &&&m) &&&(v &&& ~~~m)=0#32:=by ext i;simp only[BitVec.getElem_and,BitVec.getElem_or,BitVec.getElem_not,BitVec.getElem_zero];cases v[i]<;>cases m[i]<;>rfl
 have hor:(v &&&m)|||(v &&& ~~~m)=v:=by ext i;simp only[BitVec.getElem_and,BitVec.getElem_or,BitVec.getElem_not,BitVec.getElem_zero];cases v[i]<;>cases m[i]<;>rfl
 have:=BitVec.add_eq_or_of_and_eq_zero _ _ hz
 rw[hor]at this
 have h2:=congrArg BitVec.toNat this
 rw[BitVec.toNat_add]at h2
 have h3:(v &&& ~~~m).toNat≤(~~~m).toNat:=by rw[BitVec.toNat_and];exact Nat.and_le_right
 have h4:(v &&&m).toNat≤m.toNat:=by rw[BitVec.toNat_and];exact Nat.and_le_right
 rw[BitVec.toNat_not]at h3
 have:=m.isLt
 rw[Nat.mod_eq_of_lt (by omega)]at h2
 exact h2.symm
theorem Q8u(v x m:BitVec 32):((v &&& ~~~m)|||(x &&&m)).toNat=(v &&& ~~~m).toNat+(x &&&m).toNat:=by
 have hz:(v &&& ~~~m) &&&(x &&&m)=0#32:=by ext i;simp only[BitVec.getElem_and,BitVec.getElem_not,BitVec.getElem_zero];cases v[i]<;>cases x[i]<;>cases m[i]<;>rfl
 have:=BitVec.add_eq_or_of_and_eq_zero _ _ hz
 rw[←this,BitVec.toNat_add]
 have h3:(v &&& ~~~m).toNat≤(~~~m).toNat:=by rw[BitVec.toNat_and];exact Nat.and_le_right
 have h4:(x &&&m).toNat≤m.toNat:=by rw[BitVec.toNat_and];exact Nat.and_le_right
 rw[BitVec.toNat_not]at h3
 have:=m.isLt
 rw[Nat.mod_eq_of_lt (by omega)]
theorem X2W(a b:Nat)(ha:a<4294967296)(hb:b<4294967296):Go.bits .or .u32 (a:Int) (b:Int)=((BitVec.ofNat 32 a|||BitVec.ofNat 32 b).toNat:Int):=by
 show(IntKind.u32.wrap ((BitVec.ofInt 32 (a:Int)|||BitVec.ofInt 32 (b:Int)).toNat:Int))=_
 rw[Q3c,Q3c,IntKind.wrap_u32]
 have:=(BitVec.ofNat 32 a|||BitVec.ofNat 32 b).isLt
 omega
theorem Q6B(a b:Nat):Go.bits .andNot .u32 (a:Int) (b:Int)=((BitVec.ofNat 32 a &&& ~~~(BitVec.ofNat 32 b)).toNat:Int):=by
 show(IntKind.u32.wrap ((BitVec.ofInt 32 (a:Int) &&& ~~~(BitVec.ofInt 32 (b:Int))).toNat:Int))=_
 rw[Q3c,Q3c,IntKind.wrap_u32]
 have:=(BitVec.ofNat 32 a &&& ~~~(BitVec.ofNat 32 b)).isLt
 omega
theorem Q7t(a:Nat)(ha:a<4294967296):(BitVec.ofNat 32 a).toNat=a:=by
 rw[BitVec.toNat_ofNat];exact Nat.mod_eq_of_lt (by omega)
theorem X4i(v x m:Nat)(hv:v<4294967296)(hx:x<4294967296)(hm:m<4294967296):
 Go.bits .or .u32 (Go.bits .andNot .u32 (v:Int) (m:Int)) (Go.bits .and .u32 (x:Int) (m:Int))=(v:Int)-((v &&&m:Nat):Int)+((x &&&m:Nat):Int):=by
 rw[Q3z x m hx hm,Q6B]
 have e1:=and_split (BitVec.ofNat 32 v) (BitVec.ofNat 32 m)
 have e2:=Q8u (BitVec.ofNat 32 v) (BitVec.ofNat 32 x) (BitVec.ofNat 32 m)
 have ex:(BitVec.ofNat 32 x &&&BitVec.ofNat 32 m).toNat=x &&&m:=by rw[BitVec.toNat_and,Q7t x hx,Q7t m hm]
 have ev:(BitVec.ofNat 32 v &&&BitVec.ofNat 32 m).toNat=v &&&m:=by rw[BitVec.toNat_and,Q7t v hv,Q7t m hm]
 have e5:BitVec.ofNat 32 (x &&&m)=(BitVec.ofNat 32 x &&&BitVec.ofNat 32 m):=by
  apply BitVec.eq_of_toNat_eq
  rw[ex,Q7t]
  have:x &&&m≤x:=Nat.and_le_left
  omega
 have hl:x &&&m<4294967296:=by
  have:x &&&m≤x:=Nat.and_le_left
  omega
 generalize hA:(BitVec.ofNat 32 v &&& ~~~(BitVec.ofNat 32 m))=A at e1 e2⊢
 have hlt:=A.isLt
 rw[X2W _ _ (by omega) hl,e5,show BitVec.ofNat 32 A.toNat=A from by simp,e2,ex]
 rw[ev,Q7t v hv]at e1
 omega
def Q6C(n:Int)(c:Int)(L:List Int):Prop:= ∀i,0≤i→i<n→(doA L ⟨1,cellP n 2 i,0,0,0⟩).2.1=true∧(doA L ⟨1,cellP n 2 i,0,0,0⟩).1.old≠(c+1)%4294967296
theorem X0U{s:Rn}{c i:Int}(hw:s.f.wk=⟨true,c,i,false⟩)(h0:0≤i)(h1:i<s.n)(hc:Q6C s.n c s.L):
 s.woke.L=s.L∧s.woke.f={s.f with wk:=if s.n≤i+1 then Wk.zero else⟨true,c,i+1,false⟩}∧s.woke.notes=[]∧s.woke.n=s.n∧s.woke.mode=s.mode∧s.woke.task=s.task:=by
 obtain⟨h2,h3⟩:=hc i h0 h1
 have e:Q4K s.L s.n s.f.wk=(Q4e s.n ⟨true,c,i,false⟩,(doA s.L ⟨1,cellP s.n 2 i,0,0,0⟩).1,s.L):=by
  rw[hw]
  unfold Q4K
  simp only[if_true,Bool.false_eq_true,if_false]
  rw[if_pos h2,if_neg h3]
 unfold Rn.woke
 rw[e]
 refine⟨rfl,?_,rfl,rfl,rfl,rfl⟩
 show{s.f with wk:=Q4e s.n ⟨true,c,i,false⟩}=_
 unfold Q4e
 rfl
def Rn.rests(s:Rn):Rn:={s with f:={s.f with wk:=Wk.zero},acc:=Acc.zero,notes:=[]}
theorem Q8W(g:Rn→Rn)(c:Int): ∀(d:Nat) (s:Rn) (i:Int) (most:Nat),s.f.wk=⟨true,c,i,false⟩→0≤i→i+d=s.n→1≤d→Q6C s.n c s.L→d≤most→
 ∃s',s'.fresh=s.rests∧s'.f.wk.on=false∧s'.L=s.L∧s'.f.ret=s.f.ret∧((s.f.ret≠0→Q2T g most s=(s.f.ret,s'))∧(s.f.ret=0→Q2T g most s=Q2T g (most-d) s')):=by
 intro d
 induction d with
 |zero=>intro s i most hw h0 h1 h2;omega
 |succ d ih=>
  intro s i most hw h0 h1 _ hc hm
  obtain⟨e1,e2,e3,e4,e5,e6⟩:=X0U hw h0 (by omega) hc
  have hst:Q0K g s=s.woke:=by unfold Q0K;rw[hw];rfl
  obtain⟨most,rfl⟩: ∃j,most=j+1:=⟨most-1,by omega⟩
  by_cases hd:d=0
  ·subst hd
   rw[if_pos (by omega)]at e2
   refine⟨s.woke,?_,by rw[e2];rfl,e1,by rw[e2],fun hr=> ?_,fun hr=> ?_⟩
   ·unfold Rn.fresh Rn.rests
    rw[e1,e2,e4,e5,e6]
   ·show(if(Q0K g s).over then((Q0K g s).f.ret,Q0K g s)else Q2T g most (Q0K g s))=_
    rw[hst,if_pos (by unfold Rn.over;rw[e2];simpa[Wk.zero]using hr),e2]
   ·show(if(Q0K g s).over then((Q0K g s).f.ret,Q0K g s)else Q2T g most (Q0K g s))=_
    rw[hst,if_neg (by unfold Rn.over;rw[e2];simp[hr])]
    rfl
  ·rw[if_neg (by omega)]at e2
   obtain⟨s',k1,k2,k3,k4,k5,k6⟩:=ih s.woke (i+1) most (by rw[e2]) (by omega) (by rw[e4];omega) (by omega) (by rw[e4,e1];exact hc) (by omega)
   have er:s.woke.f.ret=s.f.ret:=by rw[e2]
   have hgo:Q2T g (most+1) s=Q2T g most s.woke:=by
    show(if(Q0K g s).over then((Q0K g s).f.ret,Q0K g s)else Q2T g most (Q0K g s))=_
    rw[hst,if_neg (by unfold Rn.over;rw[e2];simp)]
   refine⟨s',?_,k2,k3.trans e1,k4.trans er,fun hr=> ?_,fun hr=> ?_⟩
   ·rw[k1]
    unfold Rn.rests
    rw[e1,e2,e4,e5,e6]
   ·rw[hgo,k5 (by rw[er];exact hr),er]
   ·rw[hgo,k6 (by rw[er];exact hr)]
    congr 1
    omega
def Mt.goes(g:Rn→Rn)(M:Mt)(i:Nat)(f:Fr)(h:Int):Mt:=
 if(!f.wk.on &&Q2R M.L M.n M.mode i f.st)=true then M.put i f h M.L
 else if(Q0K g (M.run i f)).over=true then M.put i Fr.zero (Q0c (Q0K g (M.run i f)).f.op (Q0K g (M.run i f)).f.ret h) (Q0K g (M.run i f)).L
 else M.put i (Q0K g (M.run i f)).f h (Q0K g (M.run i f)).L
def Mt.Q5A(g:Rn→Rn)(M:Mt)(i:Nat)(op:Int):Mt:=
 if(M.fs.getD i Fr.zero).op=0 then if Q6T op (M.hold.getD i 0)=true then M.goes g i (Q4h op) (Q0w op (M.hold.getD i 0))else M
 else M.goes g i (M.fs.getD i Fr.zero) (M.hold.getD i 0)
theorem Q7v{g:Rn→Rn}{M:Mt}{i:Nat}{f:Fr}{h:Int}{s2:Rn}(hs:Q0K g (M.run i f)=s2):
 M.goes g i f h=if(!f.wk.on &&Q2R M.L M.n M.mode i f.st)=true then M.put i f h M.L else if s2.over=true then M.put i Fr.zero (Q0c s2.f.op s2.f.ret h) s2.L else M.put i s2.f h s2.L:=by
 subst hs
 rfl
def Opn(S0:List Nat)(w0:World)(m a x hb r:Nat)(lv:Value)(k:Nat)(hold:List Int)(rest:List Res)(s:Rn)(w:World):Prop:=
 Q0a S0 w0 m a r (.blk x #[lv, .slice (some ⟨hb,0,none⟩) k k]:: .blk hb (Q3S hold).toArray::rest) s w
theorem X0w{α:Type}(a b c d e f:α)(P Q:List α):(a::b::c::d::(P++e::f::Q)).Perm (a::e::f::b::d::c::(P++Q)):=by
 have h1:(P++e::f::Q).Perm (e::f::(P++Q)):=(List.perm_middle).trans (List.Perm.cons _ List.perm_middle)
 have h2:(a::b::c::d::e::f::(P++Q)).Perm (a::e::f::b::d::c::(P++Q)):=
  (((((Q2j (a::b::c::d::e::f::(P++Q)) 2 (by simp)).trans (Q2j (c::a::b::d::e::f::(P++Q)) 3 (by simp))).trans (Q2j (d::c::a::b::e::f::(P++Q)) 3 (by simp))).trans
   (Q2j (b::d::c::a::e::f::(P++Q)) 5 (by simp))).trans (Q2j (f::b::d::c::a::e::(P++Q)) 5 (by simp))).trans (Q2j (e::f::b::d::c::a::(P++Q)) 5 (by simp))
 exact((((h1.cons d).cons c).cons b).cons a).trans h2
theorem X3t{α:Type}: ∀(l:List α) (i:Nat),i<l.length→ ∃p t q,l=p++t::q∧p.length=i
 |[],i,h=>by simp at h
 |x::l,0,_=>⟨[],x,l,rfl,rfl⟩
 |x::l,i+1,h=>by
  obtain⟨p,t,q,rfl,rfl⟩:=X3t l i (by simpa using h)
  exact⟨x::p,t,q,rfl,rfl⟩
theorem X7K{w:World}{e n i:Nat}{v:Value}{ts:List Tk}(h:w.ownsRow 0 e 1 v n (ts.map Tk.ptr)){t:Tk}(hi:ts[i]? =some t):
 ∃b off cap,v= .slice (some ⟨b,off,none⟩) n cap∧b<w.heap.size∧w.cell? ⟨b,off+i,none⟩=some (.pointer (some ⟨t.r,0,none⟩)):=by
 obtain⟨p,cap,rfl⟩:=Q2p h
 have hr:=Rd.own h
 have hl:i<ts.length:=by
  rcases Nat.lt_or_ge i ts.length with h1|h1
  ·exact h1
  ·rw[List.getElem?_eq_none h1]at hi;cases hi
 have hn:0<n:=by have:=hr.1;rw[List.length_map]at this;omega
 obtain⟨b,off,rfl,hb,hc⟩:=hr.lit hn (by omega)
 exact⟨b,off,cap,rfl,hb,hc i _ (by rw[List.getElem?_map,hi];rfl)⟩
theorem Q1D.opened{S0:List Nat}{w0 w:World}{m a x hb:Nat}{rs:List Res}{M:Mt}(H:Q1D S0 w0 m a x hb rs M w){i:Nat}(hi:i<M.fs.length):
 ∃(r b off cap:Nat) (rest:List Res) (s:Rn),s.f=M.fs.getD i Fr.zero∧s.n=M.n∧s.mode=M.mode∧s.task=i∧s.L=M.L∧
  Opn S0 w0 m a x hb r (.slice (some ⟨b,off,none⟩) M.fs.length cap) M.fs.length M.hold rest s w∧
  (∀W s' hold',Opn S0 w0 m a x hb r (.slice (some ⟨b,off,none⟩) M.fs.length cap) M.fs.length hold' rest s' W→b<W.heap.size∧W.cell? ⟨b,off+i,none⟩=some (.pointer (some ⟨r,0,none⟩)))∧
  (∀W s' h',Opn S0 w0 m a x hb r (.slice (some ⟨b,off,none⟩) M.fs.length cap) M.fs.length (M.hold.set i h') rest s' W→Y5N s'.f→s'.n=M.n→s'.mode=M.mode→s'.task=i→Q1D S0 w0 m a x hb rs (M.put i s'.f h' s'.L) W):=by
 obtain⟨lv,ts,F,H⟩:=H
 obtain⟨p,t,q,rfl,hp⟩:=X3t ts i (by rw[F.len];exact hi)
 have hti:(p++t::q)[i]? =some t:=by rw[List.getElem?_append_right (by omega),hp,Nat.sub_self];rfl
 obtain⟨b,off,cap,rfl,hbl,hc⟩:=X7K (H.all (.own 135 1 lv M.fs.length ((p++t::q).map Tk.ptr)) (by simp)) hti
 obtain⟨e1,e2,e3,e4⟩:=F.each i t hti
 obtain⟨r,s,nv⟩:=t
 have hsplit: ∀(t':Tk),Q2O m (p++t'::q)++rs=Q2O m p++ .blk t'.r (Q0V m t'.s t'.nv):: .own 40 4 t'.nv t'.s.notes.length (nts t'.s.notes)::(Q2O m q++rs):=by
  intro t'
  simp[Q2O,Tk.res]
 rw[hsplit]at H
 have H1:=H.perm (X0w _ _ _ _ _ _ _ _)
 refine⟨r,b,off,cap, .own 135 1 (.slice (some ⟨b,off,none⟩) M.fs.length cap) M.fs.length ((p++(⟨r,s,nv⟩:Tk)::q).map Tk.ptr)::(Q2O m p++(Q2O m q++rs)),{s with L:=M.L},?_,e2,e3,e4,rfl,⟨nv,H1⟩,?_,?_⟩
 ·simp only[List.getD,e1];rfl
 ·rintro W s' hold' ⟨nv',H2⟩
  have hown:=H2.all (.own 135 1 (.slice (some ⟨b,off,none⟩) M.fs.length cap) M.fs.length ((p++(⟨r,s,nv⟩:Tk)::q).map Tk.ptr)) (by simp)
  obtain⟨b',off',cap',hv,hb',hc'⟩:=X7K hown hti
  simp only[Value.slice.injEq,Option.some.injEq,Addr.mk.injEq]at hv
  obtain⟨⟨rfl,rfl,_⟩,_,rfl⟩:=hv
  exact⟨hb',hc'⟩
 ·rintro W s' h' ⟨nv',H2⟩ hok hn hm ht
  refine⟨.slice (some ⟨b,off,none⟩) M.fs.length cap,p++(⟨r,s',nv'⟩:Tk)::q,⟨?_,?_,?_,?_,F.n64,?_⟩,?_⟩
  ·have:=F.len
   simp only[List.length_append,List.length_cons,Mt.put,List.length_set]at this⊢
   exact this
  ·simp only[Mt.put,List.length_set];exact F.hlen
  ·intro j t' hj
   by_cases hji:j=i
   ·subst hji
    rw[List.getElem?_append_right (by omega),hp,Nat.sub_self]at hj
    simp only[List.getElem?_cons_zero,Option.some.injEq]at hj
    subst hj
    refine⟨?_,hn,hm,ht⟩
    simp only[Mt.put]
    rw[List.getElem?_set_self hi]
   ·have hj':(p++(⟨r,s,nv⟩:Tk)::q)[j]? =some t':=by
     rcases Nat.lt_or_ge j p.length with h1|h1
     ·rw[List.getElem?_append_left h1]at hj⊢
      exact hj
     ·rw[List.getElem?_append_right h1]at hj⊢
      obtain⟨d,hd⟩: ∃d,j-p.length=d+1:=⟨j-p.length-1,by omega⟩
      rw[hd]at hj⊢
      exact hj
    have:=F.each j t' hj'
    refine⟨?_,this.2⟩
    simp only[Mt.put]
    rw[List.getElem?_set_ne (fun e=>hji e.symm)]
    exact this.1
  ·intro f hf
   rcases List.mem_or_eq_of_mem_set hf with h1|rfl
   ·exact F.ok f h1
   ·exact hok
  ·simp only[Mt.put,List.length_set];exact F.few
  ·have H3:=H2.perm (X0w (.mem m a s'.L) (.blk x #[.slice (some ⟨b,off,none⟩) M.fs.length cap, .slice (some ⟨hb,0,none⟩) M.fs.length M.fs.length]) (.own 135 1 (.slice (some ⟨b,off,none⟩) M.fs.length cap) M.fs.length ((p++(⟨r,s,nv⟩:Tk)::q).map Tk.ptr)) (.blk hb (Q3S (M.hold.set i h')).toArray) (.blk r (Q0V m s' nv')) (.own 40 4 nv' s'.notes.length (nts s'.notes)) (Q2O m p) (Q2O m q++rs)).symm
   rw[hsplit ⟨r,s',nv'⟩]
   simp only[Mt.put,List.length_set]
   have he:(p++(⟨r,s',nv'⟩:Tk)::q).map Tk.ptr=(p++(⟨r,s,nv⟩:Tk)::q).map Tk.ptr:=by simp[Tk.ptr]
   rw[he]
   exact H3
theorem X1P(g:Rn→Rn)(M:Mt)(i:Nat)(f:Fr)(h:Int):(M.goes g i f h).n=M.n∧(M.goes g i f h).mode=M.mode∧(M.goes g i f h).fs.length=M.fs.length∧(M.goes g i f h).hold.length=M.hold.length:=by
 unfold Mt.goes Mt.put
 split
 ·simp
 ·split<;>simp
theorem Q5d(g:Rn→Rn)(M:Mt)(i:Nat)(op:Int):(M.Q5A g i op).n=M.n∧(M.Q5A g i op).mode=M.mode∧(M.Q5A g i op).fs.length=M.fs.length∧(M.Q5A g i op).hold.length=M.hold.length:=by
 unfold Mt.Q5A
 split
 ·split
  ·exact X1P _ _ _ _ _
  ·simp
 ·exact X1P _ _ _ _ _
theorem Q1D.look{S0:List Nat}{w0 w:World}{m a x hb:Nat}{rs:List Res}{M:Mt}(H:Q1D S0 w0 m a x hb rs M w){i:Nat}(hi:i<M.fs.length):
 ∃r b off cap:Nat,x<w.heap.size∧w.cell? ⟨x,0,none⟩=some (.slice (some ⟨b,off,none⟩) M.fs.length cap)∧b<w.heap.size∧w.cell? ⟨b,off+i,none⟩=some (.pointer (some ⟨r,0,none⟩))∧r<w.heap.size∧w.cell? ⟨r,4,none⟩=some (.int .i64 (M.fs.getD i Fr.zero).op):=by
 obtain⟨r,b,off,cap,rest,s,e1,e2,e3,e4,e5,hO,hptr,hback⟩:=H.opened hi
 obtain⟨p0,p1⟩:=hptr _ _ _ hO
 obtain⟨nv,hO⟩:=hO
 have h1:=hO.Q7A
 have h3:=hO.at_ 3 rfl
 rw[←e1]
 exact⟨r,b,off,cap,h3.lt,h3.cell 0,p0,p1,h1.lt,h1.cell 4⟩
def Tk.idle(m:Nat)(n mode:Int)(Z:List Int)(i:Nat)(r:Nat):Tk:=⟨r,⟨n,mode,i,Fr.zero,Acc.zero,[],Z⟩, .slice none 0 0⟩
theorem Y6Y{op h:Int}(hh:Q6T op h=true):1≤op∧op≤8:=by
 unfold Q6T at hh
 split at hh
 ·simp at hh;omega
 ·split at hh
  ·simp at hh;omega
  ·simp at hh;omega
section
variable {n mode:Int}{s s1:Rn}{op line a b line' a' b':Int}{L L':List Int}{g:Rn→Rn}
theorem At.wakes(h:At n mode s op line a b L)(c:Int)(hg:g (RnF n mode op line a b L)=s1)(hr:s1.rests=RnF n mode op line' a' b' L')(hk:s1.f.wk=Q3e mode c)(h1:1≤n)(hc:Q6C n c L')(q:Nat):
 ∃s' q',At n mode s' op line' a' b' L'∧q≤q'∧Q2T g (q+n.toNat+1) s=Q2T g q' s':=by
 have hL:s1.L=L':=congrArg (fun x=>x.L) hr
 have hn:s1.n=n:=congrArg (fun x=>x.n) hr
 have hret:s1.f.ret=0:=congrArg (fun x=>x.f.ret) hr
 have hgo:Q2T g (q+n.toNat+1) s=if s1.over then(s1.f.ret,s1)else Q2T g (q+n.toNat) s1:=by
  show(if(Q0K g s).over then((Q0K g s).f.ret,Q0K g s)else Q2T g (q+n.toNat) (Q0K g s))=_
  rw[h.step,hg]
 have hov:s1.over=false:=by unfold Rn.over;rw[hret];rfl
 rw[hov]at hgo
 by_cases h2:mode=2
 ·have hk2:s1.f.wk=⟨true,c,0,false⟩:=by rw[hk];unfold Q3e;rw[if_pos h2]
  obtain⟨s',k1,_,_,_,_,k6⟩:=Q8W g c n.toNat s1 0 (q+n.toNat) hk2 (Int.le_refl _) (by omega) (by omega) (by rw[hn,hL];exact hc) (by omega)
  refine⟨s',q,k1.trans hr,Nat.le_refl _,?_⟩
  rw[hgo]
  have:=k6 hret
  rw[Nat.add_sub_cancel]at this
  exact this
 ·have hk2:s1.f.wk=Wk.zero:=by rw[hk];unfold Q3e;rw[if_neg h2]
  refine⟨s1,q+n.toNat,?_,by omega,hgo⟩
  unfold At
  rw[←hr]
  unfold Rn.fresh Rn.rests
  rw[←hk2]
end
theorem X2n(M:Mt)(i:Nat)(f f':Fr)(h h':Int)(L L':List Int):(M.put i f h L).put i f' h' L'=M.put i f' h' L':=by
 unfold Mt.put
 simp[List.set_set]
end Go.Proofs.YthnimpkoidablaaGreat.Z
