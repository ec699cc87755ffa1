import Derived.Test.YthnimpkoidablaaGreatZB00
import Derived.Test.YthnimpkoidablaaGreatZA22
set_option linter.unusedVariables false
set_option linter.unusedSimpArgs false
set_option maxHeartbeats 3200000
namespace Go.Proofs.YthnimpkoidablaaGreat.Z
open Go.RowKit
def Opn(S0:List Nat)(w0:World)(m a x hb r:Nat)(lv:Value)(k:Nat)(hold:List Int)(rest:List Res)(s:Rn)(w:World):Prop:=
 Q0a S0 w0 m a r (.blk x #[lv, .slice (some ⟨hb,0,none⟩) k k]:: .blk hb (Q3S hold).toArray::rest) s w
theorem X0w{α:Type}(a b c d e f:α)(P Q:List α):(a::b::c::d::(P++e::f::Q)).Perm (a::e::f::b::d::c::(P++Q)):=by
 have h1:(P++e::f::Q).Perm (e::f::(P++Q)):=(List.perm_middle).trans (List.Perm.cons _ List.perm_middle)
 have h2:(a::b::c::d::e::f::(P++Q)).Perm (a::e::f::b::d::c::(P++Q)):=
  (((((Q2j (a::b::c::d::e::f::(P++Q)) 2 (by simp)).trans (Q2j (c::a::b::d::e::f::(P++Q)) 3 (by simp))).trans (Q2j (d::c::a::b::e::f::(P++Q)) 3 (by simp))).trans
   (Q2j (b::d::c::a::e::f::(P++Q)) 5 (by simp))).trans (Q2j (f::b::d::c::a::e::(P++Q)) 5 (by simp))).trans (Q2j (e::f::b::d::c::a::(P++Q)) 5 (by simp))
 exact((((h1.cons d).cons c).cons b).cons a).trans h2
theorem X3t{α:Type}: ∀(l:List α) (i:Nat),i<l.length→ ∃p t q,l=p++t::q∧p.length=i
 |[],i,h=>by simp at h
 |x::l,0,_=>⟨[],x,l,rfl,rfl⟩
 |x::l,i+1,h=>by
  obtain⟨p,t,q,rfl,rfl⟩:=X3t l i (by simpa using h)
  exact⟨x::p,t,q,rfl,rfl⟩
theorem X7K{w:World}{e n i:Nat}{v:Value}{ts:List Tk}(h:w.ownsRow 0 e 1 v n (ts.map Tk.ptr)){t:Tk}(hi:ts[i]? =some t):
 ∃b off cap,v= .slice (some ⟨b,off,none⟩) n cap∧b<w.heap.size∧w.cell? ⟨b,off+i,none⟩=some (.pointer (some ⟨t.r,0,none⟩)):=by
 obtain⟨p,cap,rfl⟩:=Q2p h
 have hr:=Rd.own h
 have hl:i<ts.length:=by
  rcases Nat.lt_or_ge i ts.length with h1|h1
  ·exact h1
  ·rw[List.getElem?_eq_none h1]at hi;cases hi
 have hn:0<n:=by have:=hr.1;rw[List.length_map]at this;omega
 obtain⟨b,off,rfl,hb,hc⟩:=hr.lit hn (by omega)
 exact⟨b,off,cap,rfl,hb,hc i _ (by rw[List.getElem?_map,hi];rfl)⟩
theorem Q1D.opened{S0:List Nat}{w0 w:World}{m a x hb:Nat}{rs:List Res}{M:Mt}(H:Q1D S0 w0 m a x hb rs M w){i:Nat}(hi:i<M.fs.length):
 ∃(r b off cap:Nat) (rest:List Res) (s:Rn),s.f=M.fs.getD i Fr.zero∧s.n=M.n∧s.mode=M.mode∧s.task=i∧s.L=M.L∧
  Opn S0 w0 m a x hb r (.slice (some ⟨b,off,none⟩) M.fs.length cap) M.fs.length M.hold rest s w∧
  (∀W s' hold',Opn S0 w0 m a x hb r (.slice (some ⟨b,off,none⟩) M.fs.length cap) M.fs.length hold' rest s' W→b<W.heap.size∧W.cell? ⟨b,off+i,none⟩=some (.pointer (some ⟨r,0,none⟩)))∧
  (∀W s' h',Opn S0 w0 m a x hb r (.slice (some ⟨b,off,none⟩) M.fs.length cap) M.fs.length (M.hold.set i h') rest s' W→Y5N s'.f→s'.n=M.n→s'.mode=M.mode→s'.task=i→Q1D S0 w0 m a x hb rs (M.put i s'.f h' s'.L) W):=by
 obtain⟨lv,ts,F,H⟩:=H
 obtain⟨p,t,q,rfl,hp⟩:=X3t ts i (by rw[F.len];exact hi)
 have hti:(p++t::q)[i]? =some t:=by rw[List.getElem?_append_right (by omega),hp,Nat.sub_self];rfl
 obtain⟨b,off,cap,rfl,hbl,hc⟩:=X7K (H.all (.own 135 1 lv M.fs.length ((p++t::q).map Tk.ptr)) (by simp)) hti
 obtain⟨e1,e2,e3,e4⟩:=F.each i t hti
 obtain⟨r,s,nv⟩:=t
 have hsplit: ∀(t':Tk),Q2O m (p++t'::q)++rs=Q2O m p++ .blk t'.r (Q0V m t'.s t'.nv):: .own 40 4 t'.nv t'.s.notes.length (nts t'.s.notes)::(Q2O m q++rs):=by
  intro t'
  simp[Q2O,Tk.res]
 rw[hsplit]at H
 have H1:=H.perm (X0w _ _ _ _ _ _ _ _)
 refine⟨r,b,off,cap, .own 135 1 (.slice (some ⟨b,off,none⟩) M.fs.length cap) M.fs.length ((p++(⟨r,s,nv⟩:Tk)::q).map Tk.ptr)::(Q2O m p++(Q2O m q++rs)),{s with L:=M.L},?_,e2,e3,e4,rfl,⟨nv,H1⟩,?_,?_⟩
 ·simp only[List.getD,e1];rfl
 ·rintro W s' hold' ⟨nv',H2⟩
  have hown:=H2.all (.own 135 1 (.slice (some ⟨b,off,none⟩) M.fs.length cap) M.fs.length ((p++(⟨r,s,nv⟩:Tk)::q).map Tk.ptr)) (by simp)
  obtain⟨b',off',cap',hv,hb',hc'⟩:=X7K hown hti
  simp only[Value.slice.injEq,Option.some.injEq,Addr.mk.injEq]at hv
  obtain⟨⟨rfl,rfl,_⟩,_,rfl⟩:=hv
  exact⟨hb',hc'⟩
 ·rintro W s' h' ⟨nv',H2⟩ hok hn hm ht
  refine⟨.slice (some ⟨b,off,none⟩) M.fs.length cap,p++(⟨r,s',nv'⟩:Tk)::q,⟨?_,?_,?_,?_,F.n64,?_⟩,?_⟩
  ·have:=F.len
   simp only[List.length_append,List.length_cons,Mt.put,List.length_set]at this⊢
   exact this
  ·simp only[Mt.put,List.length_set];exact F.hlen
  ·intro j t' hj
   by_cases hji:j=i
   ·subst hji
    rw[List.getElem?_append_right (by omega),hp,Nat.sub_self]at hj
    simp only[List.getElem?_cons_zero,Option.some.injEq]at hj
    subst hj
    refine⟨?_,hn,hm,ht⟩
    simp only[Mt.put]
    rw[List.getElem?_set_self hi]
   ·have hj':(p++(⟨r,s,nv⟩:Tk)::q)[j]? =some t':=by
     rcases Nat.lt_or_ge j p.length with h1|h1
     ·rw[List.getElem?_append_left h1]at hj⊢
      exact hj
     ·rw[List.getElem?_append_right h1]at hj⊢
      obtain⟨d,hd⟩: ∃d,j-p.length=d+1:=⟨j-p.length-1,by omega⟩
      rw[hd]at hj⊢
      exact hj
    have:=F.each j t' hj'
    refine⟨?_,this.2⟩
    simp only[Mt.put]
    rw[List.getElem?_set_ne (fun e=>hji e.symm)]
    exact this.1
  ·intro f hf
   rcases List.mem_or_eq_of_mem_set hf with h1|rfl
   ·exact F.ok f h1
   ·exact hok
  ·simp only[Mt.put,List.length_set];exact F.few
  ·have H3:=H2.perm (X0w (.mem m a s'.L) (.blk x #[.slice (some ⟨b,off,none⟩) M.fs.length cap, .slice (some ⟨hb,0,none⟩) M.fs.length M.fs.length]) (.own 135 1 (.slice (some ⟨b,off,none⟩) M.fs.length cap) M.fs.length ((p++(⟨r,s,nv⟩:Tk)::q).map Tk.ptr)) (.blk hb (Q3S (M.hold.set i h')).toArray) (.blk r (Q0V m s' nv')) (.own 40 4 nv' s'.notes.length (nts s'.notes)) (Q2O m p) (Q2O m q++rs)).symm
   rw[hsplit ⟨r,s',nv'⟩]
   simp only[Mt.put,List.length_set]
   have he:(p++(⟨r,s',nv'⟩:Tk)::q).map Tk.ptr=(p++(⟨r,s,nv⟩:Tk)::q).map Tk.ptr:=by simp[Tk.ptr]
   rw[he]
   exact H3
theorem X1P(g:Rn→Rn)(M:Mt)(i:Nat)(f:Fr)(h:Int):(M.goes g i f h).n=M.n∧(M.goes g i f h).mode=M.mode∧(M.goes g i f h).fs.length=M.fs.length∧(M.goes g i f h).hold.length=M.hold.length:=by
 unfold Mt.goes Mt.put
 split
 ·simp
 ·split<;>simp
theorem Q5d(g:Rn→Rn)(M:Mt)(i:Nat)(op:Int):(M.Q5A g i op).n=M.n∧(M.Q5A g i op).mode=M.mode∧(M.Q5A g i op).fs.length=M.fs.length∧(M.Q5A g i op).hold.length=M.hold.length:=by
 unfold Mt.Q5A
 split
 ·split
  ·exact X1P _ _ _ _ _
  ·simp
 ·exact X1P _ _ _ _ _
theorem Q1D.look{S0:List Nat}{w0 w:World}{m a x hb:Nat}{rs:List Res}{M:Mt}(H:Q1D S0 w0 m a x hb rs M w){i:Nat}(hi:i<M.fs.length):
 ∃r b off cap:Nat,x<w.heap.size∧w.cell? ⟨x,0,none⟩=some (.slice (some ⟨b,off,none⟩) M.fs.length cap)∧b<w.heap.size∧w.cell? ⟨b,off+i,none⟩=some (.pointer (some ⟨r,0,none⟩))∧r<w.heap.size∧w.cell? ⟨r,4,none⟩=some (.int .i64 (M.fs.getD i Fr.zero).op):=by
 obtain⟨r,b,off,cap,rest,s,e1,e2,e3,e4,e5,hO,hptr,hback⟩:=H.opened hi
 obtain⟨p0,p1⟩:=hptr _ _ _ hO
 obtain⟨nv,hO⟩:=hO
 have h1:=hO.Q7A
 have h3:=hO.at_ 3 rfl
 rw[←e1]
 exact⟨r,b,off,cap,h3.lt,h3.cell 0,p0,p1,h1.lt,h1.cell 4⟩
section
variable {n mode:Int}{s s1:Rn}{op line a b line' a' b':Int}{L L':List Int}{g:Rn→Rn}
theorem At.wakes(h:At n mode s op line a b L)(c:Int)(hg:g (RnF n mode op line a b L)=s1)(hr:s1.rests=RnF n mode op line' a' b' L')(hk:s1.f.wk=Q3e mode c)(h1:1≤n)(hc:Q6C n c L')(q:Nat):
 ∃s' q',At n mode s' op line' a' b' L'∧q≤q'∧Q2T g (q+n.toNat+1) s=Q2T g q' s':=by
 have hL:s1.L=L':=congrArg (fun x=>x.L) hr
 have hn:s1.n=n:=congrArg (fun x=>x.n) hr
 have hret:s1.f.ret=0:=congrArg (fun x=>x.f.ret) hr
 have hgo:Q2T g (q+n.toNat+1) s=if s1.over then(s1.f.ret,s1)else Q2T g (q+n.toNat) s1:=by
  show(if(Q0K g s).over then((Q0K g s).f.ret,Q0K g s)else Q2T g (q+n.toNat) (Q0K g s))=_
  rw[h.step,hg]
 have hov:s1.over=false:=by unfold Rn.over;rw[hret];rfl
 rw[hov]at hgo
 by_cases h2:mode=2
 ·have hk2:s1.f.wk=⟨true,c,0,false⟩:=by rw[hk];unfold Q3e;rw[if_pos h2]
  obtain⟨s',k1,_,_,_,_,k6⟩:=Q8W g c n.toNat s1 0 (q+n.toNat) hk2 (Int.le_refl _) (by omega) (by omega) (by rw[hn,hL];exact hc) (by omega)
  refine⟨s',q,k1.trans hr,Nat.le_refl _,?_⟩
  rw[hgo]
  have:=k6 hret
  rw[Nat.add_sub_cancel]at this
  exact this
 ·have hk2:s1.f.wk=Wk.zero:=by rw[hk];unfold Q3e;rw[if_neg h2]
  refine⟨s1,q+n.toNat,?_,by omega,hgo⟩
  unfold At
  rw[←hr]
  unfold Rn.fresh Rn.rests
  rw[←hk2]
end
def StF(S0:List Nat)(w0:World)(p:Wl)(M:Mt)(rb:Nat)(w:World):Prop:= ∃rest,StK S0 w0 p M rb rest w
theorem StK.f{S0:List Nat}{w0:World}{p:Wl}{M:Mt}{rb:Nat}{rest:List Res}{w:World}(h:StK S0 w0 p M rb rest w):StF S0 w0 p M rb w:=⟨rest,h⟩
theorem StK.set{S0:List Nat}{w0:World}{p:Wl}{M:Mt}{rb:Nat}{rest:List Res}{w:World}(h:StK S0 w0 p M rb rest w)(i:Nat)(v:Value):StK S0 w0 p M rb rest (w.setCell ⟨rb,i,none⟩ v):=by
 obtain⟨cs,hc,H⟩:=h
 exact⟨_,by simpa using hc,H.set i v⟩
attribute [local go_sem↓] Go.wp_at_zero Go.wp_at_succ
def holdStep(hs:List Int)(x:Nt):List Int:=
 if x.what=1∧Q6T x.op (hs.getD x.task.toNat 0)=true then hs.set x.task.toNat (Q0w x.op (hs.getD x.task.toNat 0))
 else if x.what=11 then hs.set x.task.toNat (Q0c x.op x.arg (hs.getD x.task.toNat 0))else hs
def holdsA(n:Nat)(l:List Nt):List Int:=l.foldl holdStep (List.replicate n 0)
theorem holdStep_len(hs:List Int)(x:Nt):(holdStep hs x).length=hs.length:=by
 unfold holdStep
 split
 ·simp
 ·split<;>simp
theorem holdsA_len(n:Nat)(l:List Nt):(holdsA n l).length=n:=by
 have: ∀(l:List Nt) (hs:List Int),(l.foldl holdStep hs).length=hs.length:=fun l=>by
  induction l with
  |nil=>intro hs;rfl
  |cons x l ih=>intro hs;exact(ih _).trans (holdStep_len hs x)
 rw[holdsA,this,List.length_replicate]
theorem holdsA_take(n:Nat)(l:List Nt)(j:Nat)(h:j<l.length):holdsA n (l.take (j+1))=holdStep (holdsA n (l.take j)) l[j]:=by
 unfold holdsA
 rw[List.take_succ_eq_append_getElem h,List.foldl_append]
 rfl
theorem holdsA_fit(n:Nat)(l:List Nt): ∀h,h∈holdsA n l→h=0∨h=1∨h=2:=by
 have: ∀(l:List Nt) (hs:List Int),(∀h,h∈hs→h=0∨h=1∨h=2)→ ∀h,h∈l.foldl holdStep hs→h=0∨h=1∨h=2:=fun l=>by
  induction l with
  |nil=>intro hs h;exact h
  |cons x l ih=>
   intro hs hh
   refine ih _ ?_
   have hg:hs.getD x.task.toNat 0=0∨hs.getD x.task.toNat 0=1∨hs.getD x.task.toNat 0=2:=by
    rcases Nat.lt_or_ge x.task.toNat hs.length with h|h
    ·have e:hs.getD x.task.toNat 0=hs[x.task.toNat]:=by simp[List.getD,h]
     rw[e];exact hh _ (List.getElem_mem h)
    ·left;simp[List.getD,h]
   unfold holdStep
   intro v hv
   split at hv
   ·rcases List.mem_or_eq_of_mem_set hv with h|rfl
    ·exact hh v h
    ·exact Q6X hg
   ·split at hv
    ·rcases List.mem_or_eq_of_mem_set hv with h|rfl
     ·exact hh v h
     ·exact Q8I hg
    ·exact hh v hv
 exact this l _ (fun h hm=>Or.inl (List.mem_replicate.1 hm).2)
theorem xcount_snoc(l:List Int)(what:Int)(j:Nat)(h:j<l.length):(l.take (j+1)).countP (· ==what)=(l.take j).countP (· ==what)+if l.getD j 0=what then 1 else 0:=by
 rw[List.take_succ_eq_append_getElem h,List.countP_append,List.countP_singleton]
 simp[List.getD,h]
def HsOk(hs:List Int):Prop:= ¬(hs.countP (· ==2)>1∨hs.countP (· ==2)=1∧hs.countP (· ==1)>0)
theorem xright_ok(n:Nat)(h1:1≤n)(h2:n≤64)(w:World):Calls Tryz.prog 42 #[.int .i64 n] w fun e w'=>e= .returned (.bool true)∧w=w':=by
 have e1:(1:Int)≤(n:Int):=by omega
 have e2:(n:Int)≤64:=by omega
 go_enter Tryz.func42,Tryz.ntmps42
 go_wp2
 go_ret
 exact⟨by simp[e1,e2],rfl⟩
theorem xcount_ok{hs:List Int}{hb:Nat}{w:World}(hc: ∀j,j<hs.length→w.cell? ⟨hb,j,none⟩=some (.int .i64 (hs.getD j 0)))(h2:hs.length≤64)(what:Int):
 Calls Tryz.prog 45 #[.slice (some ⟨hb,0,none⟩) hs.length hs.length, .int .i64 what] w fun e w'=>e= .returned (.int .i64 (hs.countP (· ==what):Nat))∧w=w':=by
 generalize hk:hs.length=k at hc h2⊢
 have HX3:=Lib.hid hc
 have HL:=Lib.hid hk
 have HK:=Lib.hid h2
 clear hc h2 hk
 go_enter Tryz.func45,Tryz.ntmps45
 go_wp2_with fail
 go_loopw [5,10] (fun c i wr=>wr=w∧ ∃j:Nat,j≤k∧i= .int .i64 j∧c= .int .i64 ((hs.take j).countP (· ==what):Nat)) (fun _ i _=>k-(intOf i).toNat)
 case atStart=>exact⟨rfl,0,Nat.zero_le _,rfl,by simp⟩
 case round=>
  obtain⟨rfl,j,hj,rfl,rfl⟩:=hrel
  by_cases hjk:j<k
  ·have hc:=HX3.out j hjk
   have hcs:=xcount_snoc hs what j (by rw[HL.out];exact hjk)
   have hcl:(hs.take j).countP (· ==what)≤k:=Nat.le_trans List.countP_le_length (by rw[List.length_take];omega)
   have hk64:=HK.out
   generalize (hs.take j).countP (· ==what)=cnt at hcs hcl⊢
   generalize hs.getD j 0=v at hc hcs
   have HCS:=Lib.hid hcs
   have hi1:(0:Int)≤(j:Int):=Int.natCast_nonneg _
   have hi2:(j:Int)<(k:Int):=by omega
   clear hcs
   by_cases hv:v=what
   ·subst hv
    go_wp2
    exact⟨⟨trivial,j+1,by omega,by go_num,by rw[HCS.out,if_pos rfl];go_num⟩,by simp[intOf];omega⟩
   ·have hv2:(v==what)=false:=by simpa using hv
    have HV:=Lib.hid hv
    clear hv
    go_wp2
    exact⟨⟨trivial,j+1,by omega,by go_num,by rw[HCS.out,if_neg HV.out,Nat.add_zero]⟩,by simp[intOf];omega⟩
  ·have hjk2:j=k:=by omega
   subst hjk2
   have e:(hs.take j).countP (· ==what)=hs.countP (· ==what):=by rw[←HL.out,List.take_length]
   rw[e]
   clear HX3 HL e
   have hi2:(j:Int)≤(j:Int):=Int.le_refl _
   go_wp2
   go_ret
   exact⟨rfl,rfl⟩
theorem xtell_ok{hs:List Int}{hb bb:Nat}{w:World}(hc: ∀j,j<hs.length→w.cell? ⟨hb,j,none⟩=some (.int .i64 (hs.getD j 0)))(h2:hs.length≤64)(hbad:w.cell? ⟨bb,0,none⟩=some (.int .i64 (-1)))(hok:HsOk hs)(at_:Int):
 Calls Tryz.prog 44 #[.int .i64 at_, .slice (some ⟨hb,0,none⟩) hs.length hs.length, .pointer (some ⟨bb,0,none⟩)] w fun e w'=>e= .returned (.bool true)∧Touch [] w w':=by
 have h1:=xcount_ok hc h2 1
 have h2:=xcount_ok hc h2 2
 unfold HsOk at hok
 generalize hs.length=k at h1 h2⊢
 generalize hs.countP (· ==1)=c1 at h1 hok
 generalize hs.countP (· ==2)=c2 at h2 hok
 have H1:=Lib.hid h1
 have H2:=Lib.hid h2
 clear h1 h2 hc
 by_cases h0:c2=1
 ·have h3:c1=0:=by omega
  subst h0 h3
  clear hok
  go_enter Tryz.func44,Tryz.ntmps44
  go_wp2_with fail
  refine H2.out.mono ?_
  rintro e w' ⟨rfl,rfl⟩
  go_wp2_with fail
  refine H1.out.mono ?_
  rintro e w' ⟨rfl,rfl⟩
  go_wp2_with fail
  go_ret
  exact⟨by simp,Touch.refl _ _⟩
 ·have h3:c2=0:=by omega
  subst h3
  clear hok h0
  go_enter Tryz.func44,Tryz.ntmps44
  go_wp2_with fail
  refine H2.out.mono ?_
  rintro e w' ⟨rfl,rfl⟩
  go_wp2_with fail
  go_ret
  exact⟨by simp,Touch.refl _ _⟩
attribute [local go_sem↓] Go.wp_at_zero Go.wp_at_succ
theorem xint_info:(Tryz.prog.info? 3).map (fun i=>(i.zero,i.size,i.bytes))=some (some (.int .i64 0),1,8):=by kernel_rfl
theorem xi64s_set(l:List Int)(i:Nat)(v:Int):(Q3S l).toArray.setIfInBounds i (.int .i64 v)=(Q3S (l.set i v)).toArray:=by
 simp[Q3S,List.map_set]
def XHolds(w:World)(hb:Nat)(hs:List Int)(W:World):Prop:=Has [] w W (.blk hb (Q3S hs).toArray::[])
theorem XHolds.facts{w W:World}{hb:Nat}{hs:List Int}(H:XHolds w hb hs W):hb<W.heap.size∧(∀j,j<hs.length→W.cell? ⟨hb,j,none⟩=some (.int .i64 (hs.getD j 0)))∧ ∀j,W.frozen? ⟨hb,j,none⟩=false:=by
 obtain⟨x0,x1,x2⟩:=(Has.at_ H 0 rfl).own
 refine⟨x0,fun j hj=> ?_,x2⟩
 rw[x1]
 simp[Q3S,List.getD,hj]
set_option maxRecDepth 100000 in
theorem xwalk_ok{w:World}{A:Option Addr}{m c n bb:Nat}{l:List Nt}(hr:Rd w 4 A m (nts l))(hb:Blk w bb #[.int .i64 (-1)])(h1:1≤n)(h2:n≤64)(hm:m≤1000000)(hin: ∀x,x∈l→0≤x.task∧x.task<n)
 (hgood: ∀j,j≤l.length→HsOk (holdsA n (l.take j))):
 Calls Tryz.prog 43 #[.int .i64 n, .slice A m c, .func (.func 44) #[] #[.pointer (some ⟨bb,0,none⟩)]] w fun e w'=>(∃v,e= .returned v)∧Touch [] w w':=by
 have hlm:l.length=m:=by have:=hr.1;unfold nts at this;rw[Q3v (dec:=Nt.cells) (size:=4) (fun _=>rfl)]at this;omega
 obtain⟨j0,hj0,hy0,hy1,hy2⟩:=info_parts xint_info
 have HJ:=Lib.hid (show _∧_∧_∧_ from⟨hj0,hy0,hy1,hy2⟩)
 have HR:=Lib.hid hr
 have HB:=Lib.hid hb
 have HLM:=Lib.hid hlm
 have HN:=Lib.hid (And.intro h1 h2)
 have HM:=Lib.hid hm
 have HIN:=Lib.hid hin
 have HG:=Lib.hid hgood
 clear hj0 hy0 hy1 hy2 hr hb hlm h1 h2 hm hin hgood
 go_enter Tryz.func43,Tryz.ntmps43
 have hn64:=HN.out
 go_wp2_with (at_make;refine wpList_make_full _ rfl _ _ 30 rfl 0 3 j0 _ 1 Tryz.underlying30 HJ.out.1 HJ.out.2.1 HJ.out.2.2.1 _ _ _ _ n rfl rfl rfl rfl (by rw[HJ.out.2.2.2];omega) (by unfold maxLen;omega) (Nat.zero_le _) ?_;intro w4 hown hg)
 have hB:=X8y hown
 rw[Nat.mul_one,show(madeCells (Value.int IntKind.i64 0).cells n).toList=List.replicate n (Value.int .i64 0)from toList_madeCells_one _ n]at hB
 have hz:(List.replicate n (Value.int .i64 0)).toArray=(Q3S (holdsA n (l.take 0))).toArray:=by simp[Q3S,holdsA]
 rw[hz]at hB
 have H0:XHolds w w.heap.size (holdsA n (l.take 0)) w4:=(Has.start [] w).came (.blk w.heap.size (Q3S (holdsA n (l.take 0))).toArray) ((Touch.refl [] w).grown hg (by simp)) (by simp) hB (by intro b hb;simp[Res.foot]at hb;omega)
 have HS:=Lib.hid H0
 clear hown hg hB hz H0 hn64
 generalize w.heap.size=hb at*
 go_wp2_with fail
 go_loopw [15] (fun i W=> ∃j:Nat,j≤m∧i= .int .i64 j∧XHolds w hb (holdsA n (l.take j)) W) (fun i _=>m-(intOf i).toNat)
 case atStart=>exact⟨0,Nat.zero_le _,rfl,HS.out⟩
 case round=>
  obtain⟨j,hj,rfl,hR⟩:=hrel
  clear HS
  have hi1:(0:Int)≤(j:Int):=Int.natCast_nonneg _
  by_cases hjk:j<m
  ·have hi2:(j:Int)<(m:Int):=by omega
   have hBr:=HR.out.touch (Has.touch hR) (by simp)
   obtain⟨b,off,o,rfl,hbb,ho,hol⟩:=Q5j (dec:=Nt.cells) (size:=4) (by decide) (fun _=>rfl) hBr hjk
   obtain⟨c0,c1⟩:=Q4w (dec:=Nt.cells) (size:=4) (by decide) (fun _=>rfl) hBr hjk ho
   obtain⟨hjl,hjo⟩:=List.getElem?_eq_some_iff.1 ho
   have htk:=holdsA_take n l j hjl
   have hio:=HIN.out _ (List.getElem_mem hjl)
   have hgd:=HG.out (j+1) (by omega)
   have hln:=holdsA_len n (l.take j)
   have hft:=holdsA_fit n (l.take j)
   rw[hjo]at htk hio
   rw[htk]at hgd
   obtain⟨task,what,op,arg⟩:=o
   have f0:=c1 0 _ rfl
   have f1:=c1 1 _ rfl
   have f2:=c1 2 _ rfl
   have f3:=c1 3 _ rfl
   simp only[Nat.add_zero]at f0 f1 f2 f3 hio
   obtain⟨i,rfl⟩: ∃i:Nat,task=i:=⟨task.toNat,by omega⟩
   have HTK:=Lib.hid htk
   have HGD:=Lib.hid hgd
   have HLN:=Lib.hid hln
   have HRW:=Lib.hid hR
   have hi0:i<n:=by omega
   have hh:(holdsA n (l.take j)).getD i 0=0∨(holdsA n (l.take j)).getD i 0=1∨(holdsA n (l.take j)).getD i 0=2:=by
    have e:(holdsA n (l.take j)).getD i 0=(holdsA n (l.take j))[i]:=by simp[List.getD,hln,hi0]
    rw[e];exact hft _ (List.getElem_mem _)
   have HH:=Lib.hid hh
   clear c1 hBr ho hol hjo htk hgd hln hft hR hh
   generalize holdsA n (l.take j)=hs at*
   have hi3:(0:Int)≤(i:Int):=Int.natCast_nonneg _
   have hi4:(i:Int)<(n:Int):=by omega
   clear hio
   go_wp2_with fail
   refine Q1q (Facts:=fun W=>Has [] w W (.blk wr.heap.size #[.int .i64 i, .int .i64 what, .int .i64 op, .int .i64 arg]:: .blk hb (Q3S hs).toArray::[])) ?_ (Has.X1F HRW.out)
   clear HRW f0 f1 f2 f3 hbb c0
   intro W HW
   generalize wr.heap.size=xb at HW⊢
   have hcl:=(Has.at_ HW 1 rfl).cell i
   rw[show(Q3S hs).toArray[i]? =some (.int .i64 (hs.getD i 0))by simp[Q3S,List.getD,HLN.out,hi0]]at hcl
   obtain⟨y0,y1,y2⟩:=(Has.at_ HW 1 rfl).own
   obtain⟨x0,x1,x2⟩:=(Has.at_ HW 0 rfl).own
   clear y1
   have HWW:=Lib.hid HW
   clear HW
   unfold holdStep at HTK HGD
   simp only[Int.toNat_natCast]at HTK HGD
   generalize hs.getD i 0=hv at HTK HGD HH hcl
   by_cases hw1:what=1
   ·subst hw1
    have hmay:=fun W=>smay op hv HH.out W
    generalize Q6T op hv=mb at hmay HTK HGD
    have HMAY:=Lib.hid hmay
    clear hmay
    cases mb with
    |true=>
     simp only[true_and,if_true]at HTK HGD
     go_wp2_with fail
     refine Q1a (by kernel_rfl) (by kernel_rfl) ?_
     simp only[Q0G,probes,List.cons_append,probe,List.nil_append]
     go_wp2_with fail
     refine(HMAY.out _).mono ?_
     rintro e w3⟨rfl,rfl⟩
     go_wp2_with fail
     rw[Q0g]
     simp only[Exit.inBlock,Exit.then]
     refine‹∀(a:Act) (w:World),Code.wp _ _ _ a w→_› _ _ ?_
     go_wp2_with fail
     refine Q1a (by kernel_rfl) (by kernel_rfl) ?_
     simp only[Q0G,probes,List.cons_append,probe,List.nil_append]
     go_wp2_with fail
     refine(sat op hv _).mono ?_
     rintro e w3⟨rfl,rfl⟩
     go_wp2_with fail
     rw[Q0g]
     simp only[Exit.inBlock,Exit.then]
     refine‹∀(a:Act) (w:World),Code.wp _ _ _ a w→_› _ _ ?_
     refine Q1q (Facts:=fun W=>XHolds w hb (hs.set i (Q0w op hv)) W) ?_ (((by unfold XHolds;rw[←xi64s_set];exact(((HWW.out.front 1 (by simp)).set i (.int .i64 (Q0w op hv))).front 1 (by simp)).tail.drew.drew)))
     intro V HV
     obtain⟨v0,v1,v2⟩:=XHolds.facts HV
     have htl:=xtell_ok v1 (by(try simp only[List.length_set]);rw[HLN.out];exact HN.out.2) (((Has.touch HV).blk HB.out (by simp)).cell 0) HGD.out j
     try simp only[List.length_set]at htl
     rw[HLN.out]at htl
     have HTL:=Lib.hid htl
     have HVV:=Lib.hid HV
     have hmm:=HM.out
     clear htl HV v0 v1 v2 y0 y2 x0 x1 x2 hcl HWW
     go_wp2_with fail
     refine HTL.out.mono ?_
     rintro e V2⟨rfl,t2⟩
     have HT:=Lib.hid t2
     clear t2
     go_wp2_with fail
     exact⟨⟨j+1,by omega,by go_num,by rw[HTK.out];exact HVV.out.grow HT.out⟩,by simp[intOf];omega⟩
    |false=>
     simp only[Bool.false_eq_true,and_false,if_false,show¬((1:Int)=11)by decide]at HTK HGD
     go_wp2_with fail
     refine Q1a (by kernel_rfl) (by kernel_rfl) ?_
     simp only[Q0G,probes,List.cons_append,probe,List.nil_append]
     go_wp2_with fail
     refine(HMAY.out _).mono ?_
     rintro e w3⟨rfl,rfl⟩
     go_wp2_with fail
     rw[Q0g]
     simp only[Exit.inBlock,Exit.then]
     refine‹∀(a:Act) (w:World),Code.wp _ _ _ a w→_› _ _ ?_
     go_wp2_with fail
     refine Q1e (Facts:=fun W=>XHolds w hb (hs) W) ?_ (HWW.out.tail.drew)
     intro V HV
     obtain⟨v0,v1,v2⟩:=XHolds.facts HV
     have htl:=xtell_ok v1 (by(try simp only[List.length_set]);rw[HLN.out];exact HN.out.2) (((Has.touch HV).blk HB.out (by simp)).cell 0) HGD.out j
     try simp only[List.length_set]at htl
     rw[HLN.out]at htl
     have HTL:=Lib.hid htl
     have HVV:=Lib.hid HV
     have hmm:=HM.out
     clear htl HV v0 v1 v2 y0 y2 x0 x1 x2 hcl HWW
     refine HTL.out.mono ?_
     rintro e V2⟨rfl,t2⟩
     have HT:=Lib.hid t2
     clear t2
     go_wp2_with fail
     exact⟨⟨j+1,by omega,by go_num,by rw[HTK.out];exact HVV.out.grow HT.out⟩,by simp[intOf];omega⟩
   ·have hw1b:(what==1)=false:=by simpa using hw1
    simp only[hw1,false_and,if_false]at HTK HGD
    by_cases hw2:what=11
    ·subst hw2
     simp only[if_true]at HTK HGD
     clear hw1 hw1b
     go_wp2_with fail
     refine Q1a (by kernel_rfl) (by kernel_rfl) ?_
     simp only[Q0G,probes,List.cons_append,probe,List.nil_append]
     go_wp2_with fail
     rw[Q0g]
     simp only[Exit.inBlock,Exit.then]
     refine‹∀(a:Act) (w:World),Code.wp _ _ _ a w→_› _ _ ?_
     go_wp2_with fail
     refine Q1a (by kernel_rfl) (by kernel_rfl) ?_
     simp only[Q0G,probes,List.cons_append,probe,List.nil_append]
     go_wp2_with fail
     refine(Y3p op arg hv _).mono ?_
     rintro e w3⟨rfl,rfl⟩
     go_wp2_with fail
     rw[Q0g]
     simp only[Exit.inBlock,Exit.then]
     refine‹∀(a:Act) (w:World),Code.wp _ _ _ a w→_› _ _ ?_
     refine Q1q (Facts:=fun W=>XHolds w hb (hs.set i (Q0c op arg hv)) W) ?_ (((by unfold XHolds;rw[←xi64s_set];exact(((HWW.out.front 1 (by simp)).set i (.int .i64 (Q0c op arg hv))).front 1 (by simp)).tail.drew.drew)))
     intro V HV
     obtain⟨v0,v1,v2⟩:=XHolds.facts HV
     have htl:=xtell_ok v1 (by(try simp only[List.length_set]);rw[HLN.out];exact HN.out.2) (((Has.touch HV).blk HB.out (by simp)).cell 0) HGD.out j
     try simp only[List.length_set]at htl
     rw[HLN.out]at htl
     have HTL:=Lib.hid htl
     have HVV:=Lib.hid HV
     have hmm:=HM.out
     clear htl HV v0 v1 v2 y0 y2 x0 x1 x2 hcl HWW
     go_wp2_with fail
     refine HTL.out.mono ?_
     rintro e V2⟨rfl,t2⟩
     have HT:=Lib.hid t2
     clear t2
     go_wp2_with fail
     exact⟨⟨j+1,by omega,by go_num,by rw[HTK.out];exact HVV.out.grow HT.out⟩,by simp[intOf];omega⟩
    ·have hw2b:(what==11)=false:=by simpa using hw2
     simp only[hw2,if_false]at HTK HGD
     clear hw1 hw2
     go_wp2_with fail
     refine Q1a (by kernel_rfl) (by kernel_rfl) ?_
     simp only[Q0G,probes,List.cons_append,probe,List.nil_append]
     go_wp2_with fail
     rw[Q0g]
     simp only[Exit.inBlock,Exit.then]
     refine‹∀(a:Act) (w:World),Code.wp _ _ _ a w→_› _ _ ?_
     go_wp2_with fail
     refine Q1e (Facts:=fun W=>XHolds w hb (hs) W) ?_ (HWW.out.tail.drew)
     intro V HV
     obtain⟨v0,v1,v2⟩:=XHolds.facts HV
     have htl:=xtell_ok v1 (by(try simp only[List.length_set]);rw[HLN.out];exact HN.out.2) (((Has.touch HV).blk HB.out (by simp)).cell 0) HGD.out j
     try simp only[List.length_set]at htl
     rw[HLN.out]at htl
     have HTL:=Lib.hid htl
     have HVV:=Lib.hid HV
     have hmm:=HM.out
     clear htl HV v0 v1 v2 y0 y2 x0 x1 x2 hcl HWW
     refine HTL.out.mono ?_
     rintro e V2⟨rfl,t2⟩
     have HT:=Lib.hid t2
     clear t2
     go_wp2_with fail
     exact⟨⟨j+1,by omega,by go_num,by rw[HTK.out];exact HVV.out.grow HT.out⟩,by simp[intOf];omega⟩
  ·have hjk2:j=m:=by omega
   have hi2:(m:Int)≤(j:Int):=by omega
   have HRW:=Lib.hid hR
   clear hR
   go_wp2_with fail
   go_ret
   exact⟨⟨_,rfl⟩,Has.touch HRW.out⟩
theorem xcheck_ok{w:World}{A:Option Addr}{m c n:Nat}{l:List Nt}(hr:Rd w 4 A m (nts l))(h1:1≤n)(h2:n≤64)(hm:m≤1000000)(hin: ∀x,x∈l→0≤x.task∧x.task<n)
 (hgood: ∀j,j≤l.length→HsOk (holdsA n (l.take j))):
 Calls Tryz.prog 28 #[.int .i64 n, .slice A m c] w fun e w'=>e= .returned (.tuple #[.int .i64 0, .int .i64 0])∧Touch [] w w':=by
 have hw: ∀(W:World) (bb:Nat),Has [] w W (.blk bb #[.int .i64 (-1)]::[])→Calls Tryz.prog 43 #[.int .i64 n, .slice A m c, .func (.func 44) #[] #[.pointer (some ⟨bb,0,none⟩)]] W fun e w'=>(∃v,e= .returned v)∧Touch [] W w':=fun W bb H=>
  xwalk_ok (hr.touch (Has.touch H) (by simp)) (Has.at_ H 0 rfl) h1 h2 hm hin hgood
 have hri:=fun W=>xright_ok n h1 h2 W
 have HWK:=Lib.hid hw
 have HRI:=Lib.hid hri
 clear hw hri hr hm hin hgood h1 h2
 go_enter Tryz.func28,Tryz.ntmps28
 go_wp2_with fail
 refine(HRI.out _).mono ?_
 rintro e w1⟨rfl,rfl⟩
 go_wp2_with fail
 refine Q1e (Facts:=fun W=>Has [] w W (.blk w.heap.size #[.int .i64 (-1)]::[])) ?_ ((Has.start [] w).X1F)
 intro W HW
 generalize w.heap.size=bb at HW⊢
 have HV:=Lib.hid HW
 clear HW
 refine(HWK.out W bb HV.out).mono ?_
 rintro e w2⟨⟨v,rfl⟩,t2⟩
 obtain⟨x0,x1,x2⟩:=(t2.blk (Has.at_ HV.out 0 rfl) (by simp)).own
 have HT:=Lib.hid ((Has.touch HV.out).trans t2)
 clear t2
 go_wp2_with fail
 exact bodyPost_ret (v:= .tuple #[.int .i64 0, .int .i64 0]) (by simp[results,Tryz.results28,go_sem]) rfl ⟨rfl,HT.out⟩
def NC(i:Int)(s:Rn):Prop:=s.task=i∧ ∀x,x∈s.notes→x.task=i∧x.what≠1∧x.what≠11
section
variable {i:Int}{s:Rn}
theorem nc_did{R}(h:NC i s):NC i (s.did R):=h
theorem nc_setA{v}(h:NC i s):NC i (s.Q0h v):=h
theorem nc_setB{v}(h:NC i s):NC i (s.setB v):=h
theorem nc_goto{v}(h:NC i s):NC i (s.goto v):=h
theorem nc_wake{v}(h:NC i s):NC i (s.wake v):=h
theorem nc_fin{v}(h:NC i s):NC i (s.fin v):=h
theorem nc_waited{v}(h:NC i s):NC i (s.waited v):=h
theorem nc_keep{v}(h:NC i s):NC i (s.keep v):=by
 unfold Rn.keep
 split<;>exact h
theorem nc_note{a b:Int}(ha:a≠1∧a≠11)(h:NC i s):NC i (s.note a b):=by
 refine⟨h.1,fun x hx=> ?_⟩
 rcases List.mem_append.1 (show x∈s.notes++[_]from hx)with h1|h1
 ·exact h.2 x h1
 ·rw[List.mem_singleton.1 h1]
  exact⟨h.1,ha⟩
theorem nc_noted: ∀(l:List Int) (s:Rn),(∀a,a∈l→a≠1∧a≠11)→NC i s→NC i (s.Q0d l)
 |[],s,_,h=>h
 |a::l,s,ha,h=>nc_noted l _ (fun b hb=>ha b (List.mem_cons_of_mem _ hb)) (nc_note (ha a (by simp)) h)
theorem nc_ite{c:Prop}[Decidable c]{a b:Rn}(ha:NC i a)(hb:NC i b):NC i (if c then a else b):=by
 split
 ·exact ha
 ·exact hb
theorem nc_ite2{α:Type}{c:Prop}[Decidable c]{a b:α×Rn}(ha:NC i a.2)(hb:NC i b.2):NC i (if c then a else b).2:=by
 split
 ·exact ha
 ·exact hb
theorem nc_ite3{α β:Type}{c:Prop}[Decidable c]{a b:α×β×Rn}(ha:NC i a.2.2)(hb:NC i b.2.2):NC i (if c then a else b).2.2:=by
 split
 ·exact ha
 ·exact hb
theorem tfTake_nc(h:NC i s):NC i (Q2t s).1:=by
 unfold Q2t
 dsimp only
 split
 ·exact nc_did h
 ·exact nc_goto (nc_did h)
theorem tf_nc(h:NC i s):NC i (tfA s):=by
 simp only[tfA,Y5d,Y3g,Y5c,Y5b,Y5a,Y3f,Y4Z,Y4Y,Y4X,Y4W,Y4V,Y4U,Y4T,Y4S,Y4R,Y4Q,Y4P,Y4O,Y4N,Y4M,Q0x,Q0J,Q5J]
 (repeat' first|with_reducible assumption|with_reducible refine nc_ite ?_ ?_|with_reducible refine nc_fin ?_|with_reducible refine nc_wake ?_|with_reducible refine nc_goto ?_|with_reducible refine nc_note (by decide) ?_|with_reducible refine nc_noted _ _ (by decide) ?_|with_reducible refine nc_setA ?_|with_reducible refine nc_setB ?_|with_reducible refine nc_did ?_|with_reducible refine nc_waited ?_|with_reducible refine nc_keep ?_|exact tfTake_nc h)
theorem rf_nc(h:NC i s):NC i (rfA s):=by
 simp only[rfA,Y5l,Y3D,Y5k,Y5j,Y5i,Y3C,Y5h,Y6v,Y6u,Y6t,Y6s,Y6r,Y6q,Y5g,Rn.ends,Rn.refused,Rn.chosen,Rn.swapped]
 (repeat' first|with_reducible assumption|with_reducible refine nc_ite ?_ ?_|with_reducible refine nc_fin ?_|with_reducible refine nc_wake ?_|with_reducible refine nc_goto ?_|with_reducible refine nc_note (by decide) ?_|with_reducible refine nc_noted _ _ (by decide) ?_|with_reducible refine nc_setA ?_|with_reducible refine nc_setB ?_|with_reducible refine nc_did ?_|with_reducible refine nc_waited ?_|with_reducible refine nc_keep ?_)
theorem wf_nc(h:NC i s):NC i (wfA s):=by
 simp only[wfA,Y4K,Y4J,Y2W,Y4I,Y4H,Y4G,Y2V,Y4F,Y4E,Y4D,Y4C,Y4B,Y4A,Y4z,Y4y,Y4x,Y4w,Rn.Q1Q,Q0I,Rn.Q4A,Rn.Q3K]
 (repeat' first|with_reducible assumption|with_reducible refine nc_ite ?_ ?_|with_reducible refine nc_fin ?_|with_reducible refine nc_wake ?_|with_reducible refine nc_goto ?_|with_reducible refine nc_note (by decide) ?_|with_reducible refine nc_noted _ _ (by decide) ?_|with_reducible refine nc_setA ?_|with_reducible refine nc_setB ?_|with_reducible refine nc_did ?_|with_reducible refine nc_waited ?_|with_reducible refine nc_keep ?_)
theorem pf_nc(h:NC i s):NC i (pfA s):=by
 simp only[pfA,Y5x,Y3W,Y5w,Y5v,Y3V,Y5u,Y5t,Y5s,Y5r,Y5q,Y5p,Y5o,Y5n,X5t,X2x,X5q,X5o,X5m,Y2s,Y2r,Y2q,Y2p,X5h,X5f,Y2o,Y2n,X2v,X2u,X8c,X5a,Y2m,Rn.Q0E,X8k,X8j,Q7r,Q7q]
 (repeat' first|with_reducible assumption|with_reducible refine nc_ite ?_ ?_|with_reducible refine nc_fin ?_|with_reducible refine nc_wake ?_|with_reducible refine nc_goto ?_|with_reducible refine nc_note (by decide) ?_|with_reducible refine nc_noted _ _ (by decide) ?_|with_reducible refine nc_setA ?_|with_reducible refine nc_setB ?_|with_reducible refine nc_did ?_|with_reducible refine nc_waited ?_|with_reducible refine nc_keep ?_)
theorem mxEnter_nc{t c:Int}(h:NC i s):NC i (Q0n t c s).2:=by
 simp only[Q0n,Q1S,Q2b,Q1U,Q2a,Q1Y]
 (repeat' first|with_reducible assumption|with_reducible refine nc_ite ?_ ?_|with_reducible refine nc_fin ?_|with_reducible refine nc_wake ?_|with_reducible refine nc_goto ?_|with_reducible refine nc_note (by decide) ?_|with_reducible refine nc_noted _ _ (by decide) ?_|with_reducible refine nc_setA ?_|with_reducible refine nc_setB ?_|with_reducible refine nc_did ?_|with_reducible refine nc_waited ?_|with_reducible refine nc_keep ?_|with_reducible refine nc_ite2 ?_ ?_|with_reducible refine nc_ite3 ?_ ?_)
theorem mxTry_nc{t:Int}(h:NC i s):NC i (Q0L t s).2.2:=by
 simp only[Q0L,Q1S]
 (repeat' first|with_reducible assumption|with_reducible refine nc_ite ?_ ?_|with_reducible refine nc_fin ?_|with_reducible refine nc_wake ?_|with_reducible refine nc_goto ?_|with_reducible refine nc_note (by decide) ?_|with_reducible refine nc_noted _ _ (by decide) ?_|with_reducible refine nc_setA ?_|with_reducible refine nc_setB ?_|with_reducible refine nc_did ?_|with_reducible refine nc_waited ?_|with_reducible refine nc_keep ?_|with_reducible refine nc_ite2 ?_ ?_|with_reducible refine nc_ite3 ?_ ?_)
theorem mxGive_nc{t q:Int}{nl:List Int}(hl: ∀a,a∈nl→a≠1∧a≠11)(h:NC i s):NC i (Q0v t q nl s).2:=by
 simp only[Q0v,Q1X,Q1T,Q1W,Q1Z]
 (repeat' first|with_reducible assumption|with_reducible refine nc_ite ?_ ?_|with_reducible refine nc_fin ?_|with_reducible refine nc_wake ?_|with_reducible refine nc_goto ?_|with_reducible refine nc_note (by decide) ?_|with_reducible refine nc_noted _ _ (by decide) ?_|with_reducible refine nc_setA ?_|with_reducible refine nc_setB ?_|with_reducible refine nc_did ?_|with_reducible refine nc_waited ?_|with_reducible refine nc_keep ?_|with_reducible refine nc_ite2 ?_ ?_|with_reducible refine nc_ite3 ?_ ?_|with_reducible refine nc_noted _ _ hl ?_)
theorem pq_nc(h:NC i s):NC i (pqA s):=by
 simp only[pqA,Q1o,Q1n,Q1m,Q1l,Q1k,Q1h,Q0M,Q1H,Q0y,Q1M,Q1L,Q0P,Q0O,Q0S,Q1d]
 (repeat' first|with_reducible assumption|with_reducible refine nc_ite ?_ ?_|with_reducible refine nc_fin ?_|with_reducible refine nc_wake ?_|with_reducible refine nc_goto ?_|with_reducible refine nc_note (by decide) ?_|with_reducible refine nc_noted _ _ (by decide) ?_|with_reducible refine nc_setA ?_|with_reducible refine nc_setB ?_|with_reducible refine nc_did ?_|with_reducible refine nc_waited ?_|with_reducible refine nc_keep ?_|exact mxEnter_nc h|exact mxTry_nc h|exact mxGive_nc (by decide) h)
theorem fq_nc(h:NC i s):NC i (fqA s):=by
 simp only[fqA,Q0Q,Q1c,Q1I,Q0z,Q0B,Q0A,Q0C]
 (repeat' first|with_reducible assumption|with_reducible refine nc_ite ?_ ?_|with_reducible refine nc_fin ?_|with_reducible refine nc_wake ?_|with_reducible refine nc_goto ?_|with_reducible refine nc_note (by decide) ?_|with_reducible refine nc_noted _ _ (by decide) ?_|with_reducible refine nc_setA ?_|with_reducible refine nc_setB ?_|with_reducible refine nc_did ?_|with_reducible refine nc_waited ?_|with_reducible refine nc_keep ?_|exact mxEnter_nc h|exact mxTry_nc h|exact mxGive_nc (by decide) h)
end
end Go.Proofs.YthnimpkoidablaaGreat.Z
