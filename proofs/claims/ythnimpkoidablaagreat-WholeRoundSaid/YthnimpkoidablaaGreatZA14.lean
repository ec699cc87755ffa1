import Derived.Test.YthnimpkoidablaaGreatZA11
set_option linter.unusedVariables false
set_option linter.unusedSimpArgs false
namespace Go.Proofs.YthnimpkoidablaaGreat.Z
open Go.RowKit
end Go.Proofs.YthnimpkoidablaaGreat.Z
namespace Go.Proofs.YthnimpkoidablaaGreat.ZB
open Go.RowKit
theorem Q3A(v s w:Nat):v &&&((2 ^w-1)*2 ^s)=(v/2 ^s%2 ^w)*2 ^s:=by
 rw[←Nat.shiftLeft_eq,←Nat.shiftLeft_eq,←Nat.shiftRight_eq_div_pow]
 apply Nat.eq_of_testBit_eq
 intro i
 simp only[Nat.testBit_and,Nat.testBit_shiftLeft,Nat.testBit_two_pow_sub_one,Nat.testBit_mod_two_pow,Nat.testBit_shiftRight]
 by_cases h:i≥s
 ·have e:s+(i-s)=i:=by omega
  simp only[h,decide_true,Bool.true_and,e]
  exact Bool.and_comm _ _
 ·simp[h]
theorem Q3c(k n:Nat):BitVec.ofInt k (n:Int)=BitVec.ofNat k n:=by simp
theorem Q3z(a b:Nat)(ha:a<4294967296)(hb:b<4294967296):Go.bits .and .u32 (a:Int) (b:Int)=((a &&&b:Nat):Int):=by
 unfold Go.bits
 simp only[Q3c,BitVec.toNat_and,BitVec.toNat_ofNat]
 rw[Nat.mod_eq_of_lt (by simpa[IntKind.bits]using ha),Nat.mod_eq_of_lt (by simpa[IntKind.bits]using hb)]
 rw[IntKind.wrap_u32]
 have:a &&&b≤a:=Nat.and_le_left
 omega
theorem and_split(v m:BitVec 32):v.toNat=(v &&&m).toNat+(v &&& ~~~m).toNat:=by
 have hz:(v &&&m) &&&(v &&& ~~~m)=0#32:=by ext i;simp only[BitVec.getElem_and,BitVec.getElem_or,BitVec.getElem_not,BitVec.getElem_zero];cases v[i]<;>cases m[i]<;>rfl
 have hor:(v &&&m)|||(v &&& ~~~m)=v:=by ext i;simp only[BitVec.getElem_and,BitVec.getElem_or,BitVec.getElem_not,BitVec.getElem_zero];cases v[i]<;>cases m[i]<;>rfl
 have:=BitVec.add_eq_or_of_and_eq_zero _ _ hz
 rw[hor]at this
 have h2:=congrArg BitVec.toNat this
 rw[BitVec.toNat_add]at h2
 have h3:(v &&& ~~~m).toNat≤(~~~m).toNat:=by rw[BitVec.toNat_and];exact Nat.and_le_right
 have h4:(v &&&m).toNat≤m.toNat:=by rw[BitVec.toNat_and];exact Nat.and_le_right
 rw[BitVec.toNat_not]at h3
 have:=m.isLt
 rw[Nat.mod_eq_of_lt (by omega)]at h2
 exact h2.symm
theorem Q8u(v x m:BitVec 32):((v &&& ~~~m)|||(x &&&m)).toNat=(v &&& ~~~m).toNat+(x &&&m).toNat:=by
 have hz:(v &&& ~~~m) &&&(x &&&m)=0#32:=by ext i;simp only[BitVec.getElem_and,BitVec.getElem_not,BitVec.getElem_zero];cases v[i]<;>cases x[i]<;>cases m[i]<;>rfl
 have:=BitVec.add_eq_or_of_and_eq_zero _ _ hz
 rw[←this,BitVec.toNat_add]
 have h3:(v &&& ~~~m).toNat≤(~~~m).toNat:=by rw[BitVec.toNat_and];exact Nat.and_le_right
 have h4:(x &&&m).toNat≤m.toNat:=by rw[BitVec.toNat_and];exact Nat.and_le_right
 rw[BitVec.toNat_not]at h3
 have:=m.isLt
 rw[Nat.mod_eq_of_lt (by omega)]
theorem X2W(a b:Nat)(ha:a<4294967296)(hb:b<4294967296):Go.bits .or .u32 (a:Int) (b:Int)=((BitVec.ofNat 32 a|||BitVec.ofNat 32 b).toNat:Int):=by
 show(IntKind.u32.wrap ((BitVec.ofInt 32 (a:Int)|||BitVec.ofInt 32 (b:Int)).toNat:Int))=_
 rw[Q3c,Q3c,IntKind.wrap_u32]
 have:=(BitVec.ofNat 32 a|||BitVec.ofNat 32 b).isLt
 omega
theorem Q6B(a b:Nat):Go.bits .andNot .u32 (a:Int) (b:Int)=((BitVec.ofNat 32 a &&& ~~~(BitVec.ofNat 32 b)).toNat:Int):=by
 show(IntKind.u32.wrap ((BitVec.ofInt 32 (a:Int) &&& ~~~(BitVec.ofInt 32 (b:Int))).toNat:Int))=_
 rw[Q3c,Q3c,IntKind.wrap_u32]
 have:=(BitVec.ofNat 32 a &&& ~~~(BitVec.ofNat 32 b)).isLt
 omega
theorem Q7t(a:Nat)(ha:a<4294967296):(BitVec.ofNat 32 a).toNat=a:=by
 rw[BitVec.toNat_ofNat];exact Nat.mod_eq_of_lt (by omega)
theorem X4i(v x m:Nat)(hv:v<4294967296)(hx:x<4294967296)(hm:m<4294967296):
 Go.bits .or .u32 (Go.bits .andNot .u32 (v:Int) (m:Int)) (Go.bits .and .u32 (x:Int) (m:Int))=(v:Int)-((v &&&m:Nat):Int)+((x &&&m:Nat):Int):=by
 rw[Q3z x m hx hm,Q6B]
 have e1:=and_split (BitVec.ofNat 32 v) (BitVec.ofNat 32 m)
 have e2:=Q8u (BitVec.ofNat 32 v) (BitVec.ofNat 32 x) (BitVec.ofNat 32 m)
 have ex:(BitVec.ofNat 32 x &&&BitVec.ofNat 32 m).toNat=x &&&m:=by rw[BitVec.toNat_and,Q7t x hx,Q7t m hm]
 have ev:(BitVec.ofNat 32 v &&&BitVec.ofNat 32 m).toNat=v &&&m:=by rw[BitVec.toNat_and,Q7t v hv,Q7t m hm]
 have e5:BitVec.ofNat 32 (x &&&m)=(BitVec.ofNat 32 x &&&BitVec.ofNat 32 m):=by
  apply BitVec.eq_of_toNat_eq
  rw[ex,Q7t]
  have:x &&&m≤x:=Nat.and_le_left
  omega
 have hl:x &&&m<4294967296:=by
  have:x &&&m≤x:=Nat.and_le_left
  omega
 generalize hA:(BitVec.ofNat 32 v &&& ~~~(BitVec.ofNat 32 m))=A at e1 e2⊢
 have hlt:=A.isLt
 rw[X2W _ _ (by omega) hl,e5,show BitVec.ofNat 32 A.toNat=A from by simp,e2,ex]
 rw[ev,Q7t v hv]at e1
 omega
end Go.Proofs.YthnimpkoidablaaGreat.ZB
namespace Go.Proofs.YthnimpkoidablaaGreat.Z
theorem X8C{w:World}{m a:Nat}{L:List Int}(h:Mem w m a L)(b:Nat)(hm:m≠b)(hb:L.length=0∨b=a):Mem w m b L:=by
 rcases hb with hb|rfl
 ·obtain⟨p,cap,hh,r1,r2,r3⟩:=h.head
  exact⟨hm,h.words,⟨p,cap,hh,r1,r2,fun h0=>absurd h0 (by omega)⟩,fun h0=>absurd h0 (by omega)⟩
 ·exact h
theorem X4n{S0:List Nat}{w0 w:World}{m a r:Nat}{nv:Value}{rs:List Res}{s:Rn}(H:Has S0 w0 w (.mem m a s.L:: .blk r (Q0V m s nv)::rs))(c:Int)(hn:I64 s.n)(fid:FuncId)(first cap:Array Value)(p:Int→Bool)
 (eg: ∀args w,(callFunc fid args).run Tryz.prog w= .ok (.enter fid args) w)
 (hF: ∀W v,0≤v→v<4294967296→Has S0 w0 W (.mem m a s.L:: .blk r (Q0V m s nv)::rs)→Calls Tryz.prog fid (first++ #[.int .u32 v]++cap) W fun e W'=>e= .returned (.bool (p v))∧Touch [r] W W'∧Blk W' r (Q0V m (if p v then s.Q0h v else s) nv)):
 Calls Tryz.prog 131 #[.pointer (some ⟨m,0,none⟩), .agg #[.int .i64 s.n], .int .i64 s.mode, .int .i64 s.task, .agg #[.int .i64 s.f.st], .int .i64 c, .func (.func fid) first cap] w
  fun e w'=>e= .returned (Q0t s.L s.n s.mode s.task s.f.st c p).value∧Has S0 w0 w' (.mem m a (Q0t s.L s.n s.mode s.task s.f.st c p).words:: .blk r (Q0V m (s.keep (Q0t s.L s.n s.mode s.task s.f.st c p)) nv)::rs):=by
 have hM:=H.mem
 have hv:=Q0s s.L hM.words ⟨1,c,0,0,0⟩
 have hrl:r<w.heap.size:=H.Q7A.lt
 have hfar: ∀k,k∈(Res.mem m a s.L).foot→k≠r:=fun k hk e=>(List.pairwise_cons.1 H.apart).1 (.blk r (Q0V m s nv)) (by simp) k hk (by simp[Res.foot,e])
 have hback: ∀(w':World) (cs:Array Value),Mem w' m a s.L→Touch [r] w w'→Blk w' r cs→Has S0 w0 w' (.mem m a s.L:: .blk r cs::rs):=fun w' cs hM' t hb=>
  Has.swap (Has.upd (xs:=[.blk r (Q0V m s nv)]) (rs:= .mem m a s.L::rs) [.blk r cs] (S:=[r]) H.swap t (by simp[Q1F,Res.foot]) (by simp[Res.holds];exact hb) (by simp) (by simp[Q1F,Res.foot]))
 have hpure: ∀(R:Q5C) (e:Ending) (w':World),R.seen=false→R.words.length=s.L.length→(e= .returned R.value∧Mem w' m a R.words∧Touch (lv a s.L) w w')→e= .returned R.value∧Has S0 w0 w' (.mem m a R.words:: .blk r (Q0V m (s.keep R) nv)::rs):=by
  rintro R e w' hs hl⟨he,hM',t⟩
  refine⟨he,?_⟩
  unfold Rn.keep
  rw[hs]
  exact H.words hM' hl t
 obtain⟨a',ha',har,hma⟩: ∃a',(s.L.length=0∨a'=a)∧r≠a'∧m≠a':=by
  by_cases h0:s.L.length=0
  ·exact⟨m+r+1,Or.inl h0,by omega,by omega⟩
  ·exact⟨a,Or.inr rfl,fun e=>hfar a (by simp[Res.foot,lv];omega) e.symm,hM.ne⟩
 have hMa:=X8C hM a' hma ha'
 have hMb: ∀{w'},Mem w' m a' s.L→Mem w' m a s.L:=fun h=>X8C h a hM.ne (by rcases ha' with h|h;exact Or.inl h;exact Or.inr h.symm)
 have hlook:=fun hst=>X0Z (S:=[r]) (G:=fun W=>Blk W r (Q0V m (if p (doA s.L ⟨1,c,0,0,0⟩).1.old then s.Q0h (doA s.L ⟨1,c,0,0,0⟩).1.old else s) nv)) hMa s.n s.mode s.task s.f.st c fid first cap (p (doA s.L ⟨1,c,0,0,0⟩).1.old) eg hst
  (by
   intro k hk
   simp only[List.mem_singleton]at hk
   subst hk
   refine⟨hrl,?_,?_⟩
   ·exact fun e=>hfar m (by simp[Res.foot]) e.symm
   ·exact har)
  (fun W W' T hg t hT=>t.blk hg (fun hm=>by have:=hT r hm;omega))
  (fun W t=>(hF W _ hv.1 hv.2 (H.grow t)))
 rcases Q4Z s.mode s.f.st with e|e|e|e|e
 ·rw[Q8h e]
  refine(hlook (Or.inl e)).mono ?_
  rintro en w' ⟨he,hM',t,hb⟩
  refine⟨by rw[he,e];simp[Q5C.value],?_⟩
  have:=hback w' _ (hMb hM') t hb
  unfold Rn.keep
  exact this
 ·rw[Q9v e]
  exact(X0i hM s.n s.mode s.task s.f.st c hn _ e).mono fun en w' h=>hpure _ en w' rfl (Q2k _ _) h
 ·rw[Q9u e]
  refine(hlook (Or.inr e)).mono ?_
  rintro en w' ⟨he,hM',t,hb⟩
  refine⟨by rw[he,e];simp[Q5C.value],?_⟩
  have:=hback w' _ (hMb hM') t hb
  unfold Rn.keep
  exact this
 ·rw[Q9t e]
  exact(Q7i hM s.n s.mode s.task s.f.st c hn _ e).mono fun en w' h=>hpure _ en w' rfl (by unfold takeA;split;exact Q2k _ _;rfl) h
 ·rw[Q9s e]
  exact(Q6r hM s.n s.mode s.task s.f.st c hn _ e).mono fun en w' h=>hpure _ en w' rfl (Q2k _ _) h
theorem Q7H{S0:List Nat}{w0 w:World}{m a r:Nat}{rs:List Res}{s:Rn}(H:Q0a S0 w0 m a r rs s w)(hn:I64 s.n)(c:Int)(fid:FuncId)(first cap:Array Value)(p:Int→Bool)
 (eg: ∀args w,(callFunc fid args).run Tryz.prog w= .ok (.enter fid args) w)
 (hF: ∀W nv v,0≤v→v<4294967296→Has S0 w0 W (.mem m a s.L:: .blk r (Q0V m s nv):: .own 40 4 nv s.notes.length (nts s.notes)::rs)→Calls Tryz.prog fid (first++ #[.int .u32 v]++cap) W fun e W'=>e= .returned (.bool (p v))∧Touch [r] W W'∧Blk W' r (Q0V m (if p v then s.Q0h v else s) nv)):
 Calls Tryz.prog 85 #[.pointer (some ⟨r,0,none⟩), .int .i64 c, .func (.func fid) first cap] w
  fun e w'=>e= .returned (.tuple #[.bool (Q0t s.L s.n s.mode s.task s.f.st c p).seen, .bool (Q0t s.L s.n s.mode s.task s.f.st c p).done])∧Q0a S0 w0 m a r rs ((s.keep (Q0t s.L s.n s.mode s.task s.f.st c p)).waited (Q0t s.L s.n s.mode s.task s.f.st c p)) w':=by
 obtain⟨nv,H⟩:=H
 refine(X3y (s2:=s.keep (Q0t s.L s.n s.mode s.task s.f.st c p)) H c _ _ (fun W HW=>X4n HW c hn fid first cap p eg (fun W v h0 h1 HW=>hF W nv v h0 h1 HW))).mono fun e w' h=>⟨h.1,nv,?_⟩
 have e1:((s.keep (Q0t s.L s.n s.mode s.task s.f.st c p)).waited (Q0t s.L s.n s.mode s.task s.f.st c p)).notes=s.notes:=by unfold Rn.keep;split<;>rfl
 rw[e1]
 exact h.2
set_option maxRecDepth 100000 in
theorem Y0p{S0:List Nat}{w0 w:World}{m a r:Nat}{nv:Value}{rs:List Res}{s:Rn}(H:Has S0 w0 w (.mem m a s.L:: .blk r (Q0V m s nv)::rs))(c x:Int)(hx:0≤x∧x<4294967296):
 Calls Tryz.prog 173 #[.pointer (some ⟨r,0,none⟩), .int .i64 c, .int .u32 x] w fun e w'=>e= .returned (.int .u32 (doA s.L ⟨4,c,x,0,0⟩).1.old)∧Has S0 w0 w' (.mem m a (s.did (doA s.L ⟨4,c,x,0,0⟩)).L:: .blk r (Q0V m (s.did (doA s.L ⟨4,c,x,0,0⟩)) nv)::rs):=by
 have hd:=fun W (H:Has S0 w0 W (.mem m a s.L:: .blk r (Q0V m s nv)::rs))=>X1h H ⟨4,c,x,0,0⟩ hx (by simp)
 generalize doA s.L ⟨4,c,x,0,0⟩=R at hd⊢
 obtain⟨⟨rk,rc,rx,ry,ro⟩,rok,L2⟩:=R
 simp only[Acc.cells]at hd⊢
 have hf:=Q4S rk rc rx ry ro
 go_enter Tryz.func173,Tryz.ntmps173
 go_wp2_with (go_at_call 132;refine(hd _ H).mono ?_;rintro e w1 ⟨rfl,H1⟩)
 go_ret
 exact⟨rfl,H1⟩
theorem X7f{S0:List Nat}{w0 w:World}{m a r:Nat}{rs:List Res}{s:Rn}(H:Q0a S0 w0 m a r rs s w)(c x:Int)(hx:0≤x∧x<4294967296):
 Calls Tryz.prog 173 #[.pointer (some ⟨r,0,none⟩), .int .i64 c, .int .u32 x] w fun e w'=>e= .returned (.int .u32 (doA s.L ⟨4,c,x,0,0⟩).1.old)∧Q0a S0 w0 m a r rs (s.did (doA s.L ⟨4,c,x,0,0⟩)) w':=by
 obtain⟨nv,H⟩:=H
 exact(Y0p H c x hx).mono fun e w' h=>⟨h.1,nv,h.2⟩
def RnF(n mode op line a b:Int)(L:List Int):Rn:=⟨n,mode,0,⟨op,line,a,b,0,Wk.zero,0⟩,Acc.zero,[],L⟩
def At(n mode:Int)(s:Rn)(op line a b:Int)(L:List Int):Prop:=s.fresh=RnF n mode op line a b L
section
variable {n mode:Int}{s s1:Rn}{op line a b line' a' b':Int}{L L':List Int}{g:Rn→Rn}
theorem At.wk(h:At n mode s op line a b L):s.f.wk=Wk.zero:=congrArg (fun x=>x.f.wk) h
theorem At.ret(h:At n mode s op line a b L):s.f.ret=0:=congrArg (fun x=>x.f.ret) h
theorem At.over(h:At n mode s op line a b L):s.over=false:=by unfold Rn.over;rw[h.ret];rfl
theorem At.step(h:At n mode s op line a b L):Q0K g s=g (RnF n mode op line a b L):=by
 unfold Q0K
 rw[h.wk]
 show g s.fresh=_
 rw[show s.fresh=_ from h]
theorem At.fin(h:At n mode s op line a b L)(hg:g (RnF n mode op line a b L)=s1)(hr:s1.f.ret≠0)(hk:s1.f.wk=Wk.zero)(q:Nat):Q2T g (q+1) s=(s1.f.ret,s1):=by
 show(if(Q0K g s).over then((Q0K g s).f.ret,Q0K g s)else Q2T g q (Q0K g s))=_
 rw[h.step,hg,if_pos (by unfold Rn.over;rw[hk];simpa[Wk.zero]using hr)]
end
def Free(s:Rn):Prop:=s.f.wk.on=true∨s.f.st=0
inductive Does(g:Rn→Rn):Nat→Rn→Rn→Prop
 |last {s s':Rn}:Free s→Q0K g s=s'→s'.over=true→Does g 1 s s'
 |more {n:Nat} {s s1 s':Rn}:Free s→Q0K g s=s1→s1.over=false→s1.f.op≠0→Does g n s1 s'→Does g (n+1) s s'
def RnT(n mode:Int)(t:Nat)(op line a b:Int)(L:List Int):Rn:=⟨n,mode,t,⟨op,line,a,b,0,Wk.zero,0⟩,Acc.zero,[],L⟩
def AtT(n mode:Int)(t:Nat)(s:Rn)(op line a b:Int)(L:List Int):Prop:=s.fresh=RnT n mode t op line a b L
section
variable {n mode:Int}{t:Nat}{s:Rn}{op line a b line' a' b':Int}{L L':List Int}{g:Rn→Rn}
theorem AtT.wk(h:AtT n mode t s op line a b L):s.f.wk=Wk.zero:=congrArg (fun x=>x.f.wk) h
theorem AtT.free(h:AtT n mode t s op line a b L):Free s:=Or.inr (congrArg (fun x=>x.f.st) h)
theorem AtT.step(h:AtT n mode t s op line a b L):Q0K g s=g (RnT n mode t op line a b L):=by
 unfold Q0K
 rw[h.wk]
 show g s.fresh=_
 rw[show s.fresh=_ from h]
theorem AtT.over(h:AtT n mode t s op line a b L):s.over=false:=by unfold Rn.over;rw[show s.f.ret=0 from congrArg (fun x=>x.f.ret) h];rfl
theorem AtT.fin(h:AtT n mode t s op line a b L)(hr:(g (RnT n mode t op line a b L)).f.ret≠0)(hk:(g (RnT n mode t op line a b L)).f.wk=Wk.zero):Does g 1 s (g (RnT n mode t op line a b L)):=
 Does.last h.free h.step (by unfold Rn.over;rw[hk];simpa[Wk.zero]using hr)
end
section
open Go.RowKit ZB
theorem X2T(w:World):Calls Tryz.prog 155 #[.int .i64 0, .int .i64 8] w fun e w'=>e= .returned (.bool true)∧w=w':=by
 go_enter Tryz.func155,Tryz.ntmps155
 go_wp2
 go_ret
 exact⟨rfl,rfl⟩
theorem X5L(w:World):Calls Tryz.prog 156 #[.int .i64 0, .int .i64 8] w fun e w'=>e= .returned (.int .u32 255)∧w=w':=by
 go_enter Tryz.func156,Tryz.ntmps156
 go_wp2
 go_ret
 exact⟨rfl,rfl⟩
theorem Y7t(v:Int)(hv:0≤v∧v<4294967296):Go.bits .and .u32 v 255=v/1%256*1:=by
 obtain⟨n,rfl⟩: ∃n:Nat,v=n:=⟨v.toNat,by omega⟩
 have h:=Q3z n 255 (by omega) (by decide)
 have h2:n &&&255=n/1%256*1:=Q3A n 0 8
 rw[h2]at h
 refine Eq.trans h ?_
 omega
theorem X9v(v:Int)(w:World)(hv:0≤v∧v<4294967296):Calls Tryz.prog 119 #[.int .u32 v, .int .i64 0, .int .i64 8] w fun e w'=>e= .returned (.int .u32 (v/1%256))∧w=w':=by
 have ha:=Y7t v hv
 have HA:=Lib.hid ha
 clear ha
 go_enter Tryz.func119,Tryz.ntmps119
 go_wp2_with fail
 refine(X2T _).mono ?_
 rintro e w1⟨rfl,rfl⟩
 go_wp2_with fail
 refine(X5L _).mono ?_
 rintro e w2⟨rfl,rfl⟩
 go_wp2_with fail
 go_ret
 refine⟨?_,rfl⟩
 show Ending.returned (Value.int .u32 _)=Ending.returned (Value.int .u32 _)
 rw[HA.out]
 congr 2
 omega
theorem Q6y(w:World):Calls Tryz.prog 155 #[.int .i64 8, .int .i64 8] w fun e w'=>e= .returned (.bool true)∧w=w':=by
 go_enter Tryz.func155,Tryz.ntmps155
 go_wp2
 go_ret
 exact⟨rfl,rfl⟩
theorem Q9X(w:World):Calls Tryz.prog 156 #[.int .i64 8, .int .i64 8] w fun e w'=>e= .returned (.int .u32 65280)∧w=w':=by
 go_enter Tryz.func156,Tryz.ntmps156
 go_wp2
 go_ret
 exact⟨rfl,rfl⟩
theorem Y7s(v:Int)(hv:0≤v∧v<4294967296):Go.bits .and .u32 v 65280=v/256%256*256:=by
 obtain⟨n,rfl⟩: ∃n:Nat,v=n:=⟨v.toNat,by omega⟩
 have h:=Q3z n 65280 (by omega) (by decide)
 have h2:n &&&65280=n/256%256*256:=Q3A n 8 8
 rw[h2]at h
 refine Eq.trans h ?_
 omega
theorem Q8Q(v:Int)(w:World)(hv:0≤v∧v<4294967296):Calls Tryz.prog 119 #[.int .u32 v, .int .i64 8, .int .i64 8] w fun e w'=>e= .returned (.int .u32 (v/256%256))∧w=w':=by
 have ha:=Y7s v hv
 have HA:=Lib.hid ha
 clear ha
 go_enter Tryz.func119,Tryz.ntmps119
 go_wp2_with fail
 refine(Q6y _).mono ?_
 rintro e w1⟨rfl,rfl⟩
 go_wp2_with fail
 refine(Q9X _).mono ?_
 rintro e w2⟨rfl,rfl⟩
 go_wp2_with fail
 go_ret
 refine⟨?_,rfl⟩
 show Ending.returned (Value.int .u32 _)=Ending.returned (Value.int .u32 _)
 rw[HA.out]
 congr 2
 omega
theorem X1V(w:World):Calls Tryz.prog 155 #[.int .i64 16, .int .i64 8] w fun e w'=>e= .returned (.bool true)∧w=w':=by
 go_enter Tryz.func155,Tryz.ntmps155
 go_wp2
 go_ret
 exact⟨rfl,rfl⟩
theorem X2S(w:World):Calls Tryz.prog 156 #[.int .i64 16, .int .i64 8] w fun e w'=>e= .returned (.int .u32 16711680)∧w=w':=by
 go_enter Tryz.func156,Tryz.ntmps156
 go_wp2
 go_ret
 exact⟨rfl,rfl⟩
theorem Y4t(v:Int)(hv:0≤v∧v<4294967296):Go.bits .and .u32 v 16711680=v/65536%256*65536:=by
 obtain⟨n,rfl⟩: ∃n:Nat,v=n:=⟨v.toNat,by omega⟩
 have h:=Q3z n 16711680 (by omega) (by decide)
 have h2:n &&&16711680=n/65536%256*65536:=Q3A n 16 8
 rw[h2]at h
 refine Eq.trans h ?_
 omega
theorem Q9Y(v:Int)(w:World)(hv:0≤v∧v<4294967296):Calls Tryz.prog 119 #[.int .u32 v, .int .i64 16, .int .i64 8] w fun e w'=>e= .returned (.int .u32 (v/65536%256))∧w=w':=by
 have ha:=Y4t v hv
 have HA:=Lib.hid ha
 clear ha
 go_enter Tryz.func119,Tryz.ntmps119
 go_wp2_with fail
 refine(X1V _).mono ?_
 rintro e w1⟨rfl,rfl⟩
 go_wp2_with fail
 refine(X2S _).mono ?_
 rintro e w2⟨rfl,rfl⟩
 go_wp2_with fail
 go_ret
 refine⟨?_,rfl⟩
 show Ending.returned (Value.int .u32 _)=Ending.returned (Value.int .u32 _)
 rw[HA.out]
 congr 2
 omega
def Q3w(v:Int):Int:=((v/256%256+1)%256*256-v/256%256*256)%4294967296
theorem Y0C(v x:Int)(hv:0≤v∧v<4294967296)(hx:0≤x∧x<4294967296):Go.bits .or .u32 (Go.bits .andNot .u32 v 65280) (Go.bits .and .u32 x 65280)=v-v/256%256*256+x/256%256*256:=by
 obtain⟨n,rfl⟩: ∃n:Nat,v=n:=⟨v.toNat,by omega⟩
 obtain⟨m,rfl⟩: ∃m:Nat,x=m:=⟨x.toNat,by omega⟩
 have h:=X4i n m 65280 (by omega) (by omega) (by decide)
 have h2:n &&&65280=n/256%256*256:=Q3A n 8 8
 have h3:m &&&65280=m/256%256*256:=Q3A m 8 8
 rw[h2,h3]at h
 refine Eq.trans h ?_
 omega
theorem X9u(v x:Int)(w:World)(hv:0≤v∧v<4294967296)(hx:0≤x∧x≤256):Calls Tryz.prog 186 #[.int .u32 v, .int .i64 8, .int .i64 8, .int .u32 x] w fun e w'=>e= .returned (.int .u32 (v-v/256%256*256+x%256*256))∧w=w':=by
 have ha:=Y0C v (x*256) hv (by omega)
 have HA:=Lib.hid ha
 clear ha
 go_enter Tryz.func186,Tryz.ntmps186
 go_wp2_with fail
 refine(Q6y _).mono ?_
 rintro e w1⟨rfl,rfl⟩
 go_wp2_with fail
 refine(Q9X _).mono ?_
 rintro e w2⟨rfl,rfl⟩
 go_wp2_with fail
 go_ret
 refine⟨?_,rfl⟩
 show Ending.returned (Value.int .u32 _)=Ending.returned (Value.int .u32 _)
 rw[HA.out]
 congr 2
 omega
theorem X5M(v:Int)(w:World)(hv:0≤v∧v<4294967296):Calls Tryz.prog 182 #[.int .u32 v, .int .i64 8, .int .i64 8] w fun e w'=>e= .returned (.int .u32 (Q3w v))∧w=w':=by
 have hg:=fun W=>Q8Q v W hv
 have hb:0≤v/256%256∧v/256%256<256:=by omega
 have hp:=fun W=>X9u v (v/256%256+1) W hv (by omega)
 unfold Q3w
 generalize hq:v/256%256=q at hg hb hp
 have HQ:=Lib.hid hq
 have HG:=Lib.hid hg
 have HP:=Lib.hid hp
 clear hq hg hp
 go_enter Tryz.func182,Tryz.ntmps182
 go_wp2_with fail
 refine(Q6y _).mono ?_
 rintro e w1⟨rfl,rfl⟩
 go_wp2_with fail
 refine(HG.out _).mono ?_
 rintro e w2⟨rfl,rfl⟩
 go_wp2_with fail
 refine(HP.out _).mono ?_
 rintro e w3⟨rfl,rfl⟩
 go_wp2_with fail
 go_ret
 refine⟨?_,rfl⟩
 show Ending.returned (Value.int .u32 _)=Ending.returned (Value.int .u32 _)
 congr 2
 rw[←HQ.out]
 omega
end
end Go.Proofs.YthnimpkoidablaaGreat.Z
