import Derived.Shelf.Abstract
import Derived.Test.YthnimpkoidablaaGreatZA06
set_option linter.unusedVariables false
set_option linter.unusedSimpArgs false
set_option maxHeartbeats 1600000
namespace Go.Proofs.YthnimpkoidablaaGreat.Z
open Go.RowKit
theorem Y1y{w:World}{p:Option Addr}{g cap n:Nat}{L:List Int}(h:Row w p g L)(hn:L.length=n):
 Calls Tryz.prog 48 #[.slice p n cap] w (X9D w L):=X8T w (h.rd' hn) h.words
def X9F(S0:List Nat)(w0:World)(L:List Int)(rs:List Res)(e:Ending)(w':World):Prop:=
 ∃m a,e= .returned (.tuple #[.pointer (some ⟨m,0,none⟩), .int .i64 0])∧Has S0 w0 w' (.mem m a L::rs)
def Y1N(S0:List Nat)(w0:World)(L:List Int)(rs:List Res)(e:Ending)(w':World):Prop:=
 ∃p g cap,e= .returned (.tuple #[.slice p L.length cap, .int .i64 0])∧Has S0 w0 w' (.row p g cap L::rs)
theorem Q9T{S0:List Nat}{w0 w w':World}{L:List Int}{rs:List Res}(H:Has S0 w0 w rs){e:Ending}(h:X9D w L e w'):X9F S0 w0 L rs e w':=by
 obtain⟨m,a,he,hM,k1,k2,t⟩:=h
 exact⟨m,a,he,H.came (.mem m a L) t (by simp) hM (by
  intro k hk
  simp only[Res.foot,List.mem_cons]at hk
  rcases hk with rfl|hk
  ·exact k1
  ·rw[(Q6S hk).1];exact k2)⟩
theorem X2I{S0:List Nat}{w0 w:World}{p:Option Addr}{g cap:Nat}{L:List Int}{rs:List Res}(H:Has S0 w0 w (.row p g cap L::rs)){n:Nat}(hn:L.length=n):
 Calls Tryz.prog 48 #[.slice p n cap] w (X9F S0 w0 L (.row p g cap L::rs)):=
 (Y1y H.row hn).mono fun e w' h=>Q9T H h
theorem X1O{S0:List Nat}{w0 w w':World}{L:List Int}{rs:List Res}(H:Has S0 w0 w rs){e:Ending}(h:Q4o w L e w'):Y1N S0 w0 L rs e w':=by
 obtain⟨p,g,cap,he,hR,hg,_,t,hc,hm⟩:=h
 exact⟨p,g,cap,he,H.came (.row p g cap L) t (by simp) ⟨hR,hc,hm⟩ (by
  intro k hk
  rw[(Q6S hk).1]
  exact hg)⟩
def Q5C.value(r:Q5C):Value:= .tuple #[.agg #[.int .i64 r.stage], .agg r.acc.cells, .bool r.seen, .bool r.done]
theorem Q8h{L:List Int}{n mode task stage c:Int}{p:Int→Bool}(e:Q1y mode stage=0):Q0t L n mode task stage c p=⟨if p (doA L ⟨1,c,0,0,0⟩).1.old then 0 else if mode=2 then 1 else 0,(doA L ⟨1,c,0,0,0⟩).1,p (doA L ⟨1,c,0,0,0⟩).1.old,p (doA L ⟨1,c,0,0,0⟩).1.old,L⟩:=by
 unfold Q0t
 rw[e]
 rfl
theorem Q9v{L:List Int}{n mode task stage c:Int}{p:Int→Bool}(e:Q1y mode stage=1):Q0t L n mode task stage c p=⟨2,(doA L ⟨2,cellP n 2 task,(c+1)%4294967296,0,0⟩).1,false,false,(doA L ⟨2,cellP n 2 task,(c+1)%4294967296,0,0⟩).2.2⟩:=by
 unfold Q0t
 rw[e]
 rfl
theorem Q9u{L:List Int}{n mode task stage c:Int}{p:Int→Bool}(e:Q1y mode stage=2):Q0t L n mode task stage c p=⟨if p (doA L ⟨1,c,0,0,0⟩).1.old then 4 else 3,(doA L ⟨1,c,0,0,0⟩).1,p (doA L ⟨1,c,0,0,0⟩).1.old,false,L⟩:=by
 unfold Q0t
 rw[e]
 rfl
theorem Q9t{L:List Int}{n mode task stage c:Int}{p:Int→Bool}(e:Q1y mode stage=3):Q0t L n mode task stage c p=⟨if(takeA L n task).2.1 then 2 else 3,(takeA L n task).1,false,false,(takeA L n task).2.2⟩:=by
 unfold Q0t
 rw[e]
 rfl
theorem Q9s{L:List Int}{n mode task stage c:Int}{p:Int→Bool}(e:Q1y mode stage=4):Q0t L n mode task stage c p=⟨0,(doA L ⟨2,cellP n 2 task,0,0,0⟩).1,false,true,(doA L ⟨2,cellP n 2 task,0,0,0⟩).2.2⟩:=by
 unfold Q0t
 rw[e]
 rfl
theorem X9X{w:World}{m a:Nat}{L:List Int}(h:Mem w m a L)(n mode task stage c:Int)(hn:I64 n)(fid:FuncId)(first cap:Array Value)(p:Int→Bool)
 (eg: ∀args w,(callFunc fid args).run Tryz.prog w= .ok (.enter fid args) w)
 (hF: ∀W v,0≤v→v<4294967296→Touch [] w W→Calls Tryz.prog fid (first++ #[.int .u32 v]++cap) W fun e W'=>e= .returned (.bool (p v))∧Touch [] W W'):
 Calls Tryz.prog 131 #[.pointer (some ⟨m,0,none⟩), .agg #[.int .i64 n], .int .i64 mode, .int .i64 task, .agg #[.int .i64 stage], .int .i64 c, .func (.func fid) first cap] w
  fun e w'=>e= .returned (Q0t L n mode task stage c p).value∧Mem w' m a (Q0t L n mode task stage c p).words∧Touch (lv a L) w w':=by
 have hv:=Q0s L h.words ⟨1,c,0,0,0⟩
 have hlook:=fun hst=>X0Z (S:=[]) (G:=fun _=>True) h n mode task stage c fid first cap (p (doA L ⟨1,c,0,0,0⟩).1.old) eg hst (by simp) (fun _ _ _ h _ _=>h) (fun W t=>(hF W _ hv.1 hv.2 t).mono fun e W' h=>⟨h.1,h.2,trivial⟩)
 rcases Q4Z mode stage with e|e|e|e|e
 ·rw[Q8h e]
  refine(hlook (Or.inl e)).mono ?_
  rintro en w' ⟨he,hM,t,_⟩
  exact⟨by rw[he,e];simp[Q5C.value],hM,t.mono (by simp)⟩
 ·rw[Q9v e]
  exact X0i h n mode task stage c hn _ e
 ·rw[Q9u e]
  refine(hlook (Or.inr e)).mono ?_
  rintro en w' ⟨he,hM,t,_⟩
  exact⟨by rw[he,e];simp[Q5C.value],hM,t.mono (by simp)⟩
 ·rw[Q9t e]
  exact Q7i h n mode task stage c hn _ e
 ·rw[Q9s e]
  exact Q6r h n mode task stage c hn _ e
structure Fr where
 op:Int
 line:Int
 a:Int
 b:Int
 st:Int
 wk:Wk
 ret:Int
deriving DecidableEq
def Fr.cells(f:Fr):Array Value:= #[.int .i64 f.op, .int .i64 f.line, .int .u32 f.a, .int .u32 f.b, .int .i64 f.st, .bool f.wk.on, .int .i64 f.wk.cell, .int .i64 f.wk.i, .bool f.wk.hit, .int .i64 f.ret]
def Y5N(f:Fr):Prop:=(0≤f.a∧f.a<4294967296)∧(0≤f.b∧f.b<4294967296)
def Fr.zero:Fr:=⟨0,0,0,0,0,Wk.zero,0⟩
structure Nt where
 task:Int
 what:Int
 op:Int
 arg:Int
deriving DecidableEq
def Nt.cells(x:Nt):List Value:=[.int .i64 x.task, .int .i64 x.what, .int .i64 x.op, .int .i64 x.arg]
def nts(l:List Nt):List Value:=l.flatMap Nt.cells
structure Rn where
 n:Int
 mode:Int
 task:Int
 f:Fr
 acc:Acc
 notes:List Nt
 L:List Int
def Q0V(m:Nat)(s:Rn)(nv:Value):Array Value:=
 #[.pointer (some ⟨m,0,none⟩), .int .i64 s.n, .int .i64 s.mode, .int .i64 s.task, .int .i64 s.f.op, .int .i64 s.f.line, .int .u32 s.f.a, .int .u32 s.f.b, .int .i64 s.f.st,
  .bool s.f.wk.on, .int .i64 s.f.wk.cell, .int .i64 s.f.wk.i, .bool s.f.wk.hit, .int .i64 s.f.ret, .int .i64 s.acc.kind, .int .i64 s.acc.cell, .int .u32 s.acc.x, .int .u32 s.acc.y, .int .u32 s.acc.old,nv]
def Rn.did(s:Rn)(R:Acc×Bool×List Int):Rn:={s with acc:=R.1,L:=R.2.2}
def Rn.note(s:Rn)(what arg:Int):Rn:={s with notes:=s.notes++[⟨s.task,what,0,arg⟩]}
def Rn.goto(s:Rn)(n:Int):Rn:={s with f:={s.f with line:=n}}
def Rn.fin(s:Rn)(b:Bool):Rn:={s with f:={s.f with ret:=if b then 2 else 1}}
def Rn.wake(s:Rn)(c:Int):Rn:={s with f:={s.f with wk:=Q3e s.mode c}}
def Rn.Q0h(s:Rn)(v:Int):Rn:={s with f:={s.f with a:=v}}
def Rn.setB(s:Rn)(v:Int):Rn:={s with f:={s.f with b:=v}}
def Rn.waited(s:Rn)(R:Q5C):Rn:={s with f:={s.f with st:=R.stage},acc:=R.acc,L:=R.words}
set_option maxRecDepth 100000 in
theorem X1h{S0:List Nat}{w0 w:World}{m a r:Nat}{nv:Value}{rs:List Res}{s:Rn}(H:Has S0 w0 w (.mem m a s.L:: .blk r (Q0V m s nv)::rs))(b:Acc)(hx:0≤b.x∧b.x<4294967296)(hy:0≤b.y∧b.y<4294967296):
 Calls Tryz.prog 132 #[.pointer (some ⟨r,0,none⟩), .agg b.cells] w
  fun e w'=>e= .returned (.agg (doA s.L b).1.cells)∧Has S0 w0 w' (.mem m a (s.did (doA s.L b)).L:: .blk r (Q0V m (s.did (doA s.L b)) nv)::rs):=by
 obtain⟨n,mode,task,⟨op,line,fa,fb,st,⟨on,wc,wi,hit⟩,ret⟩,⟨ak,ac,ax,ay,ao⟩,notes,L⟩:=s
 have hd:=fun W rs (H:Has S0 w0 W (.mem m a L::rs))=>Y7o H b hx hy
 simp only[Rn.did]at*
 generalize doA L b=R at hd⊢
 obtain⟨⟨rk,rc,rx,ry,ro⟩,rok,L2⟩:=R
 obtain⟨bk,bc,bx,by',bo⟩:=b
 simp only[Acc.cells]at hd⊢
 have HD:=Lib.hid hd
 clear hd hx hy
 simp only[Q0V]at H⊢
 obtain⟨x0,x1,x2⟩:=H.Q7A.own
 have HH:=Lib.hid H
 clear H
 go_enter Tryz.func132,Tryz.ntmps132
 go_wp2_with fail
 refine Q1a (by kernel_rfl) (by kernel_rfl) ?_
 simp only[Q0G,probes,List.nil_append]
 go_wp2_with fail
 refine(HD.out _ _ (HH.out.al22.drew)).mono ?_
 rintro e w1⟨rfl,H1⟩
 obtain⟨y0,y1,y2⟩:=H1.Q7A.own
 go_wp2_with fail
 rw[Q0g]
 rename_i hK
 refine hK _ _ ?_
 clear hK
 refine Q1q (Facts:=fun W=>Has S0 w0 W (.mem m a L2:: .blk r #[.pointer (some ⟨m,0,none⟩), .int .i64 n, .int .i64 mode, .int .i64 task, .int .i64 op, .int .i64 line, .int .u32 fa, .int .u32 fb, .int .i64 st, .bool on, .int .i64 wc, .int .i64 wi, .bool hit, .int .i64 ret, .int .i64 rk, .int .i64 rc, .int .u32 rx, .int .u32 ry, .int .u32 ro,nv]:: .blk (w.heap.size+1) #[.int .i64 0, .int .i64 0, .int .u32 0, .int .u32 0, .int .u32 0]:: .blk w.heap.size #[.int .i64 bk, .int .i64 bc, .int .u32 bx, .int .u32 by', .int .u32 bo]::rs)) ?_
  (((((H1.set1 14 _).set1 15 _).set1 16 _).set1 17 _).set1 18 _)
 intro W HW
 clear x0 x1 x2 y0 y1 y2 H1
 obtain⟨y0,y1,y2⟩:=HW.Q7A.own
 obtain⟨z0,z1,z2⟩:=HW.blk2.own
 go_wp2_with fail
 refine bodyPost_ret (v:= .agg #[.int .i64 rk, .int .i64 rc, .int .u32 rx, .int .u32 ry, .int .u32 ro]) (by simp[results,Tryz.results132,go_sem,z0,z1,z2]) rfl ⟨rfl,?_⟩
 exact HW.Y4p (by repeat(first|with_reducible exact Touch.refl _ _|with_reducible apply Touch.drew|with_reducible apply Touch.alloc|with_reducible refine Touch.set ?_ (by simp) _))
theorem Q4S(k c x y o:Int)(w:World):(Instr.field 32 (.agg #[.int .i64 k, .int .i64 c, .int .u32 x, .int .u32 y, .int .u32 o]) 4).run Tryz.prog w= .ok (.int .u32 o) w:=by kernel_rfl
set_option maxRecDepth 100000 in
theorem run_load{S0:List Nat}{w0 w:World}{m a r:Nat}{nv:Value}{rs:List Res}{s:Rn}(H:Has S0 w0 w (.mem m a s.L:: .blk r (Q0V m s nv)::rs))(c:Int):
 Calls Tryz.prog 96 #[.pointer (some ⟨r,0,none⟩), .int .i64 c] w fun e w'=>e= .returned (.int .u32 (doA s.L ⟨1,c,0,0,0⟩).1.old)∧Has S0 w0 w' (.mem m a (s.did (doA s.L ⟨1,c,0,0,0⟩)).L:: .blk r (Q0V m (s.did (doA s.L ⟨1,c,0,0,0⟩)) nv)::rs):=by
 have hd:=fun W (H:Has S0 w0 W (.mem m a s.L:: .blk r (Q0V m s nv)::rs))=>X1h H ⟨1,c,0,0,0⟩ (by simp) (by simp)
 generalize doA s.L ⟨1,c,0,0,0⟩=R at hd⊢
 obtain⟨⟨rk,rc,rx,ry,ro⟩,rok,L2⟩:=R
 simp only[Acc.cells]at hd⊢
 have hf:=Q4S rk rc rx ry ro
 go_enter Tryz.func96,Tryz.ntmps96
 go_wp2_with (go_at_call 132;refine(hd _ H).mono ?_;rintro e w1 ⟨rfl,H1⟩)
 go_ret
 exact⟨rfl,H1⟩
set_option maxRecDepth 100000 in
theorem Y3u{S0:List Nat}{w0 w:World}{m a r:Nat}{nv:Value}{rs:List Res}{s:Rn}(H:Has S0 w0 w (.mem m a s.L:: .blk r (Q0V m s nv)::rs))(c x:Int)(hx:0≤x∧x<4294967296):
 Calls Tryz.prog 88 #[.pointer (some ⟨r,0,none⟩), .int .i64 c, .int .u32 x] w fun e w'=>e= .returned (.int .u32 (doA s.L ⟨3,c,x,0,0⟩).1.old)∧Has S0 w0 w' (.mem m a (s.did (doA s.L ⟨3,c,x,0,0⟩)).L:: .blk r (Q0V m (s.did (doA s.L ⟨3,c,x,0,0⟩)) nv)::rs):=by
 have hd:=fun W (H:Has S0 w0 W (.mem m a s.L:: .blk r (Q0V m s nv)::rs))=>X1h H ⟨3,c,x,0,0⟩ hx (by simp)
 generalize doA s.L ⟨3,c,x,0,0⟩=R at hd⊢
 obtain⟨⟨rk,rc,rx,ry,ro⟩,rok,L2⟩:=R
 simp only[Acc.cells]at hd⊢
 have hf:=Q4S rk rc rx ry ro
 go_enter Tryz.func88,Tryz.ntmps88
 go_wp2_with (go_at_call 132;refine(hd _ H).mono ?_;rintro e w1 ⟨rfl,H1⟩)
 go_ret
 exact⟨rfl,H1⟩
def Q7N(L:List Int)(c x y:Int):Bool:=(doA L ⟨5,c,x,y,0⟩).1.kind==5 &&(doA L ⟨5,c,x,y,0⟩).1.old==x
set_option maxRecDepth 100000 in
theorem Y3s{S0:List Nat}{w0 w:World}{m a r:Nat}{nv:Value}{rs:List Res}{s:Rn}(H:Has S0 w0 w (.mem m a s.L:: .blk r (Q0V m s nv)::rs))(c x y:Int)(hx:0≤x∧x<4294967296)(hy:0≤y∧y<4294967296):
 Calls Tryz.prog 112 #[.pointer (some ⟨r,0,none⟩), .int .i64 c, .int .u32 x, .int .u32 y] w fun e w'=>e= .returned (.bool (Q7N s.L c x y))∧Has S0 w0 w' (.mem m a (s.did (doA s.L ⟨5,c,x,y,0⟩)).L:: .blk r (Q0V m (s.did (doA s.L ⟨5,c,x,y,0⟩)) nv)::rs):=by
 have hd:=fun W (H:Has S0 w0 W (.mem m a s.L:: .blk r (Q0V m s nv)::rs))=>X1h H ⟨5,c,x,y,0⟩ hx hy
 unfold Q7N
 generalize doA s.L ⟨5,c,x,y,0⟩=R at hd⊢
 obtain⟨⟨rk,rc,rx,ry,ro⟩,rok,L2⟩:=R
 simp only[Acc.cells]at hd⊢
 cases h5:(rk==5)with
 |true=>
  obtain rfl:rk=5:=by simpa using h5
  go_enter Tryz.func112,Tryz.ntmps112
  go_wp2_with (go_at_call 132;refine(hd _ H).mono ?_;rintro e w1 ⟨rfl,H1⟩)
  go_ret
  exact⟨by simp,H1.grow (by repeat(first|with_reducible exact Touch.refl _ _|with_reducible apply Touch.alloc))⟩
 |false=>
  go_enter Tryz.func112,Tryz.ntmps112
  go_wp2_with (go_at_call 132;refine(hd _ H).mono ?_;rintro e w1 ⟨rfl,H1⟩)
  go_ret
  exact⟨by simp,H1.grow (by repeat(first|with_reducible exact Touch.refl _ _|with_reducible apply Touch.alloc))⟩
def Q0a(S0:List Nat)(w0:World)(m a r:Nat)(rs:List Res)(s:Rn)(w:World):Prop:=
 ∃nv,Has S0 w0 w (.mem m a s.L:: .blk r (Q0V m s nv):: .own 40 4 nv s.notes.length (nts s.notes)::rs)
set_option maxRecDepth 100000 in
theorem run_go{S0:List Nat}{w0 w:World}{m a r:Nat}{nv:Value}{rs:List Res}{s:Rn}(H:Has S0 w0 w (.mem m a s.L:: .blk r (Q0V m s nv)::rs))(k:Int):
 Calls Tryz.prog 86 #[.pointer (some ⟨r,0,none⟩), .int .i64 k] w fun e w'=>e= .returned (.tuple #[])∧Has S0 w0 w' (.mem m a (s.goto k).L:: .blk r (Q0V m (s.goto k) nv)::rs):=by
 obtain⟨n,mode,task,⟨op,line,fa,fb,st,⟨on,wc,wi,hit⟩,ret⟩,⟨ak,ac,ax,ay,ao⟩,notes,L⟩:=s
 simp only[Q0V,Rn.goto]at H⊢
 obtain⟨x0,x1,x2⟩:=H.Q7A.own
 go_enter Tryz.func86,Tryz.ntmps86
 go_wp2
 go_end0
 exact⟨rfl,H.set1 5 _⟩
set_option maxRecDepth 100000 in
theorem run_end{S0:List Nat}{w0 w:World}{m a r:Nat}{nv:Value}{rs:List Res}{s:Rn}(H:Has S0 w0 w (.mem m a s.L:: .blk r (Q0V m s nv)::rs))(b:Bool):
 Calls Tryz.prog 91 #[.pointer (some ⟨r,0,none⟩), .bool b] w fun e w'=>e= .returned (.tuple #[])∧Has S0 w0 w' (.mem m a (s.fin b).L:: .blk r (Q0V m (s.fin b) nv)::rs):=by
 obtain⟨n,mode,task,⟨op,line,fa,fb,st,⟨on,wc,wi,hit⟩,ret⟩,⟨ak,ac,ax,ay,ao⟩,notes,L⟩:=s
 simp only[Q0V,Rn.fin]at H⊢
 obtain⟨x0,x1,x2⟩:=H.Q7A.own
 cases b with
 |true=>
  go_enter Tryz.func91,Tryz.ntmps91
  go_wp2
  go_end0
  exact⟨rfl,by first|exact(H.set1 13 _).set1 13 _|exact H.set1 13 _⟩
 |false=>
  go_enter Tryz.func91,Tryz.ntmps91
  go_wp2
  go_end0
  exact⟨rfl,H.set1 13 _⟩
set_option maxRecDepth 100000 in
theorem Y0o{S0:List Nat}{w0 w:World}{m a r:Nat}{nv:Value}{rs:List Res}{s:Rn}(H:Has S0 w0 w (.mem m a s.L:: .blk r (Q0V m s nv)::rs))(c:Int):
 Calls Tryz.prog 90 #[.pointer (some ⟨r,0,none⟩), .int .i64 c] w fun e w'=>e= .returned (.tuple #[])∧Has S0 w0 w' (.mem m a (s.wake c).L:: .blk r (Q0V m (s.wake c) nv)::rs):=by
 obtain⟨n,mode,task,⟨op,line,fa,fb,st,⟨on,wc,wi,hit⟩,ret⟩,⟨ak,ac,ax,ay,ao⟩,notes,L⟩:=s
 simp only[Rn.wake]at H⊢
 have hb:=fun W=>X9z mode c W
 generalize Q3e mode c=k at hb⊢
 obtain⟨ko,kc,ki,kh⟩:=k
 simp only[Q0V,Wk.cells]at H hb⊢
 obtain⟨x0,x1,x2⟩:=H.Q7A.own
 have HB:=Lib.hid hb
 have HH:=Lib.hid H
 clear hb H
 go_enter Tryz.func90,Tryz.ntmps90
 go_wp2_with fail
 refine(HB.out _).mono ?_
 rintro e w1⟨rfl,t1⟩
 have H1:=HH.out.grow t1
 obtain⟨y0,y1,y2⟩:=H1.Q7A.own
 go_wp2
 go_end0
 exact⟨rfl,((((H1.set1 9 _).set1 10 _).set1 11 _).set1 12 _)⟩
theorem Q5S:(Tryz.prog.info? 40).map (fun i=>(i.zero,i.size,i.bytes))=some (some (.agg #[.int .i64 0, .int .i64 0, .int .i64 0, .int .i64 0]),4,32):=by kernel_rfl
theorem Has.grown{S0:List Nat}{w0 w w':World}{e size n m:Nat}{v v':Value}{xs ys:List Value}{rs:List Res}(h:Has S0 w0 w (.own e size v n xs::rs))(hown:w'.ownsRow 0 e size v' m ys)(hg:w.grownBy w' v.ownBlock)
 (hat:v'.ownBlock=v.ownBlock∨v'.ownBlock=some w.heap.size):Has S0 w0 w' (.own e size v' m ys::rs):=
 Has.upd (xs:=[.own e size v n xs]) (rs:=rs) [.own e size v' m ys] (S:=v.ownBlock.toList) h ((Touch.refl _ w).grown hg (by intro k hk;simp[hk])) (fun k hk=>Or.inl (by simp[Q1F,Res.foot];simpa using hk)) (by simp[Res.holds];exact hown) (by simp) (by
  intro r hr k hk
  simp only[List.mem_singleton]at hr
  subst hr
  simp only[Res.foot,Option.mem_toList]at hk
  rcases hat with h'|h'
  ·rw[h']at hk
   exact Or.inl (by simp[Q1F,Res.foot];simpa using hk)
  ·rw[h']at hk
   simp at hk
   exact Or.inr (by omega))
theorem Has.Q4F{S0:List Nat}{w0 w:World}{x y:Res}{e size n:Nat}{v:Value}{xs:List Value}{rs:List Res}(h:Has S0 w0 w (x::y:: .own e size v n xs::rs)):w.ownsRow 0 e size v n xs:=h.all (.own e size v n xs) (by simp)
theorem Has.Y7a{S0:List Nat}{w0 w w':World}{x y:Res}{e size n m:Nat}{v v':Value}{xs ys:List Value}{rs:List Res}(h:Has S0 w0 w (x::y:: .own e size v n xs::rs))(hown:w'.ownsRow 0 e size v' m ys)(hg:w.grownBy w' v.ownBlock)
 (hat:v'.ownBlock=v.ownBlock∨v'.ownBlock=some w.heap.size):Has S0 w0 w' (x::y:: .own e size v' m ys::rs):=
 ((h.rot3).grown hown hg hat).back3
theorem Q3B{P:Program}{ops:Array Oper}{Q:Exit→Act→World→Prop}{l:List Oper}{a:Act}{W0:World}{Facts:World→Prop}(h: ∀W,Facts W→wpList P ops Q l a W)(h0:Facts W0):wpList P ops Q l a W0:=h _ h0
theorem X0t{w:World}{b:Nat}{c0 c1 c2 c3:Value}(h:Blk w b #[c0,c1,c2,c3]):Rd w 4 (some ⟨b,0,none⟩) 1 [c0,c1,c2,c3]:=
 ⟨rfl,fun _=>⟨_,rfl,h.lt,fun j u hu=>by
  rw[Addr.add_lit,Nat.zero_add,h.cell,←hu]
  simp⟩⟩
set_option maxRecDepth 100000 in
theorem Q0r{S0:List Nat}{w0 w:World}{m a r:Nat}{rs:List Res}{s:Rn}(H:Q0a S0 w0 m a r rs s w)(hlen:s.notes.length≤1000)(what arg:Int):
 Calls Tryz.prog 89 #[.pointer (some ⟨r,0,none⟩), .int .i64 what, .int .i64 arg] w fun e w'=>e= .returned (.tuple #[])∧Q0a S0 w0 m a r rs (s.note what arg) w':=by
 obtain⟨n,mode,task,⟨op,line,fa,fb,st,⟨on,wc,wi,hit⟩,ret⟩,⟨ak,ac,ax,ay,ao⟩,notes,L⟩:=s
 simp only[Q0a,Rn.note]at H hlen⊢
 obtain⟨nv,H⟩:=H
 simp only[Q0V]at H⊢
 obtain⟨x0,x1,x2⟩:=H.Q7A.own
 obtain⟨i0,hi0,hz0,hz1,hz2⟩:=info_parts Q5S
 have HI:=Lib.hid (show _∧_∧_∧_ from⟨hi0,hz0,hz1,hz2⟩)
 have HL:=Lib.hid hlen
 have HH:=Lib.hid H
 clear hi0 hz0 hz1 hz2 hlen H
 go_enter Tryz.func89,Tryz.ntmps89
 go_wp2_with fail
 refine Q1a (by kernel_rfl) (by kernel_rfl) ?_
 simp only[Q0G,probes,List.nil_append]
 go_wp2_with (at_builtin;refine Q3B (Facts:=fun W=>Has S0 w0 W (.mem m a L:: .blk r #[.pointer (some ⟨m,0,none⟩), .int .i64 n, .int .i64 mode, .int .i64 task, .int .i64 op, .int .i64 line, .int .u32 fa, .int .u32 fb, .int .i64 st, .bool on, .int .i64 wc, .int .i64 wi, .bool hit, .int .i64 ret, .int .i64 ak, .int .i64 ac, .int .u32 ax, .int .u32 ay, .int .u32 ao,nv]:: .own 40 4 nv notes.length (nts notes):: .blk w.heap.size #[.int .i64 task, .int .i64 what, .int .i64 0, .int .i64 arg]::rs)) ?_ (by first|exact HH.out.Y5L.drew|exact HH.out.drew.Y5L);intro W HW;refine Q2q (P:=Tryz.prog) _ rfl (.tmp 12) (.tmp 20) _ rfl 0 40 i0 _ 4 32 Tryz.underlying33 HI.out.1 HI.out.2.1 HI.out.2.2.1 HI.out.2.2.2 rfl (by omega) nv notes.length (nts notes) rfl HW.Q4F (some ⟨w.heap.size,0,none⟩) 1 1 [.int .i64 task, .int .i64 what, .int .i64 0, .int .i64 arg] rfl (X0t HW.Y5I) (by simp[Value.oneCell']) (by have:=HL.out;simp only[maxLen];omega) (by have:=HL.out;omega) (by omega) ?_;intro v' w' hown hg hat;obtain⟨p',c',rfl⟩:=Q2p hown;have H1:=HW.Y7a hown hg hat;clear HW hown hg hat x0 x1 x2;obtain⟨y0,y1,y2⟩:=H1.Q7A.own)
 rw[Q0g]
 have HW:=H1.set1 19 (.slice p' (notes.length+1) c')
 go_end0
 have e1:(notes++[(⟨task,what,0,arg⟩:Nt)]).length=notes.length+1:=by simp
 have e2:nts (notes++[(⟨task,what,0,arg⟩:Nt)])=nts notes++[.int .i64 task, .int .i64 what, .int .i64 0, .int .i64 arg]:=by simp[nts,Nt.cells]
 refine⟨rfl, .slice p' (notes.length+1) c',?_⟩
 rw[e1,e2]
 exact HW.Y4r
def Q2R(L:List Int)(n mode task stage:Int):Bool:=(Q1y mode stage==3) && !(Q6k L n task)
theorem X7a{w:World}{m a:Nat}{L:List Int}(h:Mem w m a L)(n mode task stage:Int)(hn:I64 n):
 Calls Tryz.prog 65 #[.pointer (some ⟨m,0,none⟩), .agg #[.int .i64 n], .int .i64 mode, .int .i64 task, .agg #[.int .i64 stage]] w
  fun e w'=>e= .returned (.bool (Q2R L n mode task stage))∧Touch [] w w':=by
 unfold Q2R
 have hs:=fun W=>Q4Y mode stage W
 have ht:=fun W (hM:Mem W m a L)=>X3p hM n task hn
 generalize Q1y mode stage=st at hs⊢
 generalize Q6k L n task=b at ht⊢
 have HS:=Lib.hid hs
 have HT:=Lib.hid ht
 clear hs ht hn
 cases hb:st==3 with
 |false=>
  go_enter Tryz.func65,Tryz.ntmps65
  go_wp2_with fail
  refine(HS.out _).mono ?_
  rintro e w1⟨rfl,t1⟩
  go_wp2_with fail
  go_ret
  exact⟨rfl,(((Touch.refl [] w).alloc _).alloc _).trans t1⟩
 |true=>
  obtain rfl:st=3:=by simpa using hb
  go_enter Tryz.func65,Tryz.ntmps65
  go_wp2_with fail
  refine(HS.out _).mono ?_
  rintro e w1⟨rfl,t1⟩
  obtain⟨B0,B1⟩:=t1.Q3U (by simp)
  obtain⟨x0,x1,x2⟩:=B0.own
  go_wp2_with fail
  refine(HT.out _ (h.touch ((((Touch.refl [] w).alloc _).alloc _).trans t1) (by simp) (by simp))).mono ?_
  rintro e w2⟨rfl,t2⟩
  go_wp2_with fail
  go_ret
  exact⟨by simp,((((Touch.refl [] w).alloc _).alloc _).trans t1).trans t2⟩
end Go.Proofs.YthnimpkoidablaaGreat.Z
