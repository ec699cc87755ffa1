import Derived.Deep.RegionLaw
import Derived.Test.YthnimpkoidablaaGreatZA08
set_option linter.unusedVariables false
set_option linter.unusedSimpArgs false
set_option maxHeartbeats 1600000
namespace Go.Proofs.YthnimpkoidablaaGreat.Z
open Go.RowKit
attribute [local go_sem↓] Go.wp_at_zero Go.wp_at_succ
theorem X4m{S0:List Nat}{w0 w:World}{m a:Nat}{L:List Int}{rs:List Res}(H:Has S0 w0 w (.mem m a L::rs))(n mode task stage c:Int)(hn:I64 n)(fid:FuncId)(first cap:Array Value)(p:Int→Bool)
 (eg: ∀args w,(callFunc fid args).run Tryz.prog w= .ok (.enter fid args) w)
 (hF: ∀W v,0≤v→v<4294967296→Has S0 w0 W (.mem m a L::rs)→Calls Tryz.prog fid (first++ #[.int .u32 v]++cap) W fun e W'=>e= .returned (.bool (p v))∧Touch [] W W'):
 Calls Tryz.prog 131 #[.pointer (some ⟨m,0,none⟩), .agg #[.int .i64 n], .int .i64 mode, .int .i64 task, .agg #[.int .i64 stage], .int .i64 c, .func (.func fid) first cap] w
  fun e w'=>e= .returned (Q0t L n mode task stage c p).value∧Has S0 w0 w' (.mem m a (Q0t L n mode task stage c p).words::rs):=by
 refine(X9X H.mem n mode task stage c hn fid first cap p eg (fun W v h0 h1 t=>hF W v h0 h1 (H.grow t))).mono ?_
 rintro e w' ⟨he,hM,t⟩
 refine⟨he,H.words hM ?_ t⟩
 rcases Q4Z mode stage with e|e|e|e|e
 ·rw[Q8h e]
 ·rw[Q9v e];exact Q2k _ _
 ·rw[Q9u e]
 ·rw[Q9t e]
  show(takeA L n task).2.2.length=_
  unfold takeA
  split
  ·exact Q2k _ _
  ·rfl
 ·rw[Q9s e];exact Q2k _ _
def Rn.keep(s:Rn)(R:Q5C):Rn:=if R.seen then s.Q0h R.acc.old else s
set_option maxRecDepth 100000 in
theorem X3y{S0:List Nat}{w0 w:World}{m a r:Nat}{nv:Value}{rs:List Res}{s s2:Rn}(H:Has S0 w0 w (.mem m a s.L:: .blk r (Q0V m s nv)::rs))(c:Int)(fv:Value)(R:Q5C)
 (hw: ∀W,Has S0 w0 W (.mem m a s.L:: .blk r (Q0V m s nv)::rs)→
  Calls Tryz.prog 131 #[.pointer (some ⟨m,0,none⟩), .agg #[.int .i64 s.n], .int .i64 s.mode, .int .i64 s.task, .agg #[.int .i64 s.f.st], .int .i64 c,fv] W
   fun e w'=>e= .returned R.value∧Has S0 w0 w' (.mem m a R.words:: .blk r (Q0V m s2 nv)::rs)):
 Calls Tryz.prog 85 #[.pointer (some ⟨r,0,none⟩), .int .i64 c,fv] w
  fun e w'=>e= .returned (.tuple #[.bool R.seen, .bool R.done])∧Has S0 w0 w' (.mem m a (s2.waited R).L:: .blk r (Q0V m (s2.waited R) nv)::rs):=by
 obtain⟨n,mode,task,⟨op,line,fa,fb,st,⟨on,wc,wi,hit⟩,ret⟩,⟨ak,ac,ax,ay,ao⟩,notes,L⟩:=s
 obtain⟨n',mode',task',⟨op',line',fa',fb',st',⟨on',wc',wi',hit'⟩,ret'⟩,⟨ak',ac',ax',ay',ao'⟩,notes',L'⟩:=s2
 obtain⟨rst,⟨rk,rc,rx,ry,ro⟩,rs',rd,L2⟩:=R
 simp only[Q5C.value,Acc.cells,Q0V,Rn.waited]at*
 obtain⟨x0,x1,x2⟩:=H.Q7A.own
 have HW:=Lib.hid hw
 have HH:=Lib.hid H
 clear hw H
 go_enter Tryz.func85,Tryz.ntmps85
 go_wp2_with fail
 refine Q1a (by kernel_rfl) (by kernel_rfl) ?_
 simp only[Q0G,probes,List.nil_append]
 go_wp2_with fail
 refine(HW.out _ HH.out.drew).mono ?_
 rintro e w1⟨rfl,H1⟩
 clear x0 x1 x2
 obtain⟨y0,y1,y2⟩:=H1.Q7A.own
 go_wp2_with fail
 rw[Q0g]
 rename_i hK
 refine hK _ _ ?_
 clear hK
 refine Q1q (Facts:=fun W=>Has S0 w0 W (.mem m a L2:: .blk r #[.pointer (some ⟨m,0,none⟩), .int .i64 n', .int .i64 mode', .int .i64 task', .int .i64 op', .int .i64 line', .int .u32 fa', .int .u32 fb', .int .i64 rst, .bool on', .int .i64 wc', .int .i64 wi', .bool hit', .int .i64 ret', .int .i64 rk, .int .i64 rc, .int .u32 rx, .int .u32 ry, .int .u32 ro,nv]::rs)) ?_
  ((((((H1.set1 8 _).set1 14 _).set1 15 _).set1 16 _).set1 17 _).set1 18 _)
 intro W HW'
 clear y0 y1 y2 H1
 go_wp2
 go_ret2
 exact⟨rfl,HW'⟩
theorem X0q{S0:List Nat}{w0 w:World}{m a r:Nat}{nv:Value}{rs:List Res}{s:Rn}(H:Has S0 w0 w (.mem m a s.L:: .blk r (Q0V m s nv)::rs))(hn:I64 s.n)(c:Int)(fid:FuncId)(first cap:Array Value)(p:Int→Bool)
 (eg: ∀args w,(callFunc fid args).run Tryz.prog w= .ok (.enter fid args) w)
 (hF: ∀W v,0≤v→v<4294967296→Has S0 w0 W (.mem m a s.L:: .blk r (Q0V m s nv)::rs)→Calls Tryz.prog fid (first++ #[.int .u32 v]++cap) W fun e W'=>e= .returned (.bool (p v))∧Touch [] W W'):
 Calls Tryz.prog 85 #[.pointer (some ⟨r,0,none⟩), .int .i64 c, .func (.func fid) first cap] w
  fun e w'=>e= .returned (.tuple #[.bool (Q0t s.L s.n s.mode s.task s.f.st c p).seen, .bool (Q0t s.L s.n s.mode s.task s.f.st c p).done])∧
   Has S0 w0 w' (.mem m a (s.waited (Q0t s.L s.n s.mode s.task s.f.st c p)).L:: .blk r (Q0V m (s.waited (Q0t s.L s.n s.mode s.task s.f.st c p)) nv)::rs):=
 X3y (s2:=s) H c _ _ (fun W HW=>X4m HW s.n s.mode s.task s.f.st c hn fid first cap p eg hF)
theorem run_stuck{S0:List Nat}{w0 w:World}{m a:Nat}{rs:List Res}{s:Rn}(H:Has S0 w0 w (.mem m a s.L::rs))(hn:I64 s.n)(nv:Value):
 Calls Tryz.prog 38 #[.agg (Q0V m s nv)] w fun e w'=>e= .returned (.bool (!s.f.wk.on &&Q2R s.L s.n s.mode s.task s.f.st))∧Has S0 w0 w' (.mem m a s.L::rs):=by
 obtain⟨n,mode,task,⟨op,line,fa,fb,st,⟨on,wc,wi,hit⟩,ret⟩,⟨ak,ac,ax,ay,ao⟩,notes,L⟩:=s
 simp only[Q0V]at*
 have hs:=fun W (H:Has S0 w0 W (.mem m a L:: .blk w.heap.size #[.pointer (some ⟨m,0,none⟩), .int .i64 n, .int .i64 mode, .int .i64 task, .int .i64 op, .int .i64 line, .int .u32 fa, .int .u32 fb, .int .i64 st, .bool on, .int .i64 wc, .int .i64 wi, .bool hit, .int .i64 ret, .int .i64 ak, .int .i64 ac, .int .u32 ax, .int .u32 ay, .int .u32 ao,nv]::rs))=>X7a H.mem n mode task st hn
 generalize Q2R L n mode task st=b at hs⊢
 have HS:=Lib.hid hs
 have HH:=Lib.hid H
 clear hs H hn
 cases on with
 |true=>
  go_enter Tryz.func38,Tryz.ntmps38
  go_wp2
  go_ret
  exact⟨by simp,HH.out.grow ((Touch.refl [] w).alloc _)⟩
 |false=>
  go_enter Tryz.func38,Tryz.ntmps38
  go_wp2_with (go_at_call 65;refine(HS.out _ HH.out.al1).mono ?_;rintro e w1 ⟨rfl,t1⟩)
  go_ret
  exact⟨by simp,(HH.out.grow ((Touch.refl [] w).alloc _)).grow t1⟩
def Rn.fresh(s:Rn):Rn:={s with acc:=Acc.zero,notes:=[]}
def Rn.over(s:Rn):Bool:=s.f.ret !=0 && !s.f.wk.on
def Rn.woke(s:Rn):Rn:={s with f:={s.f with wk:=(Q4K s.L s.n s.f.wk).1},acc:=(Q4K s.L s.n s.f.wk).2.1,notes:=[],L:=(Q4K s.L s.n s.f.wk).2.2}
theorem Has.Q8z{S0:List Nat}{w0 w:World}{x y:Res}{rs:List Res}(h:Has S0 w0 w (x::y::rs))(e size:Nat):Has S0 w0 w (x::y:: .own e size (.slice none 0 0) 0 []::rs):=by
 have h1:Has S0 w0 w (.own e size (.slice none 0 0) 0 []::x::y::rs):=
  Has.upd (xs:=[]) (rs:=x::y::rs) [.own e size (.slice none 0 0) 0 []] (S:=[]) h (Touch.refl _ _) (by simp) (by simp[Res.holds];exact⟨by simp, .inl ⟨rfl,rfl⟩⟩) (by simp) (by simp[Res.foot,Value.ownBlock])
 exact h1.perm ((List.Perm.swap x _ _).trans (List.Perm.cons x (List.Perm.swap y _ _)))
theorem Has.X0x{S0:List Nat}{w0 w:World}{x y z:Res}{rs:List Res}(h:Has S0 w0 w (x::y::z::rs)):Has S0 w0 w (x::y::rs):=h.rot3.tail
theorem Y3X(fn:Fn)(first cap:Array Value)(w:World):Sem.run Tryz.prog (binOp BinOp.neq 98 (Value.func fn first cap) Value.nilFunc) w= .ok (.bool true) w:=by kernel_rfl
set_option maxRecDepth 100000 in
theorem Q2U{S0:List Nat}{w0 w:World}{m a r:Nat}{rs rs2:List Res}{s s2:Rn}(H:Q0a S0 w0 m a r rs s w)(hoff:s.f.wk.on=false)(fid:FuncId)(first cap:Array Value)
 (eg: ∀args w,(callFunc fid args).run Tryz.prog w= .ok (.enter fid args) w)
 (hl: ∀W,Q0a S0 w0 m a r rs s.fresh W→Calls Tryz.prog fid (first++ #[.pointer (some ⟨r,0,none⟩)]++cap) W fun e W'=>e= .returned (.tuple #[])∧Q0a S0 w0 m a r rs2 s2 W'):
 Calls Tryz.prog 54 #[.pointer (some ⟨r,0,none⟩), .func (.func fid) first cap] w fun e w'=>e= .returned (.bool s2.over)∧Q0a S0 w0 m a r rs2 s2 w':=by
 obtain⟨n,mode,task,⟨op,line,fa,fb,st,⟨on,wc,wi,hit⟩,ret⟩,⟨ak,ac,ax,ay,ao⟩,notes,L⟩:=s
 obtain⟨n',mode',task',⟨op',line',fa',fb',st',⟨on',wc',wi',hit'⟩,ret'⟩,⟨ak',ac',ax',ay',ao'⟩,notes',L'⟩:=s2
 simp only at hoff
 subst hoff
 simp only[Q0a,Rn.fresh,Rn.over,Acc.zero]at H hl⊢
 obtain⟨nv,H⟩:=H
 simp only[Q0V]at*
 obtain⟨x0,x1,x2⟩:=H.Q7A.own
 have hrun:=Y3X (.func fid) first cap
 have HLN:=Lib.hid hl
 have HH:=Lib.hid H
 clear hl H
 go_enter Tryz.func54,Tryz.ntmps54
 go_wp2_with fail
 refine(HLN.out _ ⟨.slice none 0 0,((((((HH.out.X0x.set1 14 _).set1 15 _).set1 16 _).set1 17 _).set1 18 _).set1 19 _).Q8z _ _⟩).mono ?_
 rintro e w1⟨rfl,nv',H1⟩
 clear x0 x1 x2
 obtain⟨y0,y1,y2⟩:=H1.Q7A.own
 by_cases h0:ret'=0
 ·subst h0
  go_wp2_with fail
  go_ret
  exact⟨by simp,nv',H1⟩
 ·have h1:(ret' !=0)=true:=by simpa using h0
  clear h0
  cases on' with
  |true=>
   go_wp2_with fail
   go_ret
   exact⟨by simp,nv',H1⟩
  |false=>
   go_wp2_with fail
   go_ret
   exact⟨by simp[h1],nv',H1⟩
set_option maxRecDepth 100000 in
theorem Q3h{S0:List Nat}{w0 w:World}{m a r:Nat}{rs:List Res}{s:Rn}(H:Q0a S0 w0 m a r rs s w)(hon:s.f.wk.on=true)(hn:I64 s.n)(lv:Value):
 Calls Tryz.prog 54 #[.pointer (some ⟨r,0,none⟩),lv] w fun e w'=>e= .returned (.bool s.woke.over)∧Q0a S0 w0 m a r rs s.woke w':=by
 obtain⟨n,mode,task,⟨op,line,fa,fb,st,wk,ret⟩,⟨ak,ac,ax,ay,ao⟩,notes,L⟩:=s
 simp only[Q0a,Rn.woke,Rn.over,Acc.zero]at H hon hn⊢
 have hd:=fun W rs (H:Has S0 w0 W (.mem m a L::rs))=>X9V H n hn wk
 generalize Q4K L n wk=R at hd⊢
 obtain⟨⟨on',wc',wi',hit'⟩,⟨rk,rc,rx,ry,ro⟩,L2⟩:=R
 obtain⟨on,wc,wi,hit⟩:=wk
 simp only at hon
 subst hon
 obtain⟨nv,H⟩:=H
 simp only[Q0V,Wk.cells,Acc.cells]at*
 obtain⟨x0,x1,x2⟩:=H.Q7A.own
 have HD:=Lib.hid hd
 have HH:=Lib.hid H
 clear hd H
 go_enter Tryz.func54,Tryz.ntmps54
 go_wp2_with fail
 refine Q1a (by kernel_rfl) (by kernel_rfl) ?_
 simp only[Q0G,probes,List.nil_append]
 go_wp2_with fail
 refine(HD.out _ _ (((((((HH.out.X0x.set1 14 _).set1 15 _).set1 16 _).set1 17 _).set1 18 _).set1 19 _).Q8z 40 4).drew).mono ?_
 rintro e w1⟨rfl,H1⟩
 clear x0 x1 x2
 obtain⟨y0,y1,y2⟩:=H1.Q7A.own
 go_wp2_with fail
 rw[Q0g]
 rename_i hK
 simp only[Exit.inBlock,Exit.then]
 refine hK _ _ ?_
 clear hK
 refine Q1q (Facts:=fun W=>Has S0 w0 W (.mem m a L2:: .blk r #[.pointer (some ⟨m,0,none⟩), .int .i64 n, .int .i64 mode, .int .i64 task, .int .i64 op, .int .i64 line, .int .u32 fa, .int .u32 fb, .int .i64 st, .bool on', .int .i64 wc', .int .i64 wi', .bool hit', .int .i64 ret, .int .i64 rk, .int .i64 rc, .int .u32 rx, .int .u32 ry, .int .u32 ro, .slice none 0 0]:: .own 40 4 (.slice none 0 0) 0 []::rs)) ?_
  (by have H2:=(((((((((H1.set1 9 (.bool on')).set1 10 (.int .i64 wc')).set1 11 (.int .i64 wi')).set1 12 (.bool hit')).set1 14 (.int .i64 rk)).set1 15 (.int .i64 rc)).set1 16 (.int .u32 rx)).set1 17 (.int .u32 ry)).set1 18 (.int .u32 ro));simp only[List.setIfInBounds_toArray,List.set_cons_zero,List.set_cons_succ]at H2;exact H2)
 intro W HW
 clear y0 y1 y2 H1
 obtain⟨y0,y1,y2⟩:=HW.Q7A.own
 by_cases h0:ret=0
 ·subst h0
  go_wp2_with fail
  go_ret
  exact⟨by simp, .slice none 0 0,HW⟩
 ·have h1:(ret !=0)=true:=by simpa using h0
  clear h0
  cases on' with
  |true=>
   go_wp2_with fail
   go_ret
   exact⟨by simp, .slice none 0 0,HW⟩
  |false=>
   go_wp2_with fail
   go_ret
   exact⟨by simp[h1], .slice none 0 0,HW⟩
theorem Q1r{S0:List Nat}{w0 w:World}{m a r:Nat}{rs:List Res}{s:Rn}(H:Q0a S0 w0 m a r rs s w)(c:Int):
 Calls Tryz.prog 96 #[.pointer (some ⟨r,0,none⟩), .int .i64 c] w fun e w'=>e= .returned (.int .u32 (doA s.L ⟨1,c,0,0,0⟩).1.old)∧Q0a S0 w0 m a r rs (s.did (doA s.L ⟨1,c,0,0,0⟩)) w':=by
 obtain⟨nv,H⟩:=H
 exact(run_load H c).mono fun e w' h=>⟨h.1,nv,h.2⟩
theorem Q2f{S0:List Nat}{w0 w:World}{m a r:Nat}{rs:List Res}{s:Rn}(H:Q0a S0 w0 m a r rs s w)(c x:Int)(hx:0≤x∧x<4294967296):
 Calls Tryz.prog 88 #[.pointer (some ⟨r,0,none⟩), .int .i64 c, .int .u32 x] w fun e w'=>e= .returned (.int .u32 (doA s.L ⟨3,c,x,0,0⟩).1.old)∧Q0a S0 w0 m a r rs (s.did (doA s.L ⟨3,c,x,0,0⟩)) w':=by
 obtain⟨nv,H⟩:=H
 exact(Y3u H c x hx).mono fun e w' h=>⟨h.1,nv,h.2⟩
theorem Q6m{S0:List Nat}{w0 w:World}{m a r:Nat}{rs:List Res}{s:Rn}(H:Q0a S0 w0 m a r rs s w)(c x y:Int)(hx:0≤x∧x<4294967296)(hy:0≤y∧y<4294967296):
 Calls Tryz.prog 112 #[.pointer (some ⟨r,0,none⟩), .int .i64 c, .int .u32 x, .int .u32 y] w fun e w'=>e= .returned (.bool (Q7N s.L c x y))∧Q0a S0 w0 m a r rs (s.did (doA s.L ⟨5,c,x,y,0⟩)) w':=by
 obtain⟨nv,H⟩:=H
 exact(Y3s H c x y hx hy).mono fun e w' h=>⟨h.1,nv,h.2⟩
theorem Q1j{S0:List Nat}{w0 w:World}{m a r:Nat}{rs:List Res}{s:Rn}(H:Q0a S0 w0 m a r rs s w)(k:Int):
 Calls Tryz.prog 86 #[.pointer (some ⟨r,0,none⟩), .int .i64 k] w fun e w'=>e= .returned (.tuple #[])∧Q0a S0 w0 m a r rs (s.goto k) w':=by
 obtain⟨nv,H⟩:=H
 exact(run_go H k).mono fun e w' h=>⟨h.1,nv,h.2⟩
theorem Q1x{S0:List Nat}{w0 w:World}{m a r:Nat}{rs:List Res}{s:Rn}(H:Q0a S0 w0 m a r rs s w)(b:Bool):
 Calls Tryz.prog 91 #[.pointer (some ⟨r,0,none⟩), .bool b] w fun e w'=>e= .returned (.tuple #[])∧Q0a S0 w0 m a r rs (s.fin b) w':=by
 obtain⟨nv,H⟩:=H
 exact(run_end H b).mono fun e w' h=>⟨h.1,nv,h.2⟩
theorem Q3l{S0:List Nat}{w0 w:World}{m a r:Nat}{rs:List Res}{s:Rn}(H:Q0a S0 w0 m a r rs s w)(c:Int):
 Calls Tryz.prog 90 #[.pointer (some ⟨r,0,none⟩), .int .i64 c] w fun e w'=>e= .returned (.tuple #[])∧Q0a S0 w0 m a r rs (s.wake c) w':=by
 obtain⟨nv,H⟩:=H
 exact(Y0o H c).mono fun e w' h=>⟨h.1,nv,h.2⟩
theorem Q3m{S0:List Nat}{w0 w:World}{m a r:Nat}{rs:List Res}{s:Rn}(H:Q0a S0 w0 m a r rs s w)(hn:I64 s.n)(c:Int)(fid:FuncId)(first cap:Array Value)(p:Int→Bool)
 (eg: ∀args w,(callFunc fid args).run Tryz.prog w= .ok (.enter fid args) w)
 (hF: ∀W v,0≤v→v<4294967296→Q0a S0 w0 m a r rs s W→Calls Tryz.prog fid (first++ #[.int .u32 v]++cap) W fun e W'=>e= .returned (.bool (p v))∧Touch [] W W'):
 Calls Tryz.prog 85 #[.pointer (some ⟨r,0,none⟩), .int .i64 c, .func (.func fid) first cap] w
  fun e w'=>e= .returned (.tuple #[.bool (Q0t s.L s.n s.mode s.task s.f.st c p).seen, .bool (Q0t s.L s.n s.mode s.task s.f.st c p).done])∧Q0a S0 w0 m a r rs (s.waited (Q0t s.L s.n s.mode s.task s.f.st c p)) w':=by
 obtain⟨nv,H⟩:=H
 exact(X0q H hn c fid first cap p eg (fun W v h0 h1 HW=>hF W v h0 h1 ⟨nv,HW⟩)).mono fun e w' h=>⟨h.1,nv,h.2⟩
theorem Q0a.facts{S0:List Nat}{w0 w:World}{m a r:Nat}{rs:List Res}{s:Rn}(H:Q0a S0 w0 m a r rs s w){o l x y:Int}(ho:s.f.op=o)(hl:s.f.line=l)(hx:s.f.a=x)(hy:s.f.b=y):
 r<w.heap.size∧(∀i,w.frozen? ⟨r,i,none⟩=false)∧w.cell? ⟨r,4,none⟩=some (.int .i64 o)∧w.cell? ⟨r,5,none⟩=some (.int .i64 l)∧w.cell? ⟨r,6,none⟩=some (.int .u32 x)∧w.cell? ⟨r,7,none⟩=some (.int .u32 y):=by
 obtain⟨nv,H⟩:=H
 subst ho hl hx hy
 obtain⟨x0,x1,x2⟩:=H.Q7A.own
 exact⟨x0,x2,x1 4,x1 5,x1 6,x1 7⟩
theorem Q0a.whose{S0:List Nat}{w0 w:World}{m a r:Nat}{rs:List Res}{s:Rn}(H:Q0a S0 w0 m a r rs s w){n mode t:Int}(hn:s.n=n)(hm:s.mode=mode)(ht:s.task=t):
 w.cell? ⟨r,1,none⟩=some (.int .i64 n)∧w.cell? ⟨r,2,none⟩=some (.int .i64 mode)∧w.cell? ⟨r,3,none⟩=some (.int .i64 t):=by
 obtain⟨nv,H⟩:=H
 subst hn hm ht
 obtain⟨x0,x1,x2⟩:=H.Q7A.own
 exact⟨x1 1,x1 2,x1 3⟩
theorem Q0a.Q0h{S0:List Nat}{w0 w:World}{m a r:Nat}{rs:List Res}{s:Rn}(H:Q0a S0 w0 m a r rs s w)(v:Int):Q0a S0 w0 m a r rs (s.Q0h v) (w.setCell ⟨r,6,none⟩ (.int .u32 v)):=by
 obtain⟨nv,H⟩:=H
 exact⟨nv,H.set1 6 (.int .u32 v)⟩
theorem Q0a.setB{S0:List Nat}{w0 w:World}{m a r:Nat}{rs:List Res}{s:Rn}(H:Q0a S0 w0 m a r rs s w)(v:Int):Q0a S0 w0 m a r rs (s.setB v) (w.setCell ⟨r,7,none⟩ (.int .u32 v)):=by
 obtain⟨nv,H⟩:=H
 exact⟨nv,H.set1 7 (.int .u32 v)⟩
theorem Q0a.drew{S0:List Nat}{w0 w:World}{m a r:Nat}{rs:List Res}{s:Rn}(H:Q0a S0 w0 m a r rs s w):Q0a S0 w0 m a r rs s w.drew:=by
 obtain⟨nv,H⟩:=H
 exact⟨nv,H.drew⟩
theorem Q0a.drewN{S0:List Nat}{w0 w:World}{m a r:Nat}{rs:List Res}{s:Rn}(H:Q0a S0 w0 m a r rs s w)(n:Nat):Q0a S0 w0 m a r rs s (w.drewN n):=by
 obtain⟨nv,H⟩:=H
 exact⟨nv,H.drewN n⟩
theorem Q0a.grow{w':World}{S0:List Nat}{w0 w:World}{m a r:Nat}{rs:List Res}{s:Rn}(H:Q0a S0 w0 m a r rs s w)(t:Touch [] w w'):Q0a S0 w0 m a r rs s w':=by
 obtain⟨nv,H⟩:=H
 exact⟨nv,H.grow t⟩
theorem Q0a.touch{S0:List Nat}{w0 w:World}{m a r:Nat}{rs:List Res}{s:Rn}(H:Q0a S0 w0 m a r rs s w):Touch S0 w0 w:=by
 obtain⟨nv,H⟩:=H
 exact H.touch
theorem Q0a.words{S0:List Nat}{w0 w:World}{m a r:Nat}{rs:List Res}{s:Rn}(H:Q0a S0 w0 m a r rs s w):Words s.L:=by
 obtain⟨nv,H⟩:=H
 exact H.mem.words
theorem Q0a.old{S0:List Nat}{w0 w:World}{m a r:Nat}{rs:List Res}{s:Rn}(H:Q0a S0 w0 m a r rs s w)(b:Acc):0≤(doA s.L b).1.old∧(doA s.L b).1.old<4294967296:=Q0s s.L H.words b
theorem Q0a.box{S0:List Nat}{w0 w:World}{m a r:Nat}{rs:List Res}{s:Rn}(H:Q0a S0 w0 m a r rs s w){b:Nat}(hb:w.heap.size=b)(cs:Array Value)(T:TypeId):Q0a S0 w0 m a r (.blk b cs::rs) s (w.alloc (.cells cs T)):=by
 obtain⟨nv,H⟩:=H
 exact⟨nv,(H.new hb cs T).perm (Q0X (Res.mem m a s.L) (Res.blk r (Q0V m s nv)) (Res.own 40 4 nv s.notes.length (nts s.notes)) [Res.blk b cs] rs)⟩
theorem Q0a.Q0N{x:Res}{S0:List Nat}{w0 w:World}{m a r:Nat}{rs:List Res}{s:Rn}(H:Q0a S0 w0 m a r (x::rs) s w):Q0a S0 w0 m a r rs s w:=by
 obtain⟨nv,H⟩:=H
 exact⟨nv,H.Y4r⟩
theorem Q0a.first{b:Nat}{cs:Array Value}{S0:List Nat}{w0 w:World}{m a r:Nat}{rs:List Res}{s:Rn}(H:Q0a S0 w0 m a r (.blk b cs::rs) s w):Blk w b cs:=by
 obtain⟨nv,H⟩:=H
 exact H.at_ 3 rfl
def Rn.Q0d(s:Rn)(l:List Int):Rn:=l.foldl (fun s x=>s.note x 0) s
theorem Q6w(s:Rn)(l:List Int):(s.Q0d l).notes.length=s.notes.length+l.length:=by
 induction l generalizing s with
 |nil=>rfl
 |cons x l ih=>
  show((s.note x 0).Q0d l).notes.length=_
  rw[ih]
  simp[Rn.note]
  omega
theorem Q7s(s:Rn)(l:List Int)(k:Nat)(h:k<l.length):s.Q0d (l.take (k+1))=(s.Q0d (l.take k)).note (l.getD k 0) 0:=by
 rw[List.take_succ_eq_append_getElem h]
 unfold Rn.Q0d
 rw[List.foldl_append]
 simp[List.getD,h]
def Q3S(l:List Int):List Value:=l.map (Value.int .i64)
theorem X2G{w:World}{n i:Nat}{A:Option Addr}{L:List Int}(h:Rd w 1 A n (Q3S L))(hi:i<n):
 ∃b off,A=some ⟨b,off,none⟩∧b<w.heap.size∧w.cell? ⟨b,off+i,none⟩=some (.int .i64 (L.getD i 0)):=by
 obtain⟨b,off,hA,hb,hc⟩:=h.lit (by omega) (by omega)
 have hl:i<L.length:=by have:=h.1;simp[Q3S]at this;omega
 exact⟨b,off,hA,hb,hc _ _ (by simp[Q3S,List.getD,hl])⟩
theorem X7F{w:World}{b:Nat}{l:List Int}(h:Blk w b (Q3S l).toArray):Rd w 1 (some ⟨b,0,none⟩) l.length (Q3S l):=
 ⟨by simp[Q3S],fun _=>⟨_,rfl,h.lt,fun j u hu=>by
  rw[Addr.add_lit,Nat.zero_add,h.cell,←hu]
  simp⟩⟩
section
open Go Go.RowKit
theorem Has.fin{S0:List Nat}{w0 w w':World}{y:Res}{x:Nat}{cs cs':Array Value}(ys:List Res){rs:List Res}(h:Has S0 w0 w (y:: .blk x cs::(ys++rs)))(t:Touch (x::Q1F ys) w w')(hb:Blk w' x cs'):
 Has S0 w0 w' (y:: .blk x cs'::rs):=by
 have h1:Has S0 w0 w ((.blk x cs::ys)++(y::rs)):=h.perm ((List.Perm.swap _ _ _).trans (List.Perm.cons _ List.perm_middle.symm))
 have h2:=Has.upd (xs:= .blk x cs::ys) (rs:=y::rs) [.blk x cs'] (S:=x::Q1F ys) h1 t (fun k hk=>Or.inl (by simpa[Q1F,Res.foot]using hk)) (by intro r hr;simp only[List.mem_singleton]at hr;subst hr;exact hb) (by simp) (by simp[Q1F,Res.foot])
 exact h2.swap
theorem Has.Q5B{S0:List Nat}{w0 w:World}{e size n:Nat}{v:Value}{xs:List Value}{rs:List Res}(h:Has S0 w0 w rs)(i:Nat)(hi:rs[i]? =some (.own e size v n xs)):w.ownsRow 0 e size v n xs:=h.all _ (List.mem_of_getElem? hi)
end
def Q0K(g:Rn→Rn)(s:Rn):Rn:=if s.f.wk.on then s.woke else g s.fresh
def Q2T(g:Rn→Rn):Nat→Rn→Int×Rn
 |0,s=>(0,s)
 |k+1,s=>if(Q0K g s).over then((Q0K g s).f.ret,Q0K g s)else Q2T g k (Q0K g s)
def start(n mode op:Int)(L:List Int):Rn:=⟨n,mode,0,⟨op,0,0,0,0,Wk.zero,0⟩,Acc.zero,[],L⟩
def Rn.ok(s:Rn):Prop:=I64 s.n∧(0≤s.f.a∧s.f.a<4294967296)∧(0≤s.f.b∧s.f.b<4294967296)
theorem Q7g{s:Rn}(h:s.ok):s.woke.ok:=h
theorem Q6b{s:Rn}(h:s.ok):s.fresh.ok:=h
def Fine(s0 s':Rn):Prop:=(I64 s'.n∧(0≤s'.f.a∧s'.f.a<4294967296)∧(0≤s'.f.b∧s'.f.b<4294967296))∧s'.notes.length≤s0.notes.length+10
theorem Q0f{s0 s':Rn}(h:(I64 s'.n∧(0≤s'.f.a∧s'.f.a<4294967296)∧(0≤s'.f.b∧s'.f.b<4294967296))∧s'.notes.length≤s0.notes.length+10):Fine s0 s':=h
theorem Has.Q9M{S0:List Nat}{w0 w:World}{rs:List Res}(h:Has S0 w0 w rs)(e size:Nat):Has S0 w0 w (.own e size (.slice none 0 0) 0 []::rs):=
 Has.upd (xs:=[]) (rs:=rs) [.own e size (.slice none 0 0) 0 []] (S:=[]) h (Touch.refl _ _) (by simp) (by simp[Res.holds];exact⟨by simp, .inl ⟨rfl,rfl⟩⟩) (by simp) (by simp[Res.foot,Value.ownBlock])
def Q6T(op hold:Int):Bool:=if hold=0 then op==1||op==3||op==5||op==6 else if hold=1 then op==2||op==7 else op==4||op==8
def Q0w(op hold:Int):Int:=if op=2∨op=4 then 0 else if op=8 then 1 else hold
def Q0c(op ret hold:Int):Int:=if ret≠2 then hold else if op=1∨op=5 then 1 else if op=3∨op=6∨op=7 then 2 else hold
end Go.Proofs.YthnimpkoidablaaGreat.Z
