import Derived.Test.YthnimpkoidablaaGreatZA13
import Derived.Test.YthnimpkoidablaaGreatZA07
import Derived.Test.YthnimpkoidablaaGreatZA14
set_option linter.unusedVariables false
set_option linter.unusedSimpArgs false
set_option maxHeartbeats 1600000
namespace Go.Proofs.YthnimpkoidablaaGreat.Z
open Go.RowKit
attribute [local go_sem↓] Go.wp_at_zero Go.wp_at_succ
def Q0H(s:Rn):Int:=(s.task+1)%4294967296
theorem Q5h(s:Rn):0≤Q0H s∧Q0H s<4294967296:=by unfold Q0H;omega
theorem Q0a.sees{S0:List Nat}{w0 w:World}{m a r:Nat}{rs:List Res}{s:Rn}(H:Q0a S0 w0 m a r rs s w):w.cell? ⟨r,1,none⟩=some (.int .i64 s.n)∧w.cell? ⟨r,3,none⟩=some (.int .i64 s.task)∧w.cell? ⟨r,6,none⟩=some (.int .u32 s.f.a):=
 ⟨(H.whose rfl rfl rfl).1,(H.whose rfl rfl rfl).2.2,(H.facts rfl rfl rfl rfl).2.2.2.2.1⟩
theorem Q0a.Q6H{S0:List Nat}{w0 w:World}{m a r:Nat}{rs:List Res}{s:Rn}{R:Acc×Bool×List Int}(H:Q0a S0 w0 m a r rs (s.did R) w):w.cell? ⟨r,1,none⟩=some (.int .i64 s.n)∧w.cell? ⟨r,3,none⟩=some (.int .i64 s.task)∧w.cell? ⟨r,6,none⟩=some (.int .u32 s.f.a):=
 ⟨(H.whose rfl rfl rfl).1,(H.whose rfl rfl rfl).2.2,(H.facts rfl rfl rfl rfl).2.2.2.2.1⟩
theorem Q0a.Q6G{S0:List Nat}{w0 w:World}{m a r:Nat}{rs:List Res}{s:Rn}{R:Q5C}(H:Q0a S0 w0 m a r rs (s.waited R) w):w.cell? ⟨r,1,none⟩=some (.int .i64 s.n)∧w.cell? ⟨r,3,none⟩=some (.int .i64 s.task)∧w.cell? ⟨r,6,none⟩=some (.int .u32 s.f.a):=
 ⟨(H.whose rfl rfl rfl).1,(H.whose rfl rfl rfl).2.2,(H.facts rfl rfl rfl rfl).2.2.2.2.1⟩
theorem Q0a.Q4j{S0:List Nat}{w0 w:World}{m a r:Nat}{rs:List Res}{s:Rn}{b:Nat}(H:Q0a S0 w0 m a r (.blk b #[.pointer (some ⟨r,4,none⟩)]::rs) s w):w.cell? ⟨r,1,none⟩=some (.int .i64 s.n)∧w.cell? ⟨r,3,none⟩=some (.int .i64 s.task)∧w.cell? ⟨r,6,none⟩=some (.int .u32 s.f.a)∧w.cell? ⟨b,0,none⟩=some (.pointer (some ⟨r,4,none⟩)):=
 ⟨(H.whose rfl rfl rfl).1,(H.whose rfl rfl rfl).2.2,(H.facts rfl rfl rfl rfl).2.2.2.2.1,H.first.own.2.1 0⟩
theorem Q9O{S0:List Nat}{w0 w:World}{m a r:Nat}{rs:List Res}{s:Rn}(H:Q0a S0 w0 m a r rs s w):
 Calls Tryz.prog 174 #[.pointer (some ⟨r,0,none⟩)] w fun e w'=>e= .returned (.int .u32 (Q0H s))∧w=w':=by
 obtain⟨y1,y2,y3⟩:=H.whose rfl rfl rfl
 go_enter Tryz.func174,Tryz.ntmps174
 go_wp2
 go_ret
 refine⟨?_,rfl⟩
 show Ending.returned (Value.int .u32 _)=Ending.returned (Value.int .u32 _)
 unfold Q0H
 have e:wrap64 (s.task+1)%4294967296=(s.task+1)%4294967296:=by
  unfold wrap64
  omega
 rw[e]
theorem X3V(v:Int)(w:World)(hv:0≤v∧v<4294967296):
 Calls Tryz.prog 175 #[.int .u32 v] w fun e w'=>e= .returned (.int .i64 (v-1))∧w=w':=by
 go_enter Tryz.func175,Tryz.ntmps175
 go_wp2
 go_ret
 refine⟨?_,rfl⟩
 go_num
theorem Y3Z(v:Int)(w:World)(hv:0≤v∧v<4294967296):
 Calls Tryz.prog 176 #[.int .u32 v] w fun e w'=>e= .returned (.bool (v==0))∧Touch [] w w':=by
 go_enter Tryz.func176,Tryz.ntmps176
 go_wp2
 go_ret
 exact⟨rfl,Touch.refl _ _⟩
theorem Q0a.Q5r{S0:List Nat}{w0 w:World}{m a r b:Nat}{cs:Array Value}{rs:List Res}{s:Rn}(H:Q0a S0 w0 m a r (.blk b cs::rs) s w):r≠b:=by
 obtain⟨nv,H⟩:=H
 exact H.X0z 1 3 rfl rfl (by decide)
theorem Q0a.X3r{S0:List Nat}{w0 w:World}{m a r:Nat}{x y:Res}{rs:List Res}{s:Rn}(H:Q0a S0 w0 m a r (x::y::rs) s w):Q0a S0 w0 m a r (y::x::rs) s w:=by
 obtain⟨nv,H⟩:=H
 exact⟨nv,H.perm (((List.Perm.swap y x rs).cons _).cons _|>.cons _)⟩
theorem X3W{S0:List Nat}{w0 w:World}{m a r g n c:Nat}{l:List Int}{rs:List Res}{s:Rn}(H:Q0a S0 w0 m a r (.blk g (Q3S l).toArray::rs) s w)(hn:l.length=n)(hc:s.notes.length+l.length≤1000):
 Calls Tryz.prog 177 #[.pointer (some ⟨r,0,none⟩), .slice (some ⟨g,0,none⟩) n c] w fun e w'=>e= .returned (.tuple #[])∧Q0a S0 w0 m a r (.blk g (Q3S l).toArray::rs) (s.Q0d l) w':=by
 subst hn
 have hll:l.length≤1000:=by omega
 have HC:=Lib.hid hc
 have HH:=Lib.hid H
 clear hc H
 go_enter Tryz.func177,Tryz.ntmps177
 go_wp2_with fail
 go_loopw [8] (fun i wr=> ∃k:Nat,k≤l.length∧i= .int .i64 k∧Q0a S0 w0 m a r (.blk g (Q3S l).toArray::rs) (s.Q0d (l.take k)) wr) (fun i _=>l.length-(intOf i).toNat)
 case atStart=>exact⟨0,Nat.zero_le _,rfl,HH.out⟩
 case round=>
  obtain⟨k,hk,rfl,hH⟩:=hrel
  have HK:=Lib.hid hH
  clear hH
  by_cases hlt:k<l.length
  ·obtain⟨b,off,hb,hbl,hcell⟩:=X2G (X7F HK.out.first) hlt
   simp only[Option.some.injEq,Addr.mk.injEq]at hb
   obtain⟨rfl,rfl,_⟩:=hb
   obtain⟨x,hx⟩: ∃x,l.getD k 0=x:=⟨_,rfl⟩
   rw[hx,Nat.zero_add]at hcell
   have HX:=Lib.hid hx
   clear hx
   have hi:(k:Int)<(l.length:Int):=by omega
   go_wp2_with fail
   refine(Q0r HK.out (by rw[Q6w];have:=HC.out;simp only[List.length_take];omega) x 0).mono ?_
   rintro e w1⟨rfl,H1⟩
   go_wp2
   go_roundw
   case rel=>exact⟨k+1,by omega,by go_num,by rw[Q7s s l k hlt,HX.out];exact H1⟩
   case measure=>simp[intOf];omega
  ·have hkn:k=l.length:=by omega
   subst hkn
   have hi:(l.length:Int)≤(l.length:Int):=Int.le_refl _
   have H2:=HK.out
   rw[List.take_length]at H2
   clear HK hlt hk
   go_wp2_with fail
   go_end0
   exact⟨rfl,H2⟩
theorem Y1j{m r b:Nat}{nv:Value}{s:Rn}(v:Int)(w:World)(hv:0≤v∧v<4294967296)(hr:Blk w r (Q0V m s nv))(hb:Blk w b #[.pointer (some ⟨r,4,none⟩)]):
 Calls Tryz.prog 178 #[.int .u32 v, .pointer (some ⟨b,0,none⟩)] w fun e w'=>e= .returned (.bool (v !=0))∧Touch [r] w w'∧Blk w' r (Q0V m (if v !=0 then s.Q0h v else s) nv):=by
 obtain⟨n,mode,task,⟨op,line,fa,fb,st,⟨on,wc,wi,hit⟩,ret⟩,⟨ak,ac,ax,ay,ao⟩,notes,L⟩:=s
 obtain⟨x0,x1,x2⟩:=hb.own
 cases hcm:v !=0 with
 |true=>
  simp only[Q0V,if_true,Rn.Q0h]at hr⊢
  obtain⟨y0,y1,y2⟩:=hr.own
  have HR:=Lib.hid hr
  clear hr
  go_enter Tryz.func178,Tryz.ntmps178
  go_wp2
  go_ret
  refine⟨rfl,(Touch.refl _ _).set (by simp) _,?_⟩
  have:=HR.out.set 6 (.int .u32 v)
  simp only[List.setIfInBounds_toArray,List.set_cons_zero,List.set_cons_succ]at this
  exact this
 |false=>
  simp only[Q0V,Bool.false_eq_true,if_false]at hr⊢
  have HR:=Lib.hid hr
  clear hr
  go_enter Tryz.func178,Tryz.ntmps178
  go_wp2
  go_ret
  exact⟨rfl,Touch.refl _ _,HR.out⟩
attribute [local go_sem↓] Go.wp_at_zero Go.wp_at_succ
def Q1S(s:Rn):Rn:=(s.did (doA s.L ⟨2,cellP s.n 0 s.task,0,0,0⟩)).goto 1
theorem mx_e0{S0:List Nat}{w0 w:World}{m a r:Nat}{rs:List Res}{s:Rn}(H:Q0a S0 w0 m a r rs s w)(tail cls:Int)(hl:s.f.line=0)(hn:I64 s.n):
 Calls Tryz.prog 142 #[.pointer (some ⟨r,0,none⟩), .int .i64 tail, .int .i64 cls] w fun e w'=>e= .returned (.bool false)∧Q0a S0 w0 m a r rs (Q1S s) w':=by
 obtain⟨o,hop⟩: ∃o,s.f.op=o:=⟨_,rfl⟩
 obtain⟨z0,z2,z4,z5,z6,z7⟩:=H.facts rfl hl rfl rfl
 obtain⟨y1,y2,y3⟩:=H.whose rfl rfl rfl
 have HN:=Lib.hid hn
 have HH:=Lib.hid H
 have HNX:=Lib.hid (fun W=>mapNext s.n s.task W hn)
 have HST:=Lib.hid (fun W (H:Q0a S0 w0 m a r rs s W)=>Q4l H (cellP s.n 0 s.task) 0 (by decide))
 clear H hn
 unfold Q1S
 go_enter Tryz.func142,Tryz.ntmps142
 go_wp2_with fail
 go_region_held3 (fun w'=>w'.cell? ⟨r,1,none⟩=some (.int .i64 s.n)∧w'.cell? ⟨r,3,none⟩=some (.int .i64 s.task)∧w'.cell? ⟨r,6,none⟩=some (.int .u32 s.f.a))
  (first|with_reducible exact Q0a.sees HH.out|with_reducible exact Q0a.sees HH.out.drew|(refine Q0a.sees (S0:=S0) (w0:=w0) (m:=m) (a:=a) (rs:=rs) (s:=s) ?_;with_reducible assumption)|(refine Q0a.Q6H (S0:=S0) (w0:=w0) (m:=m) (a:=a) (rs:=rs) (s:=s) (R:=doA s.L ⟨2,cellP s.n 0 s.task,0,0,0⟩) ?_;with_reducible assumption)|(refine Q0a.Q6G (S0:=S0) (w0:=w0) (m:=m) (a:=a) (rs:=rs) (s:=s) (R:=doA s.L ⟨2,cellP s.n 0 s.task,0,0,0⟩) ?_;with_reducible assumption))
  (first|(go_at_call 171;refine(HNX.out _).mono ?_;rintro e w1 ⟨rfl,t1⟩;have H1:=Q0a.grow (by first|with_reducible exact HH.out|with_reducible exact HH.out.drew) t1)|(go_at_call 137;(with_reducible refine(HST.out _ H1).mono ?_);rintro e w2 ⟨rfl,H2⟩))
 go_wp2_with fail
 refine(Q1j H2 1).mono ?_
 rintro e w3⟨rfl,H3⟩
 go_wp2_with fail
 go_ret
 exact⟨rfl,H3⟩
def Q2b(s:Rn):Rn:=(s.did (doA s.L ⟨2,cellP s.n 1 s.task,1,0,0⟩)).goto 2
theorem mx_e1{S0:List Nat}{w0 w:World}{m a r:Nat}{rs:List Res}{s:Rn}(H:Q0a S0 w0 m a r rs s w)(tail cls:Int)(hl:s.f.line=1)(hn:I64 s.n):
 Calls Tryz.prog 142 #[.pointer (some ⟨r,0,none⟩), .int .i64 tail, .int .i64 cls] w fun e w'=>e= .returned (.bool false)∧Q0a S0 w0 m a r rs (Q2b s) w':=by
 obtain⟨o,hop⟩: ∃o,s.f.op=o:=⟨_,rfl⟩
 obtain⟨z0,z2,z4,z5,z6,z7⟩:=H.facts rfl hl rfl rfl
 obtain⟨y1,y2,y3⟩:=H.whose rfl rfl rfl
 have HN:=Lib.hid hn
 have HH:=Lib.hid H
 have HNX:=Lib.hid (fun W=>Q7u s.n s.task W hn)
 have HST:=Lib.hid (fun W (H:Q0a S0 w0 m a r rs s W)=>Q4l H (cellP s.n 1 s.task) 1 (by decide))
 clear H hn
 unfold Q2b
 go_enter Tryz.func142,Tryz.ntmps142
 go_wp2_with fail
 go_region_held3 (fun w'=>w'.cell? ⟨r,1,none⟩=some (.int .i64 s.n)∧w'.cell? ⟨r,3,none⟩=some (.int .i64 s.task)∧w'.cell? ⟨r,6,none⟩=some (.int .u32 s.f.a))
  (first|with_reducible exact Q0a.sees HH.out|with_reducible exact Q0a.sees HH.out.drew|(refine Q0a.sees (S0:=S0) (w0:=w0) (m:=m) (a:=a) (rs:=rs) (s:=s) ?_;with_reducible assumption)|(refine Q0a.Q6H (S0:=S0) (w0:=w0) (m:=m) (a:=a) (rs:=rs) (s:=s) (R:=doA s.L ⟨2,cellP s.n 1 s.task,1,0,0⟩) ?_;with_reducible assumption)|(refine Q0a.Q6G (S0:=S0) (w0:=w0) (m:=m) (a:=a) (rs:=rs) (s:=s) (R:=doA s.L ⟨2,cellP s.n 1 s.task,1,0,0⟩) ?_;with_reducible assumption))
  (first|(go_at_call 172;refine(HNX.out _).mono ?_;rintro e w1 ⟨rfl,t1⟩;have H1:=Q0a.grow (by first|with_reducible exact HH.out|with_reducible exact HH.out.drew) t1)|(go_at_call 137;(with_reducible refine(HST.out _ H1).mono ?_);rintro e w2 ⟨rfl,H2⟩))
 go_wp2_with fail
 refine(Q1j H2 2).mono ?_
 rintro e w3⟨rfl,H3⟩
 go_wp2_with fail
 go_ret
 exact⟨rfl,H3⟩
def Q1U(tail cls:Int)(s:Rn):Bool×Rn:=
 let s1:=((s.did (doA s.L ⟨4,tail,Q0H s,0,0⟩)).Q0h (doA s.L ⟨4,tail,Q0H s,0,0⟩).1.old).note 2 cls
 if(doA s.L ⟨4,tail,Q0H s,0,0⟩).1.old=0 then(true,s1)else(false,s1.goto 3)
theorem mx_e2{S0:List Nat}{w0 w:World}{m a r:Nat}{rs:List Res}{s:Rn}(H:Q0a S0 w0 m a r rs s w)(tail cls:Int)(hc:s.notes.length≤900)(hl:s.f.line=2)(hn:I64 s.n):
 Calls Tryz.prog 142 #[.pointer (some ⟨r,0,none⟩), .int .i64 tail, .int .i64 cls] w fun e w'=>e= .returned (.bool (Q1U tail cls s).1)∧Q0a S0 w0 m a r rs (Q1U tail cls s).2 w':=by
 obtain⟨o,hop⟩: ∃o,s.f.op=o:=⟨_,rfl⟩
 obtain⟨z0,z2,z4,z5,z6,z7⟩:=H.facts rfl hl rfl rfl
 obtain⟨y1,y2,y3⟩:=H.whose rfl rfl rfl
 have HN:=Lib.hid hn
 have HH:=Lib.hid H
 have HC:=Lib.hid hc
 clear H hn hc
 unfold Q1U
 (try dsimp only)
 by_cases hq:(doA s.L ⟨4,tail,Q0H s,0,0⟩).1.old=0
 ·simp only[if_pos hq]
  have hz:((doA s.L ⟨4,tail,Q0H s,0,0⟩).1.old==0)=true:=by simpa using hq
  clear hq
  go_enter Tryz.func142,Tryz.ntmps142
  go_wp2_with fail
  refine(Q9O HH.out).mono ?_
  rintro e w9⟨rfl,rfl⟩
  go_wp2_with fail
  refine(X7f HH.out tail (Q0H s) (Q5h s)).mono ?_
  rintro e w1⟨rfl,H1⟩
  obtain⟨x0,x2,x4,x5,x6,x7⟩:=H1.facts hop hl rfl rfl
  go_wp2_with fail
  refine(Q0r (H1.Q0h (doA s.L ⟨4,tail,Q0H s,0,0⟩).1.old) (by have:=HC.out;first|exact Nat.le_trans this (by decide)|(simp[Rn.note,Rn.did,Rn.Q0h,Rn.setB,Rn.waited,Rn.goto,Rn.Q0d];omega)) 2 cls).mono ?_
  rintro e w2⟨rfl,H2⟩
  obtain⟨x0,x2,x4,x5,x6,x7⟩:=H2.facts hop hl (x:=(doA s.L ⟨4,tail,Q0H s,0,0⟩).1.old) rfl rfl
  go_wp2_with fail
  go_ret
  exact⟨rfl,H2⟩
 ·simp only[if_neg hq]
  have hz:((doA s.L ⟨4,tail,Q0H s,0,0⟩).1.old==0)=false:=by simpa using hq
  clear hq
  go_enter Tryz.func142,Tryz.ntmps142
  go_wp2_with fail
  refine(Q9O HH.out).mono ?_
  rintro e w9⟨rfl,rfl⟩
  go_wp2_with fail
  refine(X7f HH.out tail (Q0H s) (Q5h s)).mono ?_
  rintro e w1⟨rfl,H1⟩
  obtain⟨x0,x2,x4,x5,x6,x7⟩:=H1.facts hop hl rfl rfl
  go_wp2_with fail
  refine(Q0r (H1.Q0h (doA s.L ⟨4,tail,Q0H s,0,0⟩).1.old) (by have:=HC.out;first|exact Nat.le_trans this (by decide)|(simp[Rn.note,Rn.did,Rn.Q0h,Rn.setB,Rn.waited,Rn.goto,Rn.Q0d];omega)) 2 cls).mono ?_
  rintro e w2⟨rfl,H2⟩
  obtain⟨x0,x2,x4,x5,x6,x7⟩:=H2.facts hop hl (x:=(doA s.L ⟨4,tail,Q0H s,0,0⟩).1.old) rfl rfl
  go_wp2_with fail
  refine(Q1j H2 3).mono ?_
  rintro e w3⟨rfl,H3⟩
  go_wp2_with fail
  go_ret
  exact⟨rfl,H3⟩
def Q2a(s:Rn):Rn:=((s.did (doA s.L ⟨2,(cellP s.n 0 (s.f.a-1)),Q0H s,0,0⟩)).wake (cellP s.n 0 (s.f.a-1))).goto 4
theorem mx_e3{S0:List Nat}{w0 w:World}{m a r:Nat}{rs:List Res}{s:Rn}(H:Q0a S0 w0 m a r rs s w)(tail cls:Int)(ha:0≤s.f.a∧s.f.a<4294967296)(hl:s.f.line=3)(hn:I64 s.n):
 Calls Tryz.prog 142 #[.pointer (some ⟨r,0,none⟩), .int .i64 tail, .int .i64 cls] w fun e w'=>e= .returned (.bool false)∧Q0a S0 w0 m a r rs (Q2a s) w':=by
 obtain⟨o,hop⟩: ∃o,s.f.op=o:=⟨_,rfl⟩
 obtain⟨z0,z2,z4,z5,z6,z7⟩:=H.facts rfl hl rfl rfl
 obtain⟨y1,y2,y3⟩:=H.whose rfl rfl rfl
 have HN:=Lib.hid hn
 have HH:=Lib.hid H
 have HA:=Lib.hid ha
 have HNX:=Lib.hid (fun W=>mapNext s.n (s.f.a-1) W hn)
 clear H hn ha
 unfold Q2a
 go_enter Tryz.func142,Tryz.ntmps142
 go_wp2_with fail
 go_region_held3 (fun w'=>w'.cell? ⟨r,1,none⟩=some (.int .i64 s.n)∧w'.cell? ⟨r,3,none⟩=some (.int .i64 s.task)∧w'.cell? ⟨r,6,none⟩=some (.int .u32 s.f.a))
  (first|with_reducible exact Q0a.sees HH.out|with_reducible exact Q0a.sees HH.out.drew|(refine Q0a.sees (S0:=S0) (w0:=w0) (m:=m) (a:=a) (rs:=rs) (s:=s) ?_;with_reducible assumption)|(refine Q0a.Q6H (S0:=S0) (w0:=w0) (m:=m) (a:=a) (rs:=rs) (s:=s) (R:=X) ?_;with_reducible assumption)|(refine Q0a.Q6G (S0:=S0) (w0:=w0) (m:=m) (a:=a) (rs:=rs) (s:=s) (R:=X) ?_;with_reducible assumption))
  (first|(go_at_call 175;refine(X3V _ _ HA.out).mono ?_;rintro e w9 ⟨rfl,rfl⟩)|(go_at_call 171;refine(HNX.out _).mono ?_;rintro e w1 ⟨rfl,t1⟩;have H1:=Q0a.grow (by first|with_reducible exact HH.out|with_reducible exact HH.out.drew) t1))
 obtain⟨x0,x2,x4,x5,x6,x7⟩:=H1.facts hop hl rfl rfl
 obtain⟨v1,v2,v3⟩:=H1.whose rfl rfl rfl
 go_wp2_with fail
 refine(Q9O H1).mono ?_
 rintro e w9⟨rfl,rfl⟩
 go_wp2_with fail
 refine(Q4l H1 (cellP s.n 0 (s.f.a-1)) (Q0H s) (Q5h s)).mono ?_
 rintro e w2⟨rfl,H2⟩
 go_wp2_with fail
 refine(Q3l H2 (cellP s.n 0 (s.f.a-1))).mono ?_
 rintro e w3⟨rfl,H3⟩
 go_wp2_with fail
 refine(Q1j H3 4).mono ?_
 rintro e w4⟨rfl,H4⟩
 go_wp2_with fail
 go_ret
 exact⟨rfl,H4⟩
def Q1Y(s:Rn):Bool×Rn:=((Q0t s.L s.n s.mode s.task s.f.st (cellP s.n 1 s.task) (fun v=>v==0)).done,s.waited (Q0t s.L s.n s.mode s.task s.f.st (cellP s.n 1 s.task) (fun v=>v==0)))
theorem mx_e4{S0:List Nat}{w0 w:World}{m a r:Nat}{rs:List Res}{s:Rn}(H:Q0a S0 w0 m a r rs s w)(tail cls:Int)(hl:s.f.line=4)(hn:I64 s.n):
 Calls Tryz.prog 142 #[.pointer (some ⟨r,0,none⟩), .int .i64 tail, .int .i64 cls] w fun e w'=>e= .returned (.bool (Q1Y s).1)∧Q0a S0 w0 m a r rs (Q1Y s).2 w':=by
 obtain⟨o,hop⟩: ∃o,s.f.op=o:=⟨_,rfl⟩
 obtain⟨z0,z2,z4,z5,z6,z7⟩:=H.facts rfl hl rfl rfl
 obtain⟨y1,y2,y3⟩:=H.whose rfl rfl rfl
 have HN:=Lib.hid hn
 have HH:=Lib.hid H
 have HNX:=Lib.hid (fun W=>Q7u s.n s.task W hn)
 have HWT:=Lib.hid (fun W (H:Q0a S0 w0 m a r rs s W)=>Q3m H hn (cellP s.n 1 s.task) 176 #[] #[] (fun v=>v==0) (enters_of Tryz.func176 (by kernel_rfl) rfl) (fun W v h0 h1 H=>Y3Z v W ⟨h0,h1⟩))
 clear H hn
 unfold Q1Y
 (try dsimp only)
 go_enter Tryz.func142,Tryz.ntmps142
 go_wp2_with fail
 go_region_held3 (fun w'=>w'.cell? ⟨r,1,none⟩=some (.int .i64 s.n)∧w'.cell? ⟨r,3,none⟩=some (.int .i64 s.task)∧w'.cell? ⟨r,6,none⟩=some (.int .u32 s.f.a))
  (first|with_reducible exact Q0a.sees HH.out|with_reducible exact Q0a.sees HH.out.drew|(refine Q0a.sees (S0:=S0) (w0:=w0) (m:=m) (a:=a) (rs:=rs) (s:=s) ?_;with_reducible assumption)|(refine Q0a.Q6H (S0:=S0) (w0:=w0) (m:=m) (a:=a) (rs:=rs) (s:=s) (R:=(Q0t s.L s.n s.mode s.task s.f.st (cellP s.n 1 s.task) (fun v=>v==0))) ?_;with_reducible assumption)|(refine Q0a.Q6G (S0:=S0) (w0:=w0) (m:=m) (a:=a) (rs:=rs) (s:=s) (R:=(Q0t s.L s.n s.mode s.task s.f.st (cellP s.n 1 s.task) (fun v=>v==0))) ?_;with_reducible assumption))
  (first|(go_at_call 172;refine(HNX.out _).mono ?_;rintro e w1 ⟨rfl,t1⟩;have H1:=Q0a.grow (by first|with_reducible exact HH.out|with_reducible exact HH.out.drew) t1)|(go_at_call 85;(with_reducible refine(HWT.out _ H1).mono ?_);rintro e w2 ⟨rfl,H2⟩))
 go_wp2_with fail
 go_ret
 exact⟨rfl,H2⟩
theorem Y1l{S0:List Nat}{w0 w:World}{m a r:Nat}{rs:List Res}{s:Rn}(H:Q0a S0 w0 m a r rs s w)(tail cls:Int){l:Int}(hl:s.f.line=l)(h0: ¬l=0)(h1: ¬l=1)(h2: ¬l=2)(h3: ¬l=3)(h4: ¬l=4):
 Calls Tryz.prog 142 #[.pointer (some ⟨r,0,none⟩), .int .i64 tail, .int .i64 cls] w fun e w'=>e= .returned (.bool false)∧Q0a S0 w0 m a r rs s w':=by
 obtain⟨z0,z2,z4,z5,z6,z7⟩:=H.facts rfl hl rfl rfl
 have HH:=Lib.hid H
 clear H
 go_enter Tryz.func142,Tryz.ntmps142
 go_wp2_with fail
 go_ret
 exact⟨rfl,HH.out⟩
theorem mx_t0{S0:List Nat}{w0 w:World}{m a r:Nat}{rs:List Res}{s:Rn}(H:Q0a S0 w0 m a r rs s w)(tail:Int){l:Int}(hsub:wrap64 l=0)(hl:s.f.line=l)(hn:I64 s.n):
 Calls Tryz.prog 144 #[.pointer (some ⟨r,0,none⟩), .int .i64 tail, .int .i64 0] w fun e w'=>e= .returned (.tuple #[.bool false, .bool false])∧Q0a S0 w0 m a r rs (Q1S s) w':=by
 obtain⟨o,hop⟩: ∃o,s.f.op=o:=⟨_,rfl⟩
 obtain⟨z0,z2,z4,z5,z6,z7⟩:=H.facts rfl hl rfl rfl
 obtain⟨y1,y2,y3⟩:=H.whose rfl rfl rfl
 have HN:=Lib.hid hn
 have HH:=Lib.hid H
 have HNX:=Lib.hid (fun W=>mapNext s.n s.task W hn)
 have HST:=Lib.hid (fun W (H:Q0a S0 w0 m a r rs s W)=>Q4l H (cellP s.n 0 s.task) 0 (by decide))
 clear H hn
 unfold Q1S
 go_enter Tryz.func144,Tryz.ntmps144
 go_wp2_with fail
 go_region_held3 (fun w'=>w'.cell? ⟨r,1,none⟩=some (.int .i64 s.n)∧w'.cell? ⟨r,3,none⟩=some (.int .i64 s.task)∧w'.cell? ⟨r,6,none⟩=some (.int .u32 s.f.a))
  (first|with_reducible exact Q0a.sees HH.out|with_reducible exact Q0a.sees HH.out.drew|(refine Q0a.sees (S0:=S0) (w0:=w0) (m:=m) (a:=a) (rs:=rs) (s:=s) ?_;with_reducible assumption)|(refine Q0a.Q6H (S0:=S0) (w0:=w0) (m:=m) (a:=a) (rs:=rs) (s:=s) (R:=doA s.L ⟨2,cellP s.n 0 s.task,0,0,0⟩) ?_;with_reducible assumption)|(refine Q0a.Q6G (S0:=S0) (w0:=w0) (m:=m) (a:=a) (rs:=rs) (s:=s) (R:=doA s.L ⟨2,cellP s.n 0 s.task,0,0,0⟩) ?_;with_reducible assumption))
  (first|(go_at_call 171;refine(HNX.out _).mono ?_;rintro e w1 ⟨rfl,t1⟩;have H1:=Q0a.grow (by first|with_reducible exact HH.out|with_reducible exact HH.out.drew) t1)|(go_at_call 137;(with_reducible refine(HST.out _ H1).mono ?_);rintro e w2 ⟨rfl,H2⟩))
 go_wp2_with fail
 refine(Q1j H2 1).mono ?_
 rintro e w3⟨rfl,H3⟩
 go_wp2_with fail
 refine bodyPost_ret (v:= .tuple #[.bool false, .bool false]) (by simp[results,Tryz.results144,go_sem]) rfl ⟨rfl,?_⟩
 exact H3
theorem mx_t1{S0:List Nat}{w0 w:World}{m a r:Nat}{rs:List Res}{s:Rn}(H:Q0a S0 w0 m a r rs s w)(tail:Int){l:Int}(hsub:wrap64 l=1)(hl:s.f.line=l)(hn:I64 s.n):
 Calls Tryz.prog 144 #[.pointer (some ⟨r,0,none⟩), .int .i64 tail, .int .i64 0] w fun e w'=>e= .returned (.tuple #[.bool true, .bool (Q7N s.L tail 0 (Q0H s))])∧Q0a S0 w0 m a r rs (s.did (doA s.L ⟨5,tail,0,Q0H s,0⟩)) w':=by
 obtain⟨o,hop⟩: ∃o,s.f.op=o:=⟨_,rfl⟩
 obtain⟨z0,z2,z4,z5,z6,z7⟩:=H.facts rfl hl rfl rfl
 obtain⟨y1,y2,y3⟩:=H.whose rfl rfl rfl
 have HN:=Lib.hid hn
 have HH:=Lib.hid H
 clear H hn
 go_enter Tryz.func144,Tryz.ntmps144
 go_wp2_with fail
 refine(Q9O HH.out).mono ?_
 rintro e w9⟨rfl,rfl⟩
 go_wp2_with fail
 refine(Q6m HH.out tail 0 (Q0H s) (by decide) (Q5h s)).mono ?_
 rintro e w1⟨rfl,H1⟩
 go_wp2_with fail
 refine bodyPost_ret (v:= .tuple #[.bool true, .bool (Q7N s.L tail 0 (Q0H s))]) (by simp[results,Tryz.results144,go_sem]) rfl ⟨rfl,?_⟩
 exact H1
theorem Y1i{S0:List Nat}{w0 w:World}{m a r:Nat}{rs:List Res}{s:Rn}(H:Q0a S0 w0 m a r rs s w)(tail:Int){l:Int}(hl:s.f.line=l)(h0: ¬wrap64 l=0)(h1: ¬wrap64 l=1):
 Calls Tryz.prog 144 #[.pointer (some ⟨r,0,none⟩), .int .i64 tail, .int .i64 0] w fun e w'=>e= .returned (.tuple #[.bool false, .bool false])∧Q0a S0 w0 m a r rs s w':=by
 obtain⟨z0,z2,z4,z5,z6,z7⟩:=H.facts rfl hl rfl rfl
 have HH:=Lib.hid H
 clear H
 go_enter Tryz.func144,Tryz.ntmps144
 go_wp2_with fail
 refine bodyPost_ret (v:= .tuple #[.bool false, .bool false]) (by simp[results,Tryz.results144,go_sem]) rfl ⟨rfl,?_⟩
 exact HH.out
def Q0n(tail cls:Int)(s:Rn):Bool×Rn:=
 if s.f.line=0 then(false,Q1S s)else if s.f.line=1 then(false,Q2b s)else if s.f.line=2 then Q1U tail cls s else if s.f.line=3 then(false,Q2a s)else if s.f.line=4 then Q1Y s else(false,s)
theorem X3X{S0:List Nat}{w0 w:World}{m a r:Nat}{rs:List Res}{s:Rn}(H:Q0a S0 w0 m a r rs s w)(tail cls:Int)(hn:I64 s.n)(ha:0≤s.f.a∧s.f.a<4294967296)(hc:s.notes.length≤900):
 Calls Tryz.prog 142 #[.pointer (some ⟨r,0,none⟩), .int .i64 tail, .int .i64 cls] w fun e w'=>e= .returned (.bool (Q0n tail cls s).1)∧Q0a S0 w0 m a r rs (Q0n tail cls s).2 w':=by
 unfold Q0n
 split
 ·exact mx_e0 H tail cls (by assumption) hn
 split
 ·exact mx_e1 H tail cls (by assumption) hn
 split
 ·exact mx_e2 H tail cls hc (by assumption) hn
 split
 ·exact mx_e3 H tail cls ha (by assumption) hn
 split
 ·exact mx_e4 H tail cls (by assumption) hn
 ·exact Y1l H tail cls rfl (by assumption) (by assumption) (by assumption) (by assumption) (by assumption)
def Q0L(tail:Int)(s:Rn):Bool×Bool×Rn:=
 if wrap64 s.f.line=0 then(false,false,Q1S s)else if wrap64 s.f.line=1 then(true,Q7N s.L tail 0 (Q0H s),s.did (doA s.L ⟨5,tail,0,Q0H s,0⟩))else(false,false,s)
theorem Y2u{S0:List Nat}{w0 w:World}{m a r:Nat}{rs:List Res}{s:Rn}(H:Q0a S0 w0 m a r rs s w)(tail:Int)(hn:I64 s.n):
 Calls Tryz.prog 144 #[.pointer (some ⟨r,0,none⟩), .int .i64 tail, .int .i64 0] w fun e w'=>e= .returned (.tuple #[.bool (Q0L tail s).1, .bool (Q0L tail s).2.1])∧Q0a S0 w0 m a r rs (Q0L tail s).2.2 w':=by
 unfold Q0L
 split
 ·exact mx_t0 H tail (by assumption) rfl hn
 split
 ·exact mx_t1 H tail (by assumption) rfl hn
 ·exact Y1i H tail rfl (by assumption) (by assumption)
attribute [local go_sem↓] Go.wp_at_zero Go.wp_at_succ
def Q1X(q:Int)(s:Rn):Rn:=
 let s1:=(s.did (doA s.L ⟨1,(cellP s.n 0 s.task),0,0,0⟩)).Q0h (doA s.L ⟨1,(cellP s.n 0 s.task),0,0,0⟩).1.old
 if(doA s.L ⟨1,(cellP s.n 0 s.task),0,0,0⟩).1.old=0 then s1.goto (q+1)else s1.goto (q+3)
theorem mx_g0{S0:List Nat}{w0 w:World}{m a r:Nat}{rs:List Res}{s:Rn}(tail q:Int){g nn c:Nat}{nl:List Int}(hnl:nl.length=nn)(hq:0≤q∧q≤100)(hc:s.notes.length+nl.length≤900)(H:Q0a S0 w0 m a r (.blk g (Q3S nl).toArray::rs) s w){l:Int}(hl:s.f.line=l)(hsub:wrap64 (l-q)=0)(hn:I64 s.n)(ha:0≤s.f.a∧s.f.a<4294967296):
 Calls Tryz.prog 143 #[.pointer (some ⟨r,0,none⟩), .int .i64 tail, .int .i64 q, .slice (some ⟨g,0,none⟩) nn c] w fun e w'=>e= .returned (.bool false)∧Q0a S0 w0 m a r (.blk g (Q3S nl).toArray::rs) (Q1X q s) w':=by
 obtain⟨o,hop⟩: ∃o,s.f.op=o:=⟨_,rfl⟩
 have hne:=H.Q5r
 obtain⟨z0,z2,z4,z5,z6,z7⟩:=H.facts hop hl rfl rfl
 have HA:=Lib.hid ha
 have HC:=Lib.hid hc
 have HQ:=Lib.hid hq
 have HNX:=Lib.hid (fun W=>mapNext s.n s.task W hn)
 have HLD:=Lib.hid (fun W rs (H:Q0a S0 w0 m a r rs s W)=>Q1r H (cellP s.n 0 s.task))
 have HH:=Lib.hid (H.box rfl #[.pointer (some ⟨r,4,none⟩)] 150)
 clear H ha hc hn
 unfold Q1X
 (try dsimp only)
 by_cases hz:(doA s.L ⟨1,(cellP s.n 0 s.task),0,0,0⟩).1.old=0
 ·simp only[if_pos hz]
  have hzb:((doA s.L ⟨1,(cellP s.n 0 s.task),0,0,0⟩).1.old !=0)=false:=by simpa using hz
  clear hz
  go_enter Tryz.func143,Tryz.ntmps143
  go_wp2_with fail
  have HW:=HH.out
  generalize w.heap.size=tb at HW⊢
  generalize w.alloc _=W at HW⊢
  obtain⟨z0,z2,z4,z5,z6,z7⟩:=HW.facts hop hl rfl rfl
  obtain⟨y1,y2,y3⟩:=HW.whose rfl rfl rfl
  obtain⟨u0,u1,u2⟩:=HW.first.own
  go_region_held3 (fun w'=>w'.cell? ⟨r,1,none⟩=some (.int .i64 s.n)∧w'.cell? ⟨r,3,none⟩=some (.int .i64 s.task)∧w'.cell? ⟨r,6,none⟩=some (.int .u32 s.f.a)∧w'.cell? ⟨tb,0,none⟩=some (.pointer (some ⟨r,4,none⟩)))
   (first|(refine Q0a.Q4j (S0:=S0) (w0:=w0) (m:=m) (a:=a) (rs:= .blk g (Q3S nl).toArray::rs) (s:=s) ?_;first|with_reducible assumption|with_reducible exact HW.drew))
   (first|(go_at_call 171;refine(HNX.out _).mono ?_;rintro e w1 ⟨rfl,t1⟩;have H1:=Q0a.grow HW.drew t1))
  clear u0 u1 u2 z0 z2 z4 z5 z6 z7 y1 y2 y3
  obtain⟨x0,x2,x4,x5,x6,x7⟩:=H1.facts hop hl rfl rfl
  obtain⟨v1,v2,v3⟩:=H1.whose rfl rfl rfl
  obtain⟨u0,u1,u2⟩:=H1.first.own
  go_wp2_with fail
  have hne2:=H1.Q5r
  go_region_held3 (fun w'=> ∀i,w'.cell? ⟨tb,i,none⟩=(#[.pointer (some ⟨r,4,none⟩)]:Array Value)[i]?)
   (first|assumption|(intro i;rw[World.cell?_setCell_far _ _ _ _ (by exact hne2)];apply_assumption)|(intro i;apply_assumption))
   (first|(go_at_call 96;(with_reducible refine(HLD.out _ _ H1.drew).mono ?_);rintro e w2 ⟨rfl,H2⟩;obtain⟨v0,v1,v2⟩:=H2.first.own;obtain⟨x0,x2,x4,x5,x6,x7⟩:=H2.facts hop hl rfl rfl))
  have H3:=H2.Q0h (doA s.L ⟨1,(cellP s.n 0 s.task),0,0,0⟩).1.old
  go_wp2_with fail
  refine(Q1j H3 (q+1)).mono ?_
  rintro e w4⟨rfl,H4⟩
  go_wp2_with fail
  go_ret
  exact⟨rfl,H4.Q0N⟩
 ·simp only[if_neg hz]
  have hzb:((doA s.L ⟨1,(cellP s.n 0 s.task),0,0,0⟩).1.old !=0)=true:=by simpa using hz
  clear hz
  go_enter Tryz.func143,Tryz.ntmps143
  go_wp2_with fail
  have HW:=HH.out
  generalize w.heap.size=tb at HW⊢
  generalize w.alloc _=W at HW⊢
  obtain⟨z0,z2,z4,z5,z6,z7⟩:=HW.facts hop hl rfl rfl
  obtain⟨y1,y2,y3⟩:=HW.whose rfl rfl rfl
  obtain⟨u0,u1,u2⟩:=HW.first.own
  go_region_held3 (fun w'=>w'.cell? ⟨r,1,none⟩=some (.int .i64 s.n)∧w'.cell? ⟨r,3,none⟩=some (.int .i64 s.task)∧w'.cell? ⟨r,6,none⟩=some (.int .u32 s.f.a)∧w'.cell? ⟨tb,0,none⟩=some (.pointer (some ⟨r,4,none⟩)))
   (first|(refine Q0a.Q4j (S0:=S0) (w0:=w0) (m:=m) (a:=a) (rs:= .blk g (Q3S nl).toArray::rs) (s:=s) ?_;first|with_reducible assumption|with_reducible exact HW.drew))
   (first|(go_at_call 171;refine(HNX.out _).mono ?_;rintro e w1 ⟨rfl,t1⟩;have H1:=Q0a.grow HW.drew t1))
  clear u0 u1 u2 z0 z2 z4 z5 z6 z7 y1 y2 y3
  obtain⟨x0,x2,x4,x5,x6,x7⟩:=H1.facts hop hl rfl rfl
  obtain⟨v1,v2,v3⟩:=H1.whose rfl rfl rfl
  obtain⟨u0,u1,u2⟩:=H1.first.own
  go_wp2_with fail
  have hne2:=H1.Q5r
  go_region_held3 (fun w'=> ∀i,w'.cell? ⟨tb,i,none⟩=(#[.pointer (some ⟨r,4,none⟩)]:Array Value)[i]?)
   (first|assumption|(intro i;rw[World.cell?_setCell_far _ _ _ _ (by exact hne2)];apply_assumption)|(intro i;apply_assumption))
   (first|(go_at_call 96;(with_reducible refine(HLD.out _ _ H1.drew).mono ?_);rintro e w2 ⟨rfl,H2⟩;obtain⟨v0,v1,v2⟩:=H2.first.own;obtain⟨x0,x2,x4,x5,x6,x7⟩:=H2.facts hop hl rfl rfl))
  have H3:=H2.Q0h (doA s.L ⟨1,(cellP s.n 0 s.task),0,0,0⟩).1.old
  go_wp2_with fail
  refine(Q1j H3 (q+3)).mono ?_
  rintro e w4⟨rfl,H4⟩
  go_wp2_with fail
  go_ret
  exact⟨rfl,H4.Q0N⟩
def Q1T(tail q:Int)(nl:List Int)(s:Rn):Bool×Rn:=
 if Q7N s.L tail (Q0H s) 0 then(true,(s.did (doA s.L ⟨5,tail,Q0H s,0,0⟩)).Q0d nl)else(false,(s.did (doA s.L ⟨5,tail,Q0H s,0,0⟩)).goto (q+2))
theorem mx_g1{S0:List Nat}{w0 w:World}{m a r:Nat}{rs:List Res}{s:Rn}(tail q:Int){g nn c:Nat}{nl:List Int}(hnl:nl.length=nn)(hq:0≤q∧q≤100)(hc:s.notes.length+nl.length≤900)(H:Q0a S0 w0 m a r (.blk g (Q3S nl).toArray::rs) s w){l:Int}(hl:s.f.line=l)(hsub:wrap64 (l-q)=1)(hn:I64 s.n)(ha:0≤s.f.a∧s.f.a<4294967296):
 Calls Tryz.prog 143 #[.pointer (some ⟨r,0,none⟩), .int .i64 tail, .int .i64 q, .slice (some ⟨g,0,none⟩) nn c] w fun e w'=>e= .returned (.bool (Q1T tail q nl s).1)∧Q0a S0 w0 m a r (.blk g (Q3S nl).toArray::rs) (Q1T tail q nl s).2 w':=by
 obtain⟨o,hop⟩: ∃o,s.f.op=o:=⟨_,rfl⟩
 have hne:=H.Q5r
 obtain⟨z0,z2,z4,z5,z6,z7⟩:=H.facts hop hl rfl rfl
 have HA:=Lib.hid ha
 have HC:=Lib.hid hc
 have HQ:=Lib.hid hq
 have HNX:=Lib.hid (fun W=>mapNext s.n s.task W hn)
 have hcas:=fun W rs (H:Q0a S0 w0 m a r rs s W)=>Q6m H tail (Q0H s) 0 (Q5h s) (by decide)
 have HH:=Lib.hid (H.box rfl #[.pointer (some ⟨r,4,none⟩)] 150)
 clear H ha hc hn
 unfold Q1T
 cases hb:Q7N s.L tail (Q0H s) 0 with
 |true=>
  rw[hb]at hcas
  simp only[if_true]
  have HCAS:=Lib.hid hcas
  clear hcas hb
  go_enter Tryz.func143,Tryz.ntmps143
  go_wp2_with fail
  have HW:=HH.out
  generalize w.heap.size=tb at HW⊢
  generalize w.alloc _=W at HW⊢
  obtain⟨z0,z2,z4,z5,z6,z7⟩:=HW.facts hop hl rfl rfl
  obtain⟨y1,y2,y3⟩:=HW.whose rfl rfl rfl
  obtain⟨u0,u1,u2⟩:=HW.first.own
  go_region_held3 (fun w'=>w'.cell? ⟨r,1,none⟩=some (.int .i64 s.n)∧w'.cell? ⟨r,3,none⟩=some (.int .i64 s.task)∧w'.cell? ⟨r,6,none⟩=some (.int .u32 s.f.a)∧w'.cell? ⟨tb,0,none⟩=some (.pointer (some ⟨r,4,none⟩)))
   (first|(refine Q0a.Q4j (S0:=S0) (w0:=w0) (m:=m) (a:=a) (rs:= .blk g (Q3S nl).toArray::rs) (s:=s) ?_;first|with_reducible assumption|with_reducible exact HW.drew))
   (first|(go_at_call 171;refine(HNX.out _).mono ?_;rintro e w1 ⟨rfl,t1⟩;have H1:=Q0a.grow HW.drew t1))
  clear u0 u1 u2 z0 z2 z4 z5 z6 z7 y1 y2 y3
  obtain⟨x0,x2,x4,x5,x6,x7⟩:=H1.facts hop hl rfl rfl
  obtain⟨v1,v2,v3⟩:=H1.whose rfl rfl rfl
  obtain⟨u0,u1,u2⟩:=H1.first.own
  go_wp2_with fail
  refine(Q9O H1).mono ?_
  rintro e w9⟨rfl,rfl⟩
  go_wp2_with fail
  refine(HCAS.out _ _ H1).mono ?_
  rintro e w2⟨rfl,H2⟩
  go_wp2_with fail
  refine(X3W H2.X3r hnl (by have:=HC.out;simp[Rn.did];omega)).mono ?_
  rintro e w3⟨rfl,H3⟩
  go_wp2_with fail
  go_ret
  exact⟨rfl,H3.X3r.Q0N⟩
 |false=>
  rw[hb]at hcas
  simp only[Bool.false_eq_true,if_false]
  have HCAS:=Lib.hid hcas
  clear hcas hb
  go_enter Tryz.func143,Tryz.ntmps143
  go_wp2_with fail
  have HW:=HH.out
  generalize w.heap.size=tb at HW⊢
  generalize w.alloc _=W at HW⊢
  obtain⟨z0,z2,z4,z5,z6,z7⟩:=HW.facts hop hl rfl rfl
  obtain⟨y1,y2,y3⟩:=HW.whose rfl rfl rfl
  obtain⟨u0,u1,u2⟩:=HW.first.own
  go_region_held3 (fun w'=>w'.cell? ⟨r,1,none⟩=some (.int .i64 s.n)∧w'.cell? ⟨r,3,none⟩=some (.int .i64 s.task)∧w'.cell? ⟨r,6,none⟩=some (.int .u32 s.f.a)∧w'.cell? ⟨tb,0,none⟩=some (.pointer (some ⟨r,4,none⟩)))
   (first|(refine Q0a.Q4j (S0:=S0) (w0:=w0) (m:=m) (a:=a) (rs:= .blk g (Q3S nl).toArray::rs) (s:=s) ?_;first|with_reducible assumption|with_reducible exact HW.drew))
   (first|(go_at_call 171;refine(HNX.out _).mono ?_;rintro e w1 ⟨rfl,t1⟩;have H1:=Q0a.grow HW.drew t1))
  clear u0 u1 u2 z0 z2 z4 z5 z6 z7 y1 y2 y3
  obtain⟨x0,x2,x4,x5,x6,x7⟩:=H1.facts hop hl rfl rfl
  obtain⟨v1,v2,v3⟩:=H1.whose rfl rfl rfl
  obtain⟨u0,u1,u2⟩:=H1.first.own
  go_wp2_with fail
  refine(Q9O H1).mono ?_
  rintro e w9⟨rfl,rfl⟩
  go_wp2_with fail
  refine(HCAS.out _ _ H1).mono ?_
  rintro e w2⟨rfl,H2⟩
  go_wp2_with fail
  refine(Q1j H2 (q+2)).mono ?_
  rintro e w3⟨rfl,H3⟩
  go_wp2_with fail
  go_ret
  exact⟨rfl,H3.Q0N⟩
def Q1W(q:Int)(s:Rn):Rn:=
 let s1:=(s.keep (Q0t s.L s.n s.mode s.task s.f.st (cellP s.n 0 s.task) (fun v=>v !=0))).waited (Q0t s.L s.n s.mode s.task s.f.st (cellP s.n 0 s.task) (fun v=>v !=0))
 if(Q0t s.L s.n s.mode s.task s.f.st (cellP s.n 0 s.task) (fun v=>v !=0)).done then s1.goto (q+3)else s1
theorem mx_g2{S0:List Nat}{w0 w:World}{m a r:Nat}{rs:List Res}{s:Rn}(tail q:Int){g nn c:Nat}{nl:List Int}(hnl:nl.length=nn)(hq:0≤q∧q≤100)(hc:s.notes.length+nl.length≤900)(H:Q0a S0 w0 m a r (.blk g (Q3S nl).toArray::rs) s w){l:Int}(hl:s.f.line=l)(hsub:wrap64 (l-q)=2)(hn:I64 s.n)(ha:0≤s.f.a∧s.f.a<4294967296):
 Calls Tryz.prog 143 #[.pointer (some ⟨r,0,none⟩), .int .i64 tail, .int .i64 q, .slice (some ⟨g,0,none⟩) nn c] w fun e w'=>e= .returned (.bool false)∧Q0a S0 w0 m a r (.blk g (Q3S nl).toArray::rs) (Q1W q s) w':=by
 obtain⟨o,hop⟩: ∃o,s.f.op=o:=⟨_,rfl⟩
 have hne:=H.Q5r
 obtain⟨z0,z2,z4,z5,z6,z7⟩:=H.facts hop hl rfl rfl
 have HA:=Lib.hid ha
 have HC:=Lib.hid hc
 have HQ:=Lib.hid hq
 have HNX:=Lib.hid (fun W=>mapNext s.n s.task W hn)
 have hwt:=fun(tb:Nat) W (H:Q0a S0 w0 m a r (.blk tb #[.pointer (some ⟨r,4,none⟩)]:: .blk g (Q3S nl).toArray::rs) s W)=>Q7H H hn (cellP s.n 0 s.task) 178 #[] #[.pointer (some ⟨tb,0,none⟩)] (fun v=>v !=0) (enters_of Tryz.func178 (by kernel_rfl) rfl) (fun W nv v h0 h1 HX=>Y1j v W ⟨h0,h1⟩ HX.Q7A (HX.at_ 3 rfl))
 have HH:=Lib.hid (H.box rfl #[.pointer (some ⟨r,4,none⟩)] 150)
 clear H ha hc hn
 unfold Q1W
 (try dsimp only)
 generalize (Q0t s.L s.n s.mode s.task s.f.st (cellP s.n 0 s.task) (fun v=>v !=0)).seen=sn at hwt
 cases hd:(Q0t s.L s.n s.mode s.task s.f.st (cellP s.n 0 s.task) (fun v=>v !=0)).done<;>rw[hd]at hwt<;>simp only[if_true,Bool.false_eq_true,if_false]<;>(have HWT:=Lib.hid hwt)<;>clear hwt hd
 ·go_enter Tryz.func143,Tryz.ntmps143
  go_wp2_with fail
  have HW:=HH.out
  generalize w.heap.size=tb at HW⊢
  generalize w.alloc _=W at HW⊢
  obtain⟨z0,z2,z4,z5,z6,z7⟩:=HW.facts hop hl rfl rfl
  obtain⟨y1,y2,y3⟩:=HW.whose rfl rfl rfl
  obtain⟨u0,u1,u2⟩:=HW.first.own
  go_region_held3 (fun w'=>w'.cell? ⟨r,1,none⟩=some (.int .i64 s.n)∧w'.cell? ⟨r,3,none⟩=some (.int .i64 s.task)∧w'.cell? ⟨r,6,none⟩=some (.int .u32 s.f.a)∧w'.cell? ⟨tb,0,none⟩=some (.pointer (some ⟨r,4,none⟩)))
   (first|(refine Q0a.Q4j (S0:=S0) (w0:=w0) (m:=m) (a:=a) (rs:= .blk g (Q3S nl).toArray::rs) (s:=s) ?_;first|with_reducible assumption|with_reducible exact HW.drew))
   (first|(go_at_call 171;refine(HNX.out _).mono ?_;rintro e w1 ⟨rfl,t1⟩;have H1:=Q0a.grow HW.drew t1))
  clear u0 u1 u2 z0 z2 z4 z5 z6 z7 y1 y2 y3
  obtain⟨x0,x2,x4,x5,x6,x7⟩:=H1.facts hop hl rfl rfl
  obtain⟨v1,v2,v3⟩:=H1.whose rfl rfl rfl
  obtain⟨u0,u1,u2⟩:=H1.first.own
  go_wp2_with fail
  refine(HWT.out _ _ H1).mono ?_
  rintro e w2⟨rfl,H2⟩
  go_wp2_with fail
  go_ret
  exact⟨rfl,H2.Q0N⟩
 ·go_enter Tryz.func143,Tryz.ntmps143
  go_wp2_with fail
  have HW:=HH.out
  generalize w.heap.size=tb at HW⊢
  generalize w.alloc _=W at HW⊢
  obtain⟨z0,z2,z4,z5,z6,z7⟩:=HW.facts hop hl rfl rfl
  obtain⟨y1,y2,y3⟩:=HW.whose rfl rfl rfl
  obtain⟨u0,u1,u2⟩:=HW.first.own
  go_region_held3 (fun w'=>w'.cell? ⟨r,1,none⟩=some (.int .i64 s.n)∧w'.cell? ⟨r,3,none⟩=some (.int .i64 s.task)∧w'.cell? ⟨r,6,none⟩=some (.int .u32 s.f.a)∧w'.cell? ⟨tb,0,none⟩=some (.pointer (some ⟨r,4,none⟩)))
   (first|(refine Q0a.Q4j (S0:=S0) (w0:=w0) (m:=m) (a:=a) (rs:= .blk g (Q3S nl).toArray::rs) (s:=s) ?_;first|with_reducible assumption|with_reducible exact HW.drew))
   (first|(go_at_call 171;refine(HNX.out _).mono ?_;rintro e w1 ⟨rfl,t1⟩;have H1:=Q0a.grow HW.drew t1))
  clear u0 u1 u2 z0 z2 z4 z5 z6 z7 y1 y2 y3
  obtain⟨x0,x2,x4,x5,x6,x7⟩:=H1.facts hop hl rfl rfl
  obtain⟨v1,v2,v3⟩:=H1.whose rfl rfl rfl
  obtain⟨u0,u1,u2⟩:=H1.first.own
  go_wp2_with fail
  refine(HWT.out _ _ H1).mono ?_
  rintro e w2⟨rfl,H2⟩
  go_wp2_with fail
  refine(Q1j H2 (q+3)).mono ?_
  rintro e w3⟨rfl,H3⟩
  go_wp2_with fail
  go_ret
  exact⟨rfl,H3.Q0N⟩
def Q1Z(nl:List Int)(s:Rn):Rn:=((s.did (doA s.L ⟨2,(cellP s.n 1 (s.f.a-1)),0,0,0⟩)).Q0d nl).wake (cellP s.n 1 (s.f.a-1))
theorem mx_g3{S0:List Nat}{w0 w:World}{m a r:Nat}{rs:List Res}{s:Rn}(tail q:Int){g nn c:Nat}{nl:List Int}(hnl:nl.length=nn)(hq:0≤q∧q≤100)(hc:s.notes.length+nl.length≤900)(H:Q0a S0 w0 m a r (.blk g (Q3S nl).toArray::rs) s w){l:Int}(hl:s.f.line=l)(hsub:wrap64 (l-q)=3)(hn:I64 s.n)(ha:0≤s.f.a∧s.f.a<4294967296):
 Calls Tryz.prog 143 #[.pointer (some ⟨r,0,none⟩), .int .i64 tail, .int .i64 q, .slice (some ⟨g,0,none⟩) nn c] w fun e w'=>e= .returned (.bool true)∧Q0a S0 w0 m a r (.blk g (Q3S nl).toArray::rs) (Q1Z nl s) w':=by
 obtain⟨o,hop⟩: ∃o,s.f.op=o:=⟨_,rfl⟩
 have hne:=H.Q5r
 obtain⟨z0,z2,z4,z5,z6,z7⟩:=H.facts hop hl rfl rfl
 have HA:=Lib.hid ha
 have HC:=Lib.hid hc
 have HQ:=Lib.hid hq
 have HNX:=Lib.hid (fun W=>mapNext s.n s.task W hn)
 have HBL:=Lib.hid (fun W=>Q7u s.n (s.f.a-1) W hn)
 have HH:=Lib.hid (H.box rfl #[.pointer (some ⟨r,4,none⟩)] 150)
 clear H ha hc hn
 unfold Q1Z
 go_enter Tryz.func143,Tryz.ntmps143
 go_wp2_with fail
 have HW:=HH.out
 generalize w.heap.size=tb at HW⊢
 generalize w.alloc _=W at HW⊢
 obtain⟨z0,z2,z4,z5,z6,z7⟩:=HW.facts hop hl rfl rfl
 obtain⟨y1,y2,y3⟩:=HW.whose rfl rfl rfl
 obtain⟨u0,u1,u2⟩:=HW.first.own
 go_region_held3 (fun w'=>w'.cell? ⟨r,1,none⟩=some (.int .i64 s.n)∧w'.cell? ⟨r,3,none⟩=some (.int .i64 s.task)∧w'.cell? ⟨r,6,none⟩=some (.int .u32 s.f.a)∧w'.cell? ⟨tb,0,none⟩=some (.pointer (some ⟨r,4,none⟩)))
  (first|(refine Q0a.Q4j (S0:=S0) (w0:=w0) (m:=m) (a:=a) (rs:= .blk g (Q3S nl).toArray::rs) (s:=s) ?_;first|with_reducible assumption|with_reducible exact HW.drew|with_reducible exact H1.drew))
  (first|(go_at_call 171;refine(HNX.out _).mono ?_;rintro e w1 ⟨rfl,t1⟩;have H1:=Q0a.grow HW.drew t1))
 clear u0 u1 u2 z0 z2 z4 z5 z6 z7 y1 y2 y3
 obtain⟨x0,x2,x4,x5,x6,x7⟩:=H1.facts hop hl rfl rfl
 obtain⟨v1,v2,v3⟩:=H1.whose rfl rfl rfl
 obtain⟨u0,u1,u2⟩:=H1.first.own
 go_wp2_with fail
 go_region_held3 (fun w'=>w'.cell? ⟨r,1,none⟩=some (.int .i64 s.n)∧w'.cell? ⟨r,3,none⟩=some (.int .i64 s.task)∧w'.cell? ⟨r,6,none⟩=some (.int .u32 s.f.a)∧w'.cell? ⟨tb,0,none⟩=some (.pointer (some ⟨r,4,none⟩)))
  (first|(refine Q0a.Q4j (S0:=S0) (w0:=w0) (m:=m) (a:=a) (rs:= .blk g (Q3S nl).toArray::rs) (s:=s) ?_;first|with_reducible assumption|with_reducible exact HW.drew|with_reducible exact H1.drew))
  (first|(go_at_call 175;refine(X3V _ _ HA.out).mono ?_;rintro e w9 ⟨rfl,rfl⟩)|(go_at_call 172;refine(HBL.out _).mono ?_;rintro e w2 ⟨rfl,t2⟩;have H2:=Q0a.grow H1.drew t2))
 obtain⟨p0,p2,p4,p5,p6,p7⟩:=H2.facts hop hl rfl rfl
 go_wp2_with fail
 refine(Q4l H2 (cellP s.n 1 (s.f.a-1)) 0 (by decide)).mono ?_
 rintro e w3⟨rfl,H3⟩
 go_wp2_with fail
 refine(X3W H3.X3r hnl (by have:=HC.out;simp[Rn.did];omega)).mono ?_
 rintro e w4⟨rfl,H4⟩
 go_wp2_with fail
 refine(Q3l H4.X3r (cellP s.n 1 (s.f.a-1))).mono ?_
 rintro e w5⟨rfl,H5⟩
 go_wp2_with fail
 go_ret
 exact⟨rfl,H5.Q0N⟩
theorem Y1k{S0:List Nat}{w0 w:World}{m a r:Nat}{rs:List Res}{s:Rn}(tail q:Int){g nn c:Nat}{nl:List Int}(hnl:nl.length=nn)(hq:0≤q∧q≤100)(hc:s.notes.length+nl.length≤900)(H:Q0a S0 w0 m a r (.blk g (Q3S nl).toArray::rs) s w){l:Int}(hl:s.f.line=l)(k0: ¬wrap64 (l-q)=0)(k1: ¬wrap64 (l-q)=1)(k2: ¬wrap64 (l-q)=2)(k3: ¬wrap64 (l-q)=3)(hn:I64 s.n)(ha:0≤s.f.a∧s.f.a<4294967296):
 Calls Tryz.prog 143 #[.pointer (some ⟨r,0,none⟩), .int .i64 tail, .int .i64 q, .slice (some ⟨g,0,none⟩) nn c] w fun e w'=>e= .returned (.bool false)∧Q0a S0 w0 m a r (.blk g (Q3S nl).toArray::rs) s w':=by
 obtain⟨o,hop⟩: ∃o,s.f.op=o:=⟨_,rfl⟩
 have hne:=H.Q5r
 obtain⟨z0,z2,z4,z5,z6,z7⟩:=H.facts hop hl rfl rfl
 have HA:=Lib.hid ha
 have HC:=Lib.hid hc
 have HQ:=Lib.hid hq
 have HNX:=Lib.hid (fun W=>mapNext s.n s.task W hn)
 have HH:=Lib.hid (H.box rfl #[.pointer (some ⟨r,4,none⟩)] 150)
 clear H ha hc hn
 go_enter Tryz.func143,Tryz.ntmps143
 go_wp2_with fail
 have HW:=HH.out
 generalize w.heap.size=tb at HW⊢
 generalize w.alloc _=W at HW⊢
 obtain⟨z0,z2,z4,z5,z6,z7⟩:=HW.facts hop hl rfl rfl
 obtain⟨y1,y2,y3⟩:=HW.whose rfl rfl rfl
 obtain⟨u0,u1,u2⟩:=HW.first.own
 go_region_held3 (fun w'=>w'.cell? ⟨r,1,none⟩=some (.int .i64 s.n)∧w'.cell? ⟨r,3,none⟩=some (.int .i64 s.task)∧w'.cell? ⟨r,6,none⟩=some (.int .u32 s.f.a)∧w'.cell? ⟨tb,0,none⟩=some (.pointer (some ⟨r,4,none⟩)))
  (first|(refine Q0a.Q4j (S0:=S0) (w0:=w0) (m:=m) (a:=a) (rs:= .blk g (Q3S nl).toArray::rs) (s:=s) ?_;first|with_reducible assumption|with_reducible exact HW.drew))
  (first|(go_at_call 171;refine(HNX.out _).mono ?_;rintro e w1 ⟨rfl,t1⟩;have H1:=Q0a.grow HW.drew t1))
 clear u0 u1 u2 z0 z2 z4 z5 z6 z7 y1 y2 y3
 obtain⟨x0,x2,x4,x5,x6,x7⟩:=H1.facts hop hl rfl rfl
 obtain⟨v1,v2,v3⟩:=H1.whose rfl rfl rfl
 obtain⟨u0,u1,u2⟩:=H1.first.own
 go_wp2_with fail
 go_ret
 exact⟨rfl,H1.Q0N⟩
def Q0v(tail q:Int)(nl:List Int)(s:Rn):Bool×Rn:=
 if wrap64 (s.f.line-q)=0 then(false,Q1X q s)else if wrap64 (s.f.line-q)=1 then Q1T tail q nl s else if wrap64 (s.f.line-q)=2 then(false,Q1W q s)else if wrap64 (s.f.line-q)=3 then(true,Q1Z nl s)else(false,s)
theorem X2z{S0:List Nat}{w0 w:World}{m a r:Nat}{rs:List Res}{s:Rn}(tail q:Int){g nn c:Nat}{nl:List Int}(hnl:nl.length=nn)(hq:0≤q∧q≤100)(hc:s.notes.length+nl.length≤900)(H:Q0a S0 w0 m a r (.blk g (Q3S nl).toArray::rs) s w)(hn:I64 s.n)(ha:0≤s.f.a∧s.f.a<4294967296):
 Calls Tryz.prog 143 #[.pointer (some ⟨r,0,none⟩), .int .i64 tail, .int .i64 q, .slice (some ⟨g,0,none⟩) nn c] w fun e w'=>e= .returned (.bool (Q0v tail q nl s).1)∧Q0a S0 w0 m a r (.blk g (Q3S nl).toArray::rs) (Q0v tail q nl s).2 w':=by
 unfold Q0v
 split
 ·exact mx_g0 tail q hnl hq hc H rfl (by assumption) hn ha
 split
 ·exact mx_g1 tail q hnl hq hc H rfl (by assumption) hn ha
 split
 ·exact mx_g2 tail q hnl hq hc H rfl (by assumption) hn ha
 split
 ·exact mx_g3 tail q hnl hq hc H rfl (by assumption) hn ha
 ·exact Y1k tail q hnl hq hc H rfl (by assumption) (by assumption) (by assumption) (by assumption) hn ha
section
theorem X8M{s:Rn}(hw:Words s.L){n mode task st c:Int}{p:Int→Bool}(h2:0≤s.f.a∧s.f.a<4294967296):0≤(s.keep (Q0t s.L n mode task st c p)).f.a∧(s.keep (Q0t s.L n mode task st c p)).f.a<4294967296:=by
 unfold Rn.keep
 split
 ·rcases Q4Z mode st with e|e|e|e|e
  ·rw[Q8h e];exact Q0s s.L hw _
  ·rw[Q9v e];exact Q0s s.L hw _
  ·rw[Q9u e];exact Q0s s.L hw _
  ·rename_i h;rw[Q9t e]at h;cases h
  ·rw[Q9s e];exact Q0s s.L hw _
 ·exact h2
theorem keep_rest(s:Rn)(R:Q5C):(s.keep R).n=s.n∧(s.keep R).f.b=s.f.b∧(s.keep R).notes=s.notes:=by
 unfold Rn.keep
 split<;>exact⟨rfl,rfl,rfl⟩
def FK(k:Nat)(s s':Rn):Prop:=(s'.n=s.n∧s'.mode=s.mode∧s'.task=s.task)∧((0≤s'.f.a∧s'.f.a<4294967296)∧(0≤s'.f.b∧s'.f.b<4294967296))∧s'.notes.length≤s.notes.length+k
section
variable {k:Nat}{s s':Rn}
theorem FK.refl(h:(0≤s.f.a∧s.f.a<4294967296)∧(0≤s.f.b∧s.f.b<4294967296)):FK 0 s s:=⟨⟨rfl,rfl,rfl⟩,h,Nat.le_refl _⟩
theorem FK.goto(h:FK k s s')(l:Int):FK k s (s'.goto l):=h
theorem FK.fin(h:FK k s s')(b:Bool):FK k s (s'.fin b):=h
theorem FK.wake(h:FK k s s')(c:Int):FK k s (s'.wake c):=h
theorem FK.did(h:FK k s s')(R:Acc×Bool×List Int):FK k s (s'.did R):=h
theorem FK.waited(h:FK k s s')(R:Q5C):FK k s (s'.waited R):=h
theorem FK.Q0h(h:FK k s s'){v:Int}(hv:0≤v∧v<4294967296):FK k s (s'.Q0h v):=⟨h.1,⟨hv,h.2.1.2⟩,h.2.2⟩
theorem FK.setB(h:FK k s s'){v:Int}(hv:0≤v∧v<4294967296):FK k s (s'.setB v):=⟨h.1,⟨h.2.1.1,hv⟩,h.2.2⟩
theorem FK.note(h:FK k s s')(x y:Int):FK (k+1) s (s'.note x y):=⟨h.1,h.2.1,by have:=h.2.2;simp[Rn.note];omega⟩
theorem FK.more(h:FK k s s'){j:Nat}(hj:k≤j):FK j s s':=⟨h.1,h.2.1,Nat.le_trans h.2.2 (Nat.add_le_add_left hj _)⟩
theorem FK.Q0d(h:FK k s s')(l:List Int):FK (k+l.length) s (s'.Q0d l):=by
 induction l generalizing s' k with
 |nil=>exact h
 |cons x l ih=>exact(ih (h.note x 0)).more (by simp;omega)
theorem FK.keep(h:FK k s s')(hw:Words s'.L)(n mode task st c:Int)(p:Int→Bool):FK k s (s'.keep (Q0t s'.L n mode task st c p)):=by
 have h1:=X8M (s:=s') hw (n:=n) (mode:=mode) (task:=task) (st:=st) (c:=c) (p:=p) h.2.1.1
 have h2:=keep_rest s' (Q0t s'.L n mode task st c p)
 unfold Rn.keep at h1 h2⊢
 split
 ·rename_i hs
  rw[if_pos hs]at h1
  exact h.Q0h h1
 ·exact h
end
variable {s:Rn}
theorem Q9P(tail cls:Int)(hw:Words s.L)(h:(0≤s.f.a∧s.f.a<4294967296)∧(0≤s.f.b∧s.f.b<4294967296)):FK 1 s (Q0n tail cls s).2:=by
 have R:=FK.refl h
 have hold:=fun b=>Q0s s.L hw b
 unfold Q0n
 split
 ·exact((R.did _).goto _).more (by decide)
 split
 ·exact((R.did _).goto _).more (by decide)
 split
 ·unfold Q1U
  dsimp only
  split
  ·exact((R.did _).Q0h (hold _)).note _ _
  ·exact(((R.did _).Q0h (hold _)).note _ _).goto _
 split
 ·exact(((R.did _).wake _).goto _).more (by decide)
 split
 ·exact(R.waited _).more (by decide)
 ·exact R.more (by decide)
theorem X3Y(tail:Int)(h:(0≤s.f.a∧s.f.a<4294967296)∧(0≤s.f.b∧s.f.b<4294967296)):FK 0 s (Q0L tail s).2.2:=by
 have R:=FK.refl h
 unfold Q0L
 split
 ·exact(R.did _).goto _
 split
 ·exact R.did _
 ·exact R
theorem X1G(tail q:Int)(nl:List Int)(hw:Words s.L)(h:(0≤s.f.a∧s.f.a<4294967296)∧(0≤s.f.b∧s.f.b<4294967296)):FK nl.length s (Q0v tail q nl s).2:=by
 have R:=FK.refl h
 have hold:=fun b=>Q0s s.L hw b
 unfold Q0v
 split
 ·unfold Q1X
  dsimp only
  split
  ·exact(((R.did _).Q0h (hold _)).goto _).more (Nat.zero_le _)
  ·exact(((R.did _).Q0h (hold _)).goto _).more (Nat.zero_le _)
 split
 ·unfold Q1T
  split
  ·exact((R.did _).Q0d nl).more (by omega)
  ·exact((R.did _).goto _).more (Nat.zero_le _)
 split
 ·unfold Q1W
  dsimp only
  split
  ·exact(((R.keep hw _ _ _ _ _ _).waited _).goto _).more (Nat.zero_le _)
  ·exact((R.keep hw _ _ _ _ _ _).waited _).more (Nat.zero_le _)
 split
 ·exact(((R.did _).Q0d nl).wake _).more (by omega)
 ·exact R.more (Nat.zero_le _)
end
end Go.Proofs.YthnimpkoidablaaGreat.Z
