import Derived.Test.YthnimpkoidablaaGreatZA13
import Derived.Test.YthnimpkoidablaaGreatZA07
import Derived.Test.YthnimpkoidablaaGreatZA14
set_option linter.unusedVariables false
set_option linter.unusedSimpArgs false
set_option maxHeartbeats 3200000
namespace Go.Proofs.YthnimpkoidablaaGreat.Z
open Go.RowKit
attribute [local go_sem↓] Go.wp_at_zero Go.wp_at_succ
def pfP(b:Int):Int:=2+b%2
theorem and_1(v:Int)(hv:0≤v∧v<4294967296):Go.bits .and .u32 v 1=v%2:=by
 obtain⟨n,rfl⟩: ∃n:Nat,v=n:=⟨v.toNat,by omega⟩
 have h:=ZB.Q3z n 1 (by omega) (by decide)
 have h2:n &&&1=n/1%2*1:=ZB.Q3A n 0 1
 rw[h2]at h
 refine Eq.trans h ?_
 omega
theorem X5R(v:Int)(hv:0≤v∧v<4294967296):Go.bits .and .u32 v 3=v%4:=by
 obtain⟨n,rfl⟩: ∃n:Nat,v=n:=⟨v.toNat,by omega⟩
 have h:=ZB.Q3z n 3 (by omega) (by decide)
 have h2:n &&&3=n/1%4*1:=ZB.Q3A n 0 2
 rw[h2]at h
 refine Eq.trans h ?_
 omega
theorem or_2(x:Int)(hx:x=0∨x=1):Go.bits .or .u32 2 x=2+x:=by
 rcases hx with rfl|rfl<;>decide+kernel
theorem Q1g(b:Int)(w:World)(hb:0≤b∧b<4294967296):Calls Tryz.prog 94 #[.int .u32 b] w fun e w'=>e= .returned (.int .u32 (pfP b))∧w=w':=by
 have h1:=and_1 b hb
 have h2:=or_2 (b%2) (by omega)
 have H1:=Lib.hid h1
 have H2:=Lib.hid h2
 clear h1 h2
 go_enter Tryz.func94,Tryz.ntmps94
 go_wp2
 go_ret
 refine⟨?_,rfl⟩
 show Ending.returned (Value.int .u32 _)=Ending.returned (Value.int .u32 _)
 unfold pfP
 rw[H1.out,H2.out]
theorem X8f(x v:Int){b:Nat}(w:World)(hb:Blk w b #[.int .u32 x]):
 Calls Tryz.prog 95 #[.int .u32 v, .pointer (some ⟨b,0,none⟩)] w fun e w'=>e= .returned (.bool (v==x))∧Touch [] w w':=by
 obtain⟨x0,x1,x2⟩:=hb.own
 go_enter Tryz.func95,Tryz.ntmps95
 go_wp2
 go_ret
 exact⟨rfl,Touch.refl _ _⟩
theorem X3L(x v:Int){b:Nat}(w:World)(hb:Blk w b #[.int .u32 x]):
 Calls Tryz.prog 185 #[.int .u32 v, .pointer (some ⟨b,0,none⟩)] w fun e w'=>e= .returned (.bool (v==x))∧Touch [] w w':=by
 obtain⟨x0,x1,x2⟩:=hb.own
 go_enter Tryz.func185,Tryz.ntmps185
 go_wp2
 go_ret
 exact⟨rfl,Touch.refl _ _⟩
theorem Y0V(x v:Int){b:Nat}(w:World)(hv:0≤v∧v<4294967296)(hb:Blk w b #[.int .u32 x]):
 Calls Tryz.prog 136 #[.int .u32 v, .pointer (some ⟨b,0,none⟩)] w fun e w'=>e= .returned (.bool (v%4 !=x))∧Touch [] w w':=by
 obtain⟨x0,x1,x2⟩:=hb.own
 have h3:=X5R v hv
 have H3:=Lib.hid h3
 clear h3
 go_enter Tryz.func136,Tryz.ntmps136
 go_wp2
 go_ret
 refine⟨?_,Touch.refl _ _⟩
 show Ending.returned (Value.bool _)=Ending.returned (Value.bool _)
 rw[H3.out]
theorem Q5e{S0:List Nat}{w0 w:World}{m a r:Nat}{rs:List Res}{s:Rn}(H:Q0a S0 w0 m a r rs s w){l:Int}(hop:s.f.op=7)(hl:s.f.line=l):Calls Tryz.prog 184 #[.pointer (some ⟨r,0,none⟩)] w fun e w'=>e= .returned (.int .u32 256)∧w=w':=by
 obtain⟨x0,x2,x4,x5,x6,x7⟩:=H.facts hop hl rfl rfl
 go_enter Tryz.func184,Tryz.ntmps184
 go_wp2
 go_ret
 exact⟨rfl,rfl⟩
theorem Q5f{S0:List Nat}{w0 w:World}{m a r:Nat}{rs:List Res}{s:Rn}(H:Q0a S0 w0 m a r rs s w){l:Int}(hop:s.f.op=6)(hl:s.f.line=l):Calls Tryz.prog 184 #[.pointer (some ⟨r,0,none⟩)] w fun e w'=>e= .returned (.int .u32 0)∧w=w':=by
 obtain⟨x0,x2,x4,x5,x6,x7⟩:=H.facts hop hl rfl rfl
 go_enter Tryz.func184,Tryz.ntmps184
 go_wp2
 go_ret
 exact⟨rfl,rfl⟩
def X5t(s:Rn):Rn:=
 let s1:=((s.did (doA s.L ⟨3,0,256,0,0⟩)).Q0h (doA s.L ⟨3,0,256,0,0⟩).1.old).note 2 1
 if(doA s.L ⟨3,0,256,0,0⟩).1.old%4=0 then(s1.note 4 0).fin true else s1.goto 1
theorem Y6T{S0:List Nat}{w0 w:World}{m a r:Nat}{rs:List Res}{s:Rn}(H:Q0a S0 w0 m a r rs s w)(hop:s.f.op=1)(hl:s.f.line=0)(hn:I64 s.n)(ha:0≤s.f.a∧s.f.a<4294967296)(hc:s.notes.length≤900):
 Calls Tryz.prog 93 #[.pointer (some ⟨r,0,none⟩), .int .i64 0, .int .i64 1] w fun e w'=>e= .returned (.bool true)∧Q0a S0 w0 m a r rs (X5t s) w':=by
 obtain⟨z0,z2,z4,z5,z6,z7⟩:=H.facts hop hl rfl rfl
 have HC:=Lib.hid hc
 have HA:=Lib.hid ha
 have HN:=Lib.hid hn
 have HV:=Lib.hid (H.old ⟨3,0,256,0,0⟩)
 have HH:=Lib.hid H
 clear hc H hn ha
 unfold X5t
 (try dsimp only)
 by_cases hq:(doA s.L ⟨3,0,256,0,0⟩).1.old%4=0
 ·simp only[if_pos hq]
  have HQ:=Lib.hid hq
  clear hq
  go_enter Tryz.func93,Tryz.ntmps93
  go_wp2_with fail
  go_quiet (fail)
  have HW:=HH.out.drewN nq
  clear z0 z2 z4 z5 z6 z7
  generalize w.drewN nq=W at HW⊢
  obtain⟨z0,z2,z4,z5,z6,z7⟩:=HW.facts hop hl rfl rfl
  go_wp2_with fail
  refine(Q2f HW 0 256 (by decide)).mono ?_
  rintro e w1⟨rfl,H1⟩
  obtain⟨x0,x2,x4,x5,x6,x7⟩:=H1.facts hop hl rfl rfl
  go_wp2_with fail
  refine(Q0r (H1.Q0h (doA s.L ⟨3,0,256,0,0⟩).1.old) (by have:=HC.out;first|exact Nat.le_trans this (by decide)|(simp[Rn.note,Rn.did,Rn.Q0h,Rn.setB,Rn.waited,Rn.goto,Rn.Q0d];omega)) 2 1).mono ?_
  rintro e w2⟨rfl,H2⟩
  obtain⟨x0,x2,x4,x5,x6,x7⟩:=H2.facts hop hl (x:=(doA s.L ⟨3,0,256,0,0⟩).1.old) rfl rfl
  have hv:=HV.out
  have hbit:=X5R (doA s.L ⟨3,0,256,0,0⟩).1.old hv
  have hz:(Go.bits .and .u32 (doA s.L ⟨3,0,256,0,0⟩).1.old 3==0)=true:=by rw[hbit];simpa using HQ.out
  clear hv hbit
  go_wp2_with fail
  refine(Q0r H2 (by have:=HC.out;first|exact Nat.le_trans this (by decide)|(simp[Rn.note,Rn.did,Rn.Q0h,Rn.setB,Rn.waited,Rn.goto,Rn.Q0d];omega)) 4 0).mono ?_
  rintro e w3⟨rfl,H3⟩
  go_wp2_with fail
  refine(Q1x H3 true).mono ?_
  rintro e w4⟨rfl,H4⟩
  go_wp2_with fail
  go_ret
  exact⟨rfl,H4⟩
 ·simp only[if_neg hq]
  have HQ:=Lib.hid hq
  clear hq
  go_enter Tryz.func93,Tryz.ntmps93
  go_wp2_with fail
  go_quiet (fail)
  have HW:=HH.out.drewN nq
  clear z0 z2 z4 z5 z6 z7
  generalize w.drewN nq=W at HW⊢
  obtain⟨z0,z2,z4,z5,z6,z7⟩:=HW.facts hop hl rfl rfl
  go_wp2_with fail
  refine(Q2f HW 0 256 (by decide)).mono ?_
  rintro e w1⟨rfl,H1⟩
  obtain⟨x0,x2,x4,x5,x6,x7⟩:=H1.facts hop hl rfl rfl
  go_wp2_with fail
  refine(Q0r (H1.Q0h (doA s.L ⟨3,0,256,0,0⟩).1.old) (by have:=HC.out;first|exact Nat.le_trans this (by decide)|(simp[Rn.note,Rn.did,Rn.Q0h,Rn.setB,Rn.waited,Rn.goto,Rn.Q0d];omega)) 2 1).mono ?_
  rintro e w2⟨rfl,H2⟩
  obtain⟨x0,x2,x4,x5,x6,x7⟩:=H2.facts hop hl (x:=(doA s.L ⟨3,0,256,0,0⟩).1.old) rfl rfl
  have hv:=HV.out
  have hbit:=X5R (doA s.L ⟨3,0,256,0,0⟩).1.old hv
  have hz:(Go.bits .and .u32 (doA s.L ⟨3,0,256,0,0⟩).1.old 3==0)=false:=by rw[hbit];simpa using HQ.out
  clear hv hbit
  go_wp2_with fail
  refine(Q1j H2 1).mono ?_
  rintro e w3⟨rfl,H3⟩
  go_wp2_with fail
  go_ret
  exact⟨rfl,H3⟩
def X2x(s:Rn):Rn:=
 let s1:=s.waited (Q0t s.L s.n s.mode s.task s.f.st 0 (fun v=>v%4 !=s.f.a%4))
 let s2:=if(Q0t s.L s.n s.mode s.task s.f.st 0 (fun v=>v%4 !=s.f.a%4)).seen then s1.note 4 0 else s1
 if(Q0t s.L s.n s.mode s.task s.f.st 0 (fun v=>v%4 !=s.f.a%4)).done then s2.fin true else s2
theorem Y6S{S0:List Nat}{w0 w:World}{m a r:Nat}{rs:List Res}{s:Rn}(H:Q0a S0 w0 m a r rs s w)(hop:s.f.op=1)(hl:s.f.line=1)(hn:I64 s.n)(ha:0≤s.f.a∧s.f.a<4294967296)(hc:s.notes.length≤900):
 Calls Tryz.prog 93 #[.pointer (some ⟨r,0,none⟩), .int .i64 0, .int .i64 1] w fun e w'=>e= .returned (.bool true)∧Q0a S0 w0 m a r rs (X2x s) w':=by
 obtain⟨z0,z2,z4,z5,z6,z7⟩:=H.facts hop hl rfl rfl
 have HC:=Lib.hid hc
 have HA:=Lib.hid ha
 have HN:=Lib.hid hn
 have HH:=Lib.hid H
 clear hc H hn ha
 unfold X2x
 (try dsimp only)
 have hbit:=X5R s.f.a HA.out
 have HBIT:=Lib.hid hbit
 clear hbit
 have hwt:=fun(t2:Nat) W (H:Q0a S0 w0 m a r (.blk t2 #[.int .u32 (s.f.a%4)]::rs) s W)=>Q3m H HN.out 0 136 #[] #[.pointer (some ⟨t2,0,none⟩)] (fun v=>v%4 !=s.f.a%4) (enters_of Tryz.func136 (by kernel_rfl) rfl) (fun W v h0 h1 H=>Y0V (s.f.a%4) v W ⟨h0,h1⟩ H.first)
 cases hs:(Q0t s.L s.n s.mode s.task s.f.st 0 (fun v=>v%4 !=s.f.a%4)).seen<;>cases hd:(Q0t s.L s.n s.mode s.task s.f.st 0 (fun v=>v%4 !=s.f.a%4)).done<;>rw[hs,hd]at hwt<;>simp only[if_true,Bool.false_eq_true,if_false]<;>(have HWT:=Lib.hid hwt)<;>clear hwt hs hd
 ·go_enter Tryz.func93,Tryz.ntmps93
  go_wp2_with fail
  go_quiet (fail)
  have HW:=HH.out.drewN nq
  clear z0 z2 z4 z5 z6 z7
  generalize w.drewN nq=W at HW⊢
  obtain⟨z0,z2,z4,z5,z6,z7⟩:=HW.facts hop hl rfl rfl
  have HW0:=Lib.hid HW
  skip
  go_wp2_with fail
  refine Q1e (Facts:=fun V=>Q0a S0 w0 m a r (.blk W.heap.size #[.int .u32 (s.f.a%4)]::rs) s V) ?_ (by rw[←HBIT.out];exact HW0.out.box rfl _ _)
  intro W1 HW1
  refine(HWT.out _ _ HW1).mono ?_
  rintro e w1⟨rfl,H1⟩
  go_wp2_with fail
  go_ret
  exact⟨rfl,H1.Q0N⟩
 ·go_enter Tryz.func93,Tryz.ntmps93
  go_wp2_with fail
  go_quiet (fail)
  have HW:=HH.out.drewN nq
  clear z0 z2 z4 z5 z6 z7
  generalize w.drewN nq=W at HW⊢
  obtain⟨z0,z2,z4,z5,z6,z7⟩:=HW.facts hop hl rfl rfl
  have HW0:=Lib.hid HW
  skip
  go_wp2_with fail
  refine Q1e (Facts:=fun V=>Q0a S0 w0 m a r (.blk W.heap.size #[.int .u32 (s.f.a%4)]::rs) s V) ?_ (by rw[←HBIT.out];exact HW0.out.box rfl _ _)
  intro W1 HW1
  refine(HWT.out _ _ HW1).mono ?_
  rintro e w1⟨rfl,H1⟩
  go_wp2_with fail
  refine(Q1x H1 true).mono ?_
  rintro e w2⟨rfl,H2⟩
  go_wp2_with fail
  go_ret
  exact⟨rfl,H2.Q0N⟩
 ·go_enter Tryz.func93,Tryz.ntmps93
  go_wp2_with fail
  go_quiet (fail)
  have HW:=HH.out.drewN nq
  clear z0 z2 z4 z5 z6 z7
  generalize w.drewN nq=W at HW⊢
  obtain⟨z0,z2,z4,z5,z6,z7⟩:=HW.facts hop hl rfl rfl
  have HW0:=Lib.hid HW
  skip
  go_wp2_with fail
  refine Q1e (Facts:=fun V=>Q0a S0 w0 m a r (.blk W.heap.size #[.int .u32 (s.f.a%4)]::rs) s V) ?_ (by rw[←HBIT.out];exact HW0.out.box rfl _ _)
  intro W1 HW1
  refine(HWT.out _ _ HW1).mono ?_
  rintro e w1⟨rfl,H1⟩
  go_wp2_with fail
  refine(Q0r H1 (by have:=HC.out;first|exact Nat.le_trans this (by decide)|(simp[Rn.note,Rn.did,Rn.Q0h,Rn.setB,Rn.waited,Rn.goto,Rn.Q0d];omega)) 4 0).mono ?_
  rintro e w2⟨rfl,H2⟩
  go_wp2_with fail
  go_ret
  exact⟨rfl,H2.Q0N⟩
 ·go_enter Tryz.func93,Tryz.ntmps93
  go_wp2_with fail
  go_quiet (fail)
  have HW:=HH.out.drewN nq
  clear z0 z2 z4 z5 z6 z7
  generalize w.drewN nq=W at HW⊢
  obtain⟨z0,z2,z4,z5,z6,z7⟩:=HW.facts hop hl rfl rfl
  have HW0:=Lib.hid HW
  skip
  go_wp2_with fail
  refine Q1e (Facts:=fun V=>Q0a S0 w0 m a r (.blk W.heap.size #[.int .u32 (s.f.a%4)]::rs) s V) ?_ (by rw[←HBIT.out];exact HW0.out.box rfl _ _)
  intro W1 HW1
  refine(HWT.out _ _ HW1).mono ?_
  rintro e w1⟨rfl,H1⟩
  go_wp2_with fail
  refine(Q0r H1 (by have:=HC.out;first|exact Nat.le_trans this (by decide)|(simp[Rn.note,Rn.did,Rn.Q0h,Rn.setB,Rn.waited,Rn.goto,Rn.Q0d];omega)) 4 0).mono ?_
  rintro e w2⟨rfl,H2⟩
  go_wp2_with fail
  refine(Q1x H2 true).mono ?_
  rintro e w3⟨rfl,H3⟩
  go_wp2_with fail
  go_ret
  exact⟨rfl,H3.Q0N⟩
def X5q(s:Rn):Rn:=
 (((s.did (doA s.L ⟨3,1,256,0,0⟩)).note 6 0).wake 1).fin true
theorem Y6R{S0:List Nat}{w0 w:World}{m a r:Nat}{rs:List Res}{s:Rn}(H:Q0a S0 w0 m a r rs s w)(hop:s.f.op=2)(hl:s.f.line=0)(hn:I64 s.n)(ha:0≤s.f.a∧s.f.a<4294967296)(hc:s.notes.length≤900):
 Calls Tryz.prog 93 #[.pointer (some ⟨r,0,none⟩), .int .i64 0, .int .i64 1] w fun e w'=>e= .returned (.bool true)∧Q0a S0 w0 m a r rs (X5q s) w':=by
 obtain⟨z0,z2,z4,z5,z6,z7⟩:=H.facts hop hl rfl rfl
 have HC:=Lib.hid hc
 have HA:=Lib.hid ha
 have HN:=Lib.hid hn
 have HH:=Lib.hid H
 clear hc H hn ha
 unfold X5q
 (try dsimp only)
 go_enter Tryz.func93,Tryz.ntmps93
 go_wp2_with fail
 go_quiet (fail)
 have HW:=HH.out.drewN nq
 clear z0 z2 z4 z5 z6 z7
 generalize w.drewN nq=W at HW⊢
 obtain⟨z0,z2,z4,z5,z6,z7⟩:=HW.facts hop hl rfl rfl
 go_wp2_with fail
 refine(Q2f HW 1 256 (by decide)).mono ?_
 rintro e w1⟨rfl,H1⟩
 go_wp2_with fail
 refine(Q0r H1 (by have:=HC.out;first|exact Nat.le_trans this (by decide)|(simp[Rn.note,Rn.did,Rn.Q0h,Rn.setB,Rn.waited,Rn.goto,Rn.Q0d];omega)) 6 0).mono ?_
 rintro e w2⟨rfl,H2⟩
 go_wp2_with fail
 refine(Q3l H2 1).mono ?_
 rintro e w3⟨rfl,H3⟩
 go_wp2_with fail
 refine(Q1x H3 true).mono ?_
 rintro e w4⟨rfl,H4⟩
 go_wp2_with fail
 go_ret
 exact⟨rfl,H4⟩
def X5o(s:Rn):Rn:=
 let s1:=(s.did (doA s.L ⟨1,0,0,0,0⟩)).Q0h (doA s.L ⟨1,0,0,0,0⟩).1.old
 if(doA s.L ⟨1,0,0,0,0⟩).1.old%4=0 then s1.goto 1 else(s1.note 5 0).fin false
theorem Y6Q{S0:List Nat}{w0 w:World}{m a r:Nat}{rs:List Res}{s:Rn}(H:Q0a S0 w0 m a r rs s w)(hop:s.f.op=5)(hl:s.f.line=0)(hn:I64 s.n)(ha:0≤s.f.a∧s.f.a<4294967296)(hc:s.notes.length≤900):
 Calls Tryz.prog 93 #[.pointer (some ⟨r,0,none⟩), .int .i64 0, .int .i64 1] w fun e w'=>e= .returned (.bool true)∧Q0a S0 w0 m a r rs (X5o s) w':=by
 obtain⟨z0,z2,z4,z5,z6,z7⟩:=H.facts hop hl rfl rfl
 have HC:=Lib.hid hc
 have HA:=Lib.hid ha
 have HN:=Lib.hid hn
 have HV:=Lib.hid (H.old ⟨1,0,0,0,0⟩)
 have HH:=Lib.hid H
 clear hc H hn ha
 unfold X5o
 (try dsimp only)
 by_cases hq:(doA s.L ⟨1,0,0,0,0⟩).1.old%4=0
 ·simp only[if_pos hq]
  have HQ:=Lib.hid hq
  clear hq
  go_enter Tryz.func93,Tryz.ntmps93
  go_wp2_with fail
  go_quiet (fail)
  have HW:=HH.out.drewN nq
  clear z0 z2 z4 z5 z6 z7
  generalize w.drewN nq=W at HW⊢
  obtain⟨z0,z2,z4,z5,z6,z7⟩:=HW.facts hop hl rfl rfl
  go_wp2_with fail
  refine(Q1r HW 0).mono ?_
  rintro e w1⟨rfl,H1⟩
  obtain⟨x0,x2,x4,x5,x6,x7⟩:=H1.facts hop hl rfl rfl
  have hv:=HV.out
  have hbit:=X5R (doA s.L ⟨1,0,0,0,0⟩).1.old hv
  have hz:(Go.bits .and .u32 (doA s.L ⟨1,0,0,0,0⟩).1.old 3 !=0)=false:=by rw[hbit];simpa using HQ.out
  clear hv hbit
  go_wp2_with fail
  refine(Q1j (H1.Q0h (doA s.L ⟨1,0,0,0,0⟩).1.old) 1).mono ?_
  rintro e w2⟨rfl,H2⟩
  go_wp2_with fail
  go_ret
  exact⟨rfl,H2⟩
 ·simp only[if_neg hq]
  have HQ:=Lib.hid hq
  clear hq
  go_enter Tryz.func93,Tryz.ntmps93
  go_wp2_with fail
  go_quiet (fail)
  have HW:=HH.out.drewN nq
  clear z0 z2 z4 z5 z6 z7
  generalize w.drewN nq=W at HW⊢
  obtain⟨z0,z2,z4,z5,z6,z7⟩:=HW.facts hop hl rfl rfl
  go_wp2_with fail
  refine(Q1r HW 0).mono ?_
  rintro e w1⟨rfl,H1⟩
  obtain⟨x0,x2,x4,x5,x6,x7⟩:=H1.facts hop hl rfl rfl
  have hv:=HV.out
  have hbit:=X5R (doA s.L ⟨1,0,0,0,0⟩).1.old hv
  have hz:(Go.bits .and .u32 (doA s.L ⟨1,0,0,0,0⟩).1.old 3 !=0)=true:=by rw[hbit];simpa using HQ.out
  clear hv hbit
  go_wp2_with fail
  refine(Q0r (H1.Q0h (doA s.L ⟨1,0,0,0,0⟩).1.old) (by have:=HC.out;first|exact Nat.le_trans this (by decide)|(simp[Rn.note,Rn.did,Rn.Q0h,Rn.setB,Rn.waited,Rn.goto,Rn.Q0d];omega)) 5 0).mono ?_
  rintro e w2⟨rfl,H2⟩
  go_wp2_with fail
  refine(Q1x H2 false).mono ?_
  rintro e w3⟨rfl,H3⟩
  go_wp2_with fail
  go_ret
  exact⟨rfl,H3⟩
def X5m(s:Rn):Rn:=
 if Q7N s.L 0 s.f.a ((s.f.a+256)%4294967296)then(((s.did (doA s.L ⟨5,0,s.f.a,(s.f.a+256)%4294967296,0⟩)).note 2 1).note 4 0).fin true else(s.did (doA s.L ⟨5,0,s.f.a,(s.f.a+256)%4294967296,0⟩)).goto 0
theorem Y6P{S0:List Nat}{w0 w:World}{m a r:Nat}{rs:List Res}{s:Rn}(H:Q0a S0 w0 m a r rs s w)(hop:s.f.op=5)(hl:s.f.line=1)(hn:I64 s.n)(ha:0≤s.f.a∧s.f.a<4294967296)(hc:s.notes.length≤900):
 Calls Tryz.prog 93 #[.pointer (some ⟨r,0,none⟩), .int .i64 0, .int .i64 1] w fun e w'=>e= .returned (.bool true)∧Q0a S0 w0 m a r rs (X5m s) w':=by
 obtain⟨z0,z2,z4,z5,z6,z7⟩:=H.facts hop hl rfl rfl
 have HC:=Lib.hid hc
 have HA:=Lib.hid ha
 have HN:=Lib.hid hn
 have HH:=Lib.hid H
 clear hc H hn ha
 unfold X5m
 (try dsimp only)
 have hcas:=fun W (H:Q0a S0 w0 m a r rs s W)=>Q6m H 0 s.f.a ((s.f.a+256)%4294967296) HA.out (by have:=HA.out;omega)
 cases hb:Q7N s.L 0 s.f.a ((s.f.a+256)%4294967296)with
 |true=>
  rw[hb]at hcas
  simp only[if_true]
  have HCAS:=Lib.hid hcas
  clear hcas hb
  go_enter Tryz.func93,Tryz.ntmps93
  go_wp2_with fail
  go_quiet (fail)
  have HW:=HH.out.drewN nq
  clear z0 z2 z4 z5 z6 z7
  generalize w.drewN nq=W at HW⊢
  obtain⟨z0,z2,z4,z5,z6,z7⟩:=HW.facts hop hl rfl rfl
  go_wp2_with fail
  refine Q1a (by kernel_rfl) (by kernel_rfl) ?_
  simp only[Q0G,probes,List.nil_append,List.cons_append,probe]
  go_wp2_with fail
  refine(HCAS.out _ HW.drew).mono ?_
  rintro e w1⟨rfl,H1⟩
  go_wp2_with fail
  rw[Q0g]
  rename_i hK
  refine hK _ _ ?_
  clear hK
  go_wp2_with fail
  refine(Q0r H1 (by have:=HC.out;first|exact Nat.le_trans this (by decide)|(simp[Rn.note,Rn.did,Rn.Q0h,Rn.setB,Rn.waited,Rn.goto,Rn.Q0d];omega)) 2 1).mono ?_
  rintro e w2⟨rfl,H2⟩
  go_wp2_with fail
  refine(Q0r H2 (by have:=HC.out;first|exact Nat.le_trans this (by decide)|(simp[Rn.note,Rn.did,Rn.Q0h,Rn.setB,Rn.waited,Rn.goto,Rn.Q0d];omega)) 4 0).mono ?_
  rintro e w3⟨rfl,H3⟩
  go_wp2_with fail
  refine(Q1x H3 true).mono ?_
  rintro e w4⟨rfl,H4⟩
  go_wp2_with fail
  go_ret
  exact⟨rfl,H4⟩
 |false=>
  rw[hb]at hcas
  simp only[Bool.false_eq_true,if_false]
  have HCAS:=Lib.hid hcas
  clear hcas hb
  go_enter Tryz.func93,Tryz.ntmps93
  go_wp2_with fail
  go_quiet (fail)
  have HW:=HH.out.drewN nq
  clear z0 z2 z4 z5 z6 z7
  generalize w.drewN nq=W at HW⊢
  obtain⟨z0,z2,z4,z5,z6,z7⟩:=HW.facts hop hl rfl rfl
  go_wp2_with fail
  refine Q1a (by kernel_rfl) (by kernel_rfl) ?_
  simp only[Q0G,probes,List.nil_append,List.cons_append,probe]
  go_wp2_with fail
  refine(HCAS.out _ HW.drew).mono ?_
  rintro e w1⟨rfl,H1⟩
  go_wp2_with fail
  rw[Q0g]
  rename_i hK
  refine hK _ _ ?_
  clear hK
  go_wp2_with fail
  refine(Q1j H1 0).mono ?_
  rintro e w2⟨rfl,H2⟩
  go_wp2_with fail
  go_ret
  exact⟨rfl,H2⟩
theorem Q2S{S0:List Nat}{w0 w:World}{m a r:Nat}{rs:List Res}{s:Rn}(H:Q0a S0 w0 m a r rs s w){o l:Int}(hop:s.f.op=o)(hl:s.f.line=l)(h0: ¬(o=1∧l=0))(h1: ¬(o=1∧l=1))(h2: ¬(o=2∧l=0))(h3: ¬(o=5∧l=0))(h4: ¬(o=5∧l=1)):
 Calls Tryz.prog 93 #[.pointer (some ⟨r,0,none⟩), .int .i64 0, .int .i64 1] w fun e w'=>e= .returned (.bool false)∧Q0a S0 w0 m a r rs s w':=by
 obtain⟨z0,z2,z4,z5,z6,z7⟩:=H.facts hop hl rfl rfl
 have HH:=Lib.hid H
 clear H
 go_enter Tryz.func93,Tryz.ntmps93
 go_wp2_with fail
 go_quiet (fail)
 have HW:=HH.out.drewN nq
 clear z0 z2 z4 z5 z6 z7
 generalize w.drewN nq=W at HW⊢
 obtain⟨z0,z2,z4,z5,z6,z7⟩:=HW.facts hop hl rfl rfl
 go_wp2_with fail
 all_goals
  go_ret
  exact⟨rfl,HW⟩
attribute [local go_sem↓] Go.wp_at_zero Go.wp_at_succ
def Y5x(s:Rn):Rn:=
 (((s.did (doA s.L ⟨3,2,1,0,0⟩)).Q0h (doA s.L ⟨3,2,1,0,0⟩).1.old).note 2 2).goto 1
theorem pf_30{S0:List Nat}{w0 w:World}{m a r:Nat}{rs:List Res}{s:Rn}(H:Q0a S0 w0 m a r rs s w)(hop:s.f.op=3)(hl:s.f.line=0)(hn:I64 s.n)(ha:0≤s.f.a∧s.f.a<4294967296)(hb:0≤s.f.b∧s.f.b<4294967296)(hc:s.notes.length≤900):
 Calls Tryz.prog 68 #[.pointer (some ⟨r,0,none⟩)] w fun e w'=>e= .returned (.tuple #[])∧Q0a S0 w0 m a r rs (Y5x s) w':=by
 obtain⟨z0,z2,z4,z5,z6,z7⟩:=H.facts hop hl rfl rfl
 have HC:=Lib.hid hc
 have HA:=Lib.hid ha
 have HBB:=Lib.hid hb
 have HN:=Lib.hid hn
 have HH:=Lib.hid H
 clear hc H hn ha hb
 unfold Y5x
 (try dsimp only)
 go_enter Tryz.func68,Tryz.ntmps68
 go_wp2_with fail
 refine(Q2S HH.out hop hl (by decide) (by decide) (by decide) (by decide) (by decide)).mono ?_
 rintro e w1⟨rfl,H1⟩
 clear z0 z2 z4 z5 z6 z7
 obtain⟨z0,z2,z4,z5,z6,z7⟩:=H1.facts hop hl rfl rfl
 go_wp2_with fail
 refine Q0u 8 rfl (by kernel_rfl) (by kernel_rfl) ?_
 simp only[List.take_succ_cons,List.take_zero,List.drop_succ_cons,List.drop_zero,Q0G,probes,List.nil_append,List.cons_append,probe]
 go_wp2_with fail
 rw[Q0g]
 refine Q0W (.int .u32 (pfP s.f.b)) rfl rfl (enters_of Tryz.func94 (by kernel_rfl) rfl) (by simp[Act.eval]) (fun W _=>Q1g s.f.b W HBB.out) ?_
 simp only[Q0G,probes,List.nil_append]
 go_wp2_with fail
 rw[Q0g]
 rename_i hK
 refine hK _ _ ?_
 clear hK
 refine Q1q (Facts:=fun V=>Q0a S0 w0 m a r (.blk w1.heap.size #[.int .u32 s.f.a]::rs) s V) ?_ (by first|exact H1.drew.box rfl _ _|exact(H1.box rfl _ _).drew)
 clear z0 z2 z4 z5 z6 z7 H1
 intro W HW
 generalize w1.heap.size=tb at HW⊢
 obtain⟨z0,z2,z4,z5,z6,z7⟩:=HW.facts hop hl rfl rfl
 go_wp2_with fail
 go_quiet (fail)
 have HW2:=HW.drewN nq
 clear z0 z2 z4 z5 z6 z7 HW
 generalize W.drewN nq=W2 at HW2⊢
 obtain⟨z0,z2,z4,z5,z6,z7⟩:=HW2.facts hop hl rfl rfl
 go_wp2_with fail
 refine(Q2f HW2 2 1 (by decide)).mono ?_
 rintro e w1⟨rfl,H1⟩
 obtain⟨x0,x2,x4,x5,x6,x7⟩:=H1.facts hop hl rfl rfl
 go_wp2_with fail
 refine(Q0r (H1.Q0h (doA s.L ⟨3,2,1,0,0⟩).1.old) (by have:=HC.out;first|exact Nat.le_trans this (by decide)|(simp[Rn.note,Rn.did,Rn.Q0h,Rn.setB,Rn.waited,Rn.goto,Rn.Q0d];omega)) 2 2).mono ?_
 rintro e w2⟨rfl,H2⟩
 go_wp2_with fail
 refine(Q1j H2 1).mono ?_
 rintro e w3⟨rfl,H3⟩
 go_wp2_with fail
 go_end0
 exact⟨rfl,H3.Q0N⟩
def Y3W(s:Rn):Rn:=
 let s1:=s.waited (Q0t s.L s.n s.mode s.task s.f.st 3 (fun v=>v==s.f.a))
 if(Q0t s.L s.n s.mode s.task s.f.st 3 (fun v=>v==s.f.a)).done then s1.goto 2 else s1
theorem pf_31{S0:List Nat}{w0 w:World}{m a r:Nat}{rs:List Res}{s:Rn}(H:Q0a S0 w0 m a r rs s w)(hop:s.f.op=3)(hl:s.f.line=1)(hn:I64 s.n)(ha:0≤s.f.a∧s.f.a<4294967296)(hb:0≤s.f.b∧s.f.b<4294967296)(hc:s.notes.length≤900):
 Calls Tryz.prog 68 #[.pointer (some ⟨r,0,none⟩)] w fun e w'=>e= .returned (.tuple #[])∧Q0a S0 w0 m a r rs (Y3W s) w':=by
 obtain⟨z0,z2,z4,z5,z6,z7⟩:=H.facts hop hl rfl rfl
 have HC:=Lib.hid hc
 have HA:=Lib.hid ha
 have HBB:=Lib.hid hb
 have HN:=Lib.hid hn
 have HH:=Lib.hid H
 clear hc H hn ha hb
 unfold Y3W
 (try dsimp only)
 have hwt:=fun(t2:Nat) W (H:Q0a S0 w0 m a r (.blk t2 #[.int .u32 s.f.a]::rs) s W)=>Q3m H HN.out 3 95 #[] #[.pointer (some ⟨t2,0,none⟩)] (fun v=>v==s.f.a) (enters_of Tryz.func95 (by kernel_rfl) rfl) (fun W v h0 h1 H=>X8f s.f.a v W H.first)
 cases hs:(Q0t s.L s.n s.mode s.task s.f.st 3 (fun v=>v==s.f.a)).seen<;>cases hd:(Q0t s.L s.n s.mode s.task s.f.st 3 (fun v=>v==s.f.a)).done<;>rw[hs,hd]at hwt<;>simp only[if_true,Bool.false_eq_true,if_false]<;>(have HWT:=Lib.hid hwt)<;>clear hwt hs hd
 ·go_enter Tryz.func68,Tryz.ntmps68
  go_wp2_with fail
  refine(Q2S HH.out hop hl (by decide) (by decide) (by decide) (by decide) (by decide)).mono ?_
  rintro e w1⟨rfl,H1⟩
  clear z0 z2 z4 z5 z6 z7
  obtain⟨z0,z2,z4,z5,z6,z7⟩:=H1.facts hop hl rfl rfl
  go_wp2_with fail
  refine Q0u 8 rfl (by kernel_rfl) (by kernel_rfl) ?_
  simp only[List.take_succ_cons,List.take_zero,List.drop_succ_cons,List.drop_zero,Q0G,probes,List.nil_append,List.cons_append,probe]
  go_wp2_with fail
  rw[Q0g]
  refine Q0W (.int .u32 (pfP s.f.b)) rfl rfl (enters_of Tryz.func94 (by kernel_rfl) rfl) (by simp[Act.eval]) (fun W _=>Q1g s.f.b W HBB.out) ?_
  simp only[Q0G,probes,List.nil_append]
  go_wp2_with fail
  rw[Q0g]
  rename_i hK
  refine hK _ _ ?_
  clear hK
  refine Q1q (Facts:=fun V=>Q0a S0 w0 m a r (.blk w1.heap.size #[.int .u32 s.f.a]::rs) s V) ?_ (by first|exact H1.drew.box rfl _ _|exact(H1.box rfl _ _).drew)
  clear z0 z2 z4 z5 z6 z7 H1
  intro W HW
  generalize w1.heap.size=tb at HW⊢
  obtain⟨z0,z2,z4,z5,z6,z7⟩:=HW.facts hop hl rfl rfl
  go_wp2_with fail
  go_quiet (fail)
  have HW2:=HW.drewN nq
  clear z0 z2 z4 z5 z6 z7 HW
  generalize W.drewN nq=W2 at HW2⊢
  obtain⟨z0,z2,z4,z5,z6,z7⟩:=HW2.facts hop hl rfl rfl
  go_wp2_with fail
  refine(HWT.out _ _ HW2).mono ?_
  rintro e w1⟨rfl,H1⟩
  go_wp2_with fail
  go_end0
  exact⟨rfl,H1.Q0N⟩
 ·go_enter Tryz.func68,Tryz.ntmps68
  go_wp2_with fail
  refine(Q2S HH.out hop hl (by decide) (by decide) (by decide) (by decide) (by decide)).mono ?_
  rintro e w1⟨rfl,H1⟩
  clear z0 z2 z4 z5 z6 z7
  obtain⟨z0,z2,z4,z5,z6,z7⟩:=H1.facts hop hl rfl rfl
  go_wp2_with fail
  refine Q0u 8 rfl (by kernel_rfl) (by kernel_rfl) ?_
  simp only[List.take_succ_cons,List.take_zero,List.drop_succ_cons,List.drop_zero,Q0G,probes,List.nil_append,List.cons_append,probe]
  go_wp2_with fail
  rw[Q0g]
  refine Q0W (.int .u32 (pfP s.f.b)) rfl rfl (enters_of Tryz.func94 (by kernel_rfl) rfl) (by simp[Act.eval]) (fun W _=>Q1g s.f.b W HBB.out) ?_
  simp only[Q0G,probes,List.nil_append]
  go_wp2_with fail
  rw[Q0g]
  rename_i hK
  refine hK _ _ ?_
  clear hK
  refine Q1q (Facts:=fun V=>Q0a S0 w0 m a r (.blk w1.heap.size #[.int .u32 s.f.a]::rs) s V) ?_ (by first|exact H1.drew.box rfl _ _|exact(H1.box rfl _ _).drew)
  clear z0 z2 z4 z5 z6 z7 H1
  intro W HW
  generalize w1.heap.size=tb at HW⊢
  obtain⟨z0,z2,z4,z5,z6,z7⟩:=HW.facts hop hl rfl rfl
  go_wp2_with fail
  go_quiet (fail)
  have HW2:=HW.drewN nq
  clear z0 z2 z4 z5 z6 z7 HW
  generalize W.drewN nq=W2 at HW2⊢
  obtain⟨z0,z2,z4,z5,z6,z7⟩:=HW2.facts hop hl rfl rfl
  go_wp2_with fail
  refine(HWT.out _ _ HW2).mono ?_
  rintro e w1⟨rfl,H1⟩
  go_wp2_with fail
  refine(Q1j H1 2).mono ?_
  rintro e w2⟨rfl,H2⟩
  go_wp2_with fail
  go_end0
  exact⟨rfl,H2.Q0N⟩
 ·go_enter Tryz.func68,Tryz.ntmps68
  go_wp2_with fail
  refine(Q2S HH.out hop hl (by decide) (by decide) (by decide) (by decide) (by decide)).mono ?_
  rintro e w1⟨rfl,H1⟩
  clear z0 z2 z4 z5 z6 z7
  obtain⟨z0,z2,z4,z5,z6,z7⟩:=H1.facts hop hl rfl rfl
  go_wp2_with fail
  refine Q0u 8 rfl (by kernel_rfl) (by kernel_rfl) ?_
  simp only[List.take_succ_cons,List.take_zero,List.drop_succ_cons,List.drop_zero,Q0G,probes,List.nil_append,List.cons_append,probe]
  go_wp2_with fail
  rw[Q0g]
  refine Q0W (.int .u32 (pfP s.f.b)) rfl rfl (enters_of Tryz.func94 (by kernel_rfl) rfl) (by simp[Act.eval]) (fun W _=>Q1g s.f.b W HBB.out) ?_
  simp only[Q0G,probes,List.nil_append]
  go_wp2_with fail
  rw[Q0g]
  rename_i hK
  refine hK _ _ ?_
  clear hK
  refine Q1q (Facts:=fun V=>Q0a S0 w0 m a r (.blk w1.heap.size #[.int .u32 s.f.a]::rs) s V) ?_ (by first|exact H1.drew.box rfl _ _|exact(H1.box rfl _ _).drew)
  clear z0 z2 z4 z5 z6 z7 H1
  intro W HW
  generalize w1.heap.size=tb at HW⊢
  obtain⟨z0,z2,z4,z5,z6,z7⟩:=HW.facts hop hl rfl rfl
  go_wp2_with fail
  go_quiet (fail)
  have HW2:=HW.drewN nq
  clear z0 z2 z4 z5 z6 z7 HW
  generalize W.drewN nq=W2 at HW2⊢
  obtain⟨z0,z2,z4,z5,z6,z7⟩:=HW2.facts hop hl rfl rfl
  go_wp2_with fail
  refine(HWT.out _ _ HW2).mono ?_
  rintro e w1⟨rfl,H1⟩
  go_wp2_with fail
  go_end0
  exact⟨rfl,H1.Q0N⟩
 ·go_enter Tryz.func68,Tryz.ntmps68
  go_wp2_with fail
  refine(Q2S HH.out hop hl (by decide) (by decide) (by decide) (by decide) (by decide)).mono ?_
  rintro e w1⟨rfl,H1⟩
  clear z0 z2 z4 z5 z6 z7
  obtain⟨z0,z2,z4,z5,z6,z7⟩:=H1.facts hop hl rfl rfl
  go_wp2_with fail
  refine Q0u 8 rfl (by kernel_rfl) (by kernel_rfl) ?_
  simp only[List.take_succ_cons,List.take_zero,List.drop_succ_cons,List.drop_zero,Q0G,probes,List.nil_append,List.cons_append,probe]
  go_wp2_with fail
  rw[Q0g]
  refine Q0W (.int .u32 (pfP s.f.b)) rfl rfl (enters_of Tryz.func94 (by kernel_rfl) rfl) (by simp[Act.eval]) (fun W _=>Q1g s.f.b W HBB.out) ?_
  simp only[Q0G,probes,List.nil_append]
  go_wp2_with fail
  rw[Q0g]
  rename_i hK
  refine hK _ _ ?_
  clear hK
  refine Q1q (Facts:=fun V=>Q0a S0 w0 m a r (.blk w1.heap.size #[.int .u32 s.f.a]::rs) s V) ?_ (by first|exact H1.drew.box rfl _ _|exact(H1.box rfl _ _).drew)
  clear z0 z2 z4 z5 z6 z7 H1
  intro W HW
  generalize w1.heap.size=tb at HW⊢
  obtain⟨z0,z2,z4,z5,z6,z7⟩:=HW.facts hop hl rfl rfl
  go_wp2_with fail
  go_quiet (fail)
  have HW2:=HW.drewN nq
  clear z0 z2 z4 z5 z6 z7 HW
  generalize W.drewN nq=W2 at HW2⊢
  obtain⟨z0,z2,z4,z5,z6,z7⟩:=HW2.facts hop hl rfl rfl
  go_wp2_with fail
  refine(HWT.out _ _ HW2).mono ?_
  rintro e w1⟨rfl,H1⟩
  go_wp2_with fail
  refine(Q1j H1 2).mono ?_
  rintro e w2⟨rfl,H2⟩
  go_wp2_with fail
  go_end0
  exact⟨rfl,H2.Q0N⟩
def Y5w(s:Rn):Rn:=
 ((s.did (doA s.L ⟨1,4,0,0,0⟩)).setB (doA s.L ⟨1,4,0,0,0⟩).1.old).goto 3
theorem pf_32{S0:List Nat}{w0 w:World}{m a r:Nat}{rs:List Res}{s:Rn}(H:Q0a S0 w0 m a r rs s w)(hop:s.f.op=3)(hl:s.f.line=2)(hn:I64 s.n)(ha:0≤s.f.a∧s.f.a<4294967296)(hb:0≤s.f.b∧s.f.b<4294967296)(hc:s.notes.length≤900):
 Calls Tryz.prog 68 #[.pointer (some ⟨r,0,none⟩)] w fun e w'=>e= .returned (.tuple #[])∧Q0a S0 w0 m a r rs (Y5w s) w':=by
 obtain⟨z0,z2,z4,z5,z6,z7⟩:=H.facts hop hl rfl rfl
 have HC:=Lib.hid hc
 have HA:=Lib.hid ha
 have HBB:=Lib.hid hb
 have HN:=Lib.hid hn
 have HH:=Lib.hid H
 clear hc H hn ha hb
 unfold Y5w
 (try dsimp only)
 go_enter Tryz.func68,Tryz.ntmps68
 go_wp2_with fail
 refine(Q2S HH.out hop hl (by decide) (by decide) (by decide) (by decide) (by decide)).mono ?_
 rintro e w1⟨rfl,H1⟩
 clear z0 z2 z4 z5 z6 z7
 obtain⟨z0,z2,z4,z5,z6,z7⟩:=H1.facts hop hl rfl rfl
 go_wp2_with fail
 refine Q0u 8 rfl (by kernel_rfl) (by kernel_rfl) ?_
 simp only[List.take_succ_cons,List.take_zero,List.drop_succ_cons,List.drop_zero,Q0G,probes,List.nil_append,List.cons_append,probe]
 go_wp2_with fail
 rw[Q0g]
 refine Q0W (.int .u32 (pfP s.f.b)) rfl rfl (enters_of Tryz.func94 (by kernel_rfl) rfl) (by simp[Act.eval]) (fun W _=>Q1g s.f.b W HBB.out) ?_
 simp only[Q0G,probes,List.nil_append]
 go_wp2_with fail
 rw[Q0g]
 rename_i hK
 refine hK _ _ ?_
 clear hK
 refine Q1q (Facts:=fun V=>Q0a S0 w0 m a r (.blk w1.heap.size #[.int .u32 s.f.a]::rs) s V) ?_ (by first|exact H1.drew.box rfl _ _|exact(H1.box rfl _ _).drew)
 clear z0 z2 z4 z5 z6 z7 H1
 intro W HW
 generalize w1.heap.size=tb at HW⊢
 obtain⟨z0,z2,z4,z5,z6,z7⟩:=HW.facts hop hl rfl rfl
 go_wp2_with fail
 go_quiet (fail)
 have HW2:=HW.drewN nq
 clear z0 z2 z4 z5 z6 z7 HW
 generalize W.drewN nq=W2 at HW2⊢
 obtain⟨z0,z2,z4,z5,z6,z7⟩:=HW2.facts hop hl rfl rfl
 go_wp2_with fail
 refine(Q1r HW2 4).mono ?_
 rintro e w1⟨rfl,H1⟩
 obtain⟨x0,x2,x4,x5,x6,x7⟩:=H1.facts hop hl rfl rfl
 go_wp2_with fail
 refine(Q1j (H1.setB (doA s.L ⟨1,4,0,0,0⟩).1.old) 3).mono ?_
 rintro e w2⟨rfl,H2⟩
 go_wp2_with fail
 go_end0
 exact⟨rfl,H2.Q0N⟩
def Y5v(s:Rn):Rn:=
 (((s.did (doA s.L ⟨3,0,pfP s.f.b,0,0⟩)).Q0h (doA s.L ⟨3,0,pfP s.f.b,0,0⟩).1.old).note 3 0).goto 4
theorem pf_33{S0:List Nat}{w0 w:World}{m a r:Nat}{rs:List Res}{s:Rn}(H:Q0a S0 w0 m a r rs s w)(hop:s.f.op=3)(hl:s.f.line=3)(hn:I64 s.n)(ha:0≤s.f.a∧s.f.a<4294967296)(hb:0≤s.f.b∧s.f.b<4294967296)(hc:s.notes.length≤900):
 Calls Tryz.prog 68 #[.pointer (some ⟨r,0,none⟩)] w fun e w'=>e= .returned (.tuple #[])∧Q0a S0 w0 m a r rs (Y5v s) w':=by
 obtain⟨z0,z2,z4,z5,z6,z7⟩:=H.facts hop hl rfl rfl
 have HC:=Lib.hid hc
 have HA:=Lib.hid ha
 have HBB:=Lib.hid hb
 have HN:=Lib.hid hn
 have HH:=Lib.hid H
 clear hc H hn ha hb
 unfold Y5v
 (try dsimp only)
 go_enter Tryz.func68,Tryz.ntmps68
 go_wp2_with fail
 refine(Q2S HH.out hop hl (by decide) (by decide) (by decide) (by decide) (by decide)).mono ?_
 rintro e w1⟨rfl,H1⟩
 clear z0 z2 z4 z5 z6 z7
 obtain⟨z0,z2,z4,z5,z6,z7⟩:=H1.facts hop hl rfl rfl
 go_wp2_with fail
 refine Q0u 8 rfl (by kernel_rfl) (by kernel_rfl) ?_
 simp only[List.take_succ_cons,List.take_zero,List.drop_succ_cons,List.drop_zero,Q0G,probes,List.nil_append,List.cons_append,probe]
 go_wp2_with fail
 rw[Q0g]
 refine Q0W (.int .u32 (pfP s.f.b)) rfl rfl (enters_of Tryz.func94 (by kernel_rfl) rfl) (by simp[Act.eval]) (fun W _=>Q1g s.f.b W HBB.out) ?_
 simp only[Q0G,probes,List.nil_append]
 go_wp2_with fail
 rw[Q0g]
 rename_i hK
 refine hK _ _ ?_
 clear hK
 refine Q1q (Facts:=fun V=>Q0a S0 w0 m a r (.blk w1.heap.size #[.int .u32 s.f.a]::rs) s V) ?_ (by first|exact H1.drew.box rfl _ _|exact(H1.box rfl _ _).drew)
 clear z0 z2 z4 z5 z6 z7 H1
 intro W HW
 generalize w1.heap.size=tb at HW⊢
 obtain⟨z0,z2,z4,z5,z6,z7⟩:=HW.facts hop hl rfl rfl
 go_wp2_with fail
 go_quiet (fail)
 have HW2:=HW.drewN nq
 clear z0 z2 z4 z5 z6 z7 HW
 generalize W.drewN nq=W2 at HW2⊢
 obtain⟨z0,z2,z4,z5,z6,z7⟩:=HW2.facts hop hl rfl rfl
 go_wp2_with fail
 refine(Q2f HW2 0 (pfP s.f.b) (by have:0≤pfP s.f.b∧pfP s.f.b<4294967296:=(by unfold pfP;omega);omega)).mono ?_
 rintro e w1⟨rfl,H1⟩
 obtain⟨x0,x2,x4,x5,x6,x7⟩:=H1.facts hop hl rfl rfl
 go_wp2_with fail
 refine(Q0r (H1.Q0h (doA s.L ⟨3,0,pfP s.f.b,0,0⟩).1.old) (by have:=HC.out;first|exact Nat.le_trans this (by decide)|(simp[Rn.note,Rn.did,Rn.Q0h,Rn.setB,Rn.waited,Rn.goto,Rn.Q0d];omega)) 3 0).mono ?_
 rintro e w2⟨rfl,H2⟩
 go_wp2_with fail
 refine(Q1j H2 4).mono ?_
 rintro e w3⟨rfl,H3⟩
 go_wp2_with fail
 go_end0
 exact⟨rfl,H3.Q0N⟩
def Y3V(s:Rn):Rn:=
 let s1:=s.waited (Q0t s.L s.n s.mode s.task s.f.st 1 (fun v=>v==s.f.a))
 let s2:=if(Q0t s.L s.n s.mode s.task s.f.st 1 (fun v=>v==s.f.a)).seen then s1.note 4 0 else s1
 if(Q0t s.L s.n s.mode s.task s.f.st 1 (fun v=>v==s.f.a)).done then s2.fin true else s2
theorem pf_34{S0:List Nat}{w0 w:World}{m a r:Nat}{rs:List Res}{s:Rn}(H:Q0a S0 w0 m a r rs s w)(hop:s.f.op=3)(hl:s.f.line=4)(hn:I64 s.n)(ha:0≤s.f.a∧s.f.a<4294967296)(hb:0≤s.f.b∧s.f.b<4294967296)(hc:s.notes.length≤900):
 Calls Tryz.prog 68 #[.pointer (some ⟨r,0,none⟩)] w fun e w'=>e= .returned (.tuple #[])∧Q0a S0 w0 m a r rs (Y3V s) w':=by
 obtain⟨z0,z2,z4,z5,z6,z7⟩:=H.facts hop hl rfl rfl
 have HC:=Lib.hid hc
 have HA:=Lib.hid ha
 have HBB:=Lib.hid hb
 have HN:=Lib.hid hn
 have HH:=Lib.hid H
 clear hc H hn ha hb
 unfold Y3V
 (try dsimp only)
 have hwt:=fun(t2:Nat) W (H:Q0a S0 w0 m a r (.blk t2 #[.int .u32 s.f.a]::rs) s W)=>Q3m H HN.out 1 95 #[] #[.pointer (some ⟨t2,0,none⟩)] (fun v=>v==s.f.a) (enters_of Tryz.func95 (by kernel_rfl) rfl) (fun W v h0 h1 H=>X8f s.f.a v W H.first)
 cases hs:(Q0t s.L s.n s.mode s.task s.f.st 1 (fun v=>v==s.f.a)).seen<;>cases hd:(Q0t s.L s.n s.mode s.task s.f.st 1 (fun v=>v==s.f.a)).done<;>rw[hs,hd]at hwt<;>simp only[if_true,Bool.false_eq_true,if_false]<;>(have HWT:=Lib.hid hwt)<;>clear hwt hs hd
 ·go_enter Tryz.func68,Tryz.ntmps68
  go_wp2_with fail
  refine(Q2S HH.out hop hl (by decide) (by decide) (by decide) (by decide) (by decide)).mono ?_
  rintro e w1⟨rfl,H1⟩
  clear z0 z2 z4 z5 z6 z7
  obtain⟨z0,z2,z4,z5,z6,z7⟩:=H1.facts hop hl rfl rfl
  go_wp2_with fail
  refine Q0u 8 rfl (by kernel_rfl) (by kernel_rfl) ?_
  simp only[List.take_succ_cons,List.take_zero,List.drop_succ_cons,List.drop_zero,Q0G,probes,List.nil_append,List.cons_append,probe]
  go_wp2_with fail
  rw[Q0g]
  refine Q0W (.int .u32 (pfP s.f.b)) rfl rfl (enters_of Tryz.func94 (by kernel_rfl) rfl) (by simp[Act.eval]) (fun W _=>Q1g s.f.b W HBB.out) ?_
  simp only[Q0G,probes,List.nil_append]
  go_wp2_with fail
  rw[Q0g]
  rename_i hK
  refine hK _ _ ?_
  clear hK
  refine Q1q (Facts:=fun V=>Q0a S0 w0 m a r (.blk w1.heap.size #[.int .u32 s.f.a]::rs) s V) ?_ (by first|exact H1.drew.box rfl _ _|exact(H1.box rfl _ _).drew)
  clear z0 z2 z4 z5 z6 z7 H1
  intro W HW
  generalize w1.heap.size=tb at HW⊢
  obtain⟨z0,z2,z4,z5,z6,z7⟩:=HW.facts hop hl rfl rfl
  go_wp2_with fail
  go_quiet (fail)
  have HW2:=HW.drewN nq
  clear z0 z2 z4 z5 z6 z7 HW
  generalize W.drewN nq=W2 at HW2⊢
  obtain⟨z0,z2,z4,z5,z6,z7⟩:=HW2.facts hop hl rfl rfl
  go_wp2_with fail
  refine(HWT.out _ _ HW2).mono ?_
  rintro e w1⟨rfl,H1⟩
  go_wp2_with fail
  go_end0
  exact⟨rfl,H1.Q0N⟩
 ·go_enter Tryz.func68,Tryz.ntmps68
  go_wp2_with fail
  refine(Q2S HH.out hop hl (by decide) (by decide) (by decide) (by decide) (by decide)).mono ?_
  rintro e w1⟨rfl,H1⟩
  clear z0 z2 z4 z5 z6 z7
  obtain⟨z0,z2,z4,z5,z6,z7⟩:=H1.facts hop hl rfl rfl
  go_wp2_with fail
  refine Q0u 8 rfl (by kernel_rfl) (by kernel_rfl) ?_
  simp only[List.take_succ_cons,List.take_zero,List.drop_succ_cons,List.drop_zero,Q0G,probes,List.nil_append,List.cons_append,probe]
  go_wp2_with fail
  rw[Q0g]
  refine Q0W (.int .u32 (pfP s.f.b)) rfl rfl (enters_of Tryz.func94 (by kernel_rfl) rfl) (by simp[Act.eval]) (fun W _=>Q1g s.f.b W HBB.out) ?_
  simp only[Q0G,probes,List.nil_append]
  go_wp2_with fail
  rw[Q0g]
  rename_i hK
  refine hK _ _ ?_
  clear hK
  refine Q1q (Facts:=fun V=>Q0a S0 w0 m a r (.blk w1.heap.size #[.int .u32 s.f.a]::rs) s V) ?_ (by first|exact H1.drew.box rfl _ _|exact(H1.box rfl _ _).drew)
  clear z0 z2 z4 z5 z6 z7 H1
  intro W HW
  generalize w1.heap.size=tb at HW⊢
  obtain⟨z0,z2,z4,z5,z6,z7⟩:=HW.facts hop hl rfl rfl
  go_wp2_with fail
  go_quiet (fail)
  have HW2:=HW.drewN nq
  clear z0 z2 z4 z5 z6 z7 HW
  generalize W.drewN nq=W2 at HW2⊢
  obtain⟨z0,z2,z4,z5,z6,z7⟩:=HW2.facts hop hl rfl rfl
  go_wp2_with fail
  refine(HWT.out _ _ HW2).mono ?_
  rintro e w1⟨rfl,H1⟩
  go_wp2_with fail
  refine(Q1x H1 true).mono ?_
  rintro e w2⟨rfl,H2⟩
  go_wp2_with fail
  go_end0
  exact⟨rfl,H2.Q0N⟩
 ·go_enter Tryz.func68,Tryz.ntmps68
  go_wp2_with fail
  refine(Q2S HH.out hop hl (by decide) (by decide) (by decide) (by decide) (by decide)).mono ?_
  rintro e w1⟨rfl,H1⟩
  clear z0 z2 z4 z5 z6 z7
  obtain⟨z0,z2,z4,z5,z6,z7⟩:=H1.facts hop hl rfl rfl
  go_wp2_with fail
  refine Q0u 8 rfl (by kernel_rfl) (by kernel_rfl) ?_
  simp only[List.take_succ_cons,List.take_zero,List.drop_succ_cons,List.drop_zero,Q0G,probes,List.nil_append,List.cons_append,probe]
  go_wp2_with fail
  rw[Q0g]
  refine Q0W (.int .u32 (pfP s.f.b)) rfl rfl (enters_of Tryz.func94 (by kernel_rfl) rfl) (by simp[Act.eval]) (fun W _=>Q1g s.f.b W HBB.out) ?_
  simp only[Q0G,probes,List.nil_append]
  go_wp2_with fail
  rw[Q0g]
  rename_i hK
  refine hK _ _ ?_
  clear hK
  refine Q1q (Facts:=fun V=>Q0a S0 w0 m a r (.blk w1.heap.size #[.int .u32 s.f.a]::rs) s V) ?_ (by first|exact H1.drew.box rfl _ _|exact(H1.box rfl _ _).drew)
  clear z0 z2 z4 z5 z6 z7 H1
  intro W HW
  generalize w1.heap.size=tb at HW⊢
  obtain⟨z0,z2,z4,z5,z6,z7⟩:=HW.facts hop hl rfl rfl
  go_wp2_with fail
  go_quiet (fail)
  have HW2:=HW.drewN nq
  clear z0 z2 z4 z5 z6 z7 HW
  generalize W.drewN nq=W2 at HW2⊢
  obtain⟨z0,z2,z4,z5,z6,z7⟩:=HW2.facts hop hl rfl rfl
  go_wp2_with fail
  refine(HWT.out _ _ HW2).mono ?_
  rintro e w1⟨rfl,H1⟩
  go_wp2_with fail
  refine(Q0r H1 (by have:=HC.out;first|exact Nat.le_trans this (by decide)|(simp[Rn.note,Rn.did,Rn.Q0h,Rn.setB,Rn.waited,Rn.goto,Rn.Q0d];omega)) 4 0).mono ?_
  rintro e w2⟨rfl,H2⟩
  go_wp2_with fail
  go_end0
  exact⟨rfl,H2.Q0N⟩
 ·go_enter Tryz.func68,Tryz.ntmps68
  go_wp2_with fail
  refine(Q2S HH.out hop hl (by decide) (by decide) (by decide) (by decide) (by decide)).mono ?_
  rintro e w1⟨rfl,H1⟩
  clear z0 z2 z4 z5 z6 z7
  obtain⟨z0,z2,z4,z5,z6,z7⟩:=H1.facts hop hl rfl rfl
  go_wp2_with fail
  refine Q0u 8 rfl (by kernel_rfl) (by kernel_rfl) ?_
  simp only[List.take_succ_cons,List.take_zero,List.drop_succ_cons,List.drop_zero,Q0G,probes,List.nil_append,List.cons_append,probe]
  go_wp2_with fail
  rw[Q0g]
  refine Q0W (.int .u32 (pfP s.f.b)) rfl rfl (enters_of Tryz.func94 (by kernel_rfl) rfl) (by simp[Act.eval]) (fun W _=>Q1g s.f.b W HBB.out) ?_
  simp only[Q0G,probes,List.nil_append]
  go_wp2_with fail
  rw[Q0g]
  rename_i hK
  refine hK _ _ ?_
  clear hK
  refine Q1q (Facts:=fun V=>Q0a S0 w0 m a r (.blk w1.heap.size #[.int .u32 s.f.a]::rs) s V) ?_ (by first|exact H1.drew.box rfl _ _|exact(H1.box rfl _ _).drew)
  clear z0 z2 z4 z5 z6 z7 H1
  intro W HW
  generalize w1.heap.size=tb at HW⊢
  obtain⟨z0,z2,z4,z5,z6,z7⟩:=HW.facts hop hl rfl rfl
  go_wp2_with fail
  go_quiet (fail)
  have HW2:=HW.drewN nq
  clear z0 z2 z4 z5 z6 z7 HW
  generalize W.drewN nq=W2 at HW2⊢
  obtain⟨z0,z2,z4,z5,z6,z7⟩:=HW2.facts hop hl rfl rfl
  go_wp2_with fail
  refine(HWT.out _ _ HW2).mono ?_
  rintro e w1⟨rfl,H1⟩
  go_wp2_with fail
  refine(Q0r H1 (by have:=HC.out;first|exact Nat.le_trans this (by decide)|(simp[Rn.note,Rn.did,Rn.Q0h,Rn.setB,Rn.waited,Rn.goto,Rn.Q0d];omega)) 4 0).mono ?_
  rintro e w2⟨rfl,H2⟩
  go_wp2_with fail
  refine(Q1x H2 true).mono ?_
  rintro e w3⟨rfl,H3⟩
  go_wp2_with fail
  go_end0
  exact⟨rfl,H3.Q0N⟩
attribute [local go_sem↓] Go.wp_at_zero Go.wp_at_succ
def Rn.Q0E(s:Rn)(ok:Bool):Rn:=(((s.did (doA s.L ⟨3,3,1,0,0⟩)).note 8 0).wake 3).fin ok
theorem X2w{S0:List Nat}{w0 w:World}{m a r:Nat}{rs:List Res}{s:Rn}(H:Q0a S0 w0 m a r rs s w)(hc:s.notes.length≤900)(ok:Bool):
 Calls Tryz.prog 138 #[.pointer (some ⟨r,0,none⟩), .bool ok] w fun e w'=>e= .returned (.tuple #[])∧Q0a S0 w0 m a r rs (s.Q0E ok) w':=by
 have HC:=Lib.hid hc
 have HH:=Lib.hid H
 clear hc H
 go_enter Tryz.func138,Tryz.ntmps138
 go_wp2_with fail
 refine(Q2f HH.out 3 1 (by decide)).mono ?_
 rintro e w1⟨rfl,H1⟩
 go_wp2_with fail
 refine(Q0r H1 (by have:=HC.out;first|exact Nat.le_trans this (by decide)|(simp[Rn.note,Rn.did,Rn.Q0h,Rn.setB,Rn.waited,Rn.goto,Rn.Q0d];omega)) 8 0).mono ?_
 rintro e w2⟨rfl,H2⟩
 go_wp2_with fail
 refine(Q3l H2 3).mono ?_
 rintro e w3⟨rfl,H3⟩
 go_wp2_with fail
 refine(Q1x H3 ok).mono ?_
 rintro e w4⟨rfl,H4⟩
 go_wp2_with fail
 go_end0
 exact⟨rfl,H4⟩
def Y5u(s:Rn):Rn:=
 ((s.did (doA s.L ⟨1,4,0,0,0⟩)).setB (doA s.L ⟨1,4,0,0,0⟩).1.old).goto 1
theorem pf_40{S0:List Nat}{w0 w:World}{m a r:Nat}{rs:List Res}{s:Rn}(H:Q0a S0 w0 m a r rs s w)(hop:s.f.op=4)(hl:s.f.line=0)(hn:I64 s.n)(ha:0≤s.f.a∧s.f.a<4294967296)(hb:0≤s.f.b∧s.f.b<4294967296)(hc:s.notes.length≤900):
 Calls Tryz.prog 97 #[.pointer (some ⟨r,0,none⟩)] w fun e w'=>e= .returned (.tuple #[])∧Q0a S0 w0 m a r rs (Y5u s) w':=by
 obtain⟨z0,z2,z4,z5,z6,z7⟩:=H.facts hop hl rfl rfl
 have HC:=Lib.hid hc
 have HA:=Lib.hid ha
 have HBB:=Lib.hid hb
 have HN:=Lib.hid hn
 have HH:=Lib.hid H
 clear hc H hn ha hb
 unfold Y5u
 (try dsimp only)
 go_enter Tryz.func97,Tryz.ntmps97
 go_wp2_with fail
 refine(Q1g _ _ HBB.out).mono ?_
 rintro e w1⟨rfl,rfl⟩
 go_wp2_with fail
 go_quiet (fail)
 have HW:=HH.out.drewN nq
 clear z0 z2 z4 z5 z6 z7
 generalize w.drewN nq=W at HW⊢
 obtain⟨z0,z2,z4,z5,z6,z7⟩:=HW.facts hop hl rfl rfl
 go_wp2_with fail
 refine(Q1r HW 4).mono ?_
 rintro e w1⟨rfl,H1⟩
 obtain⟨x0,x2,x4,x5,x6,x7⟩:=H1.facts hop hl rfl rfl
 go_wp2_with fail
 refine(Q1j (H1.setB (doA s.L ⟨1,4,0,0,0⟩).1.old) 1).mono ?_
 rintro e w2⟨rfl,H2⟩
 go_wp2_with fail
 go_end0
 exact⟨rfl,H2⟩
def Y5t(s:Rn):Rn:=
 (((s.did (doA s.L ⟨3,0,(-pfP s.f.b%4294967296),0,0⟩)).note 7 0).wake 0).goto 2
theorem pf_41{S0:List Nat}{w0 w:World}{m a r:Nat}{rs:List Res}{s:Rn}(H:Q0a S0 w0 m a r rs s w)(hop:s.f.op=4)(hl:s.f.line=1)(hn:I64 s.n)(ha:0≤s.f.a∧s.f.a<4294967296)(hb:0≤s.f.b∧s.f.b<4294967296)(hc:s.notes.length≤900):
 Calls Tryz.prog 97 #[.pointer (some ⟨r,0,none⟩)] w fun e w'=>e= .returned (.tuple #[])∧Q0a S0 w0 m a r rs (Y5t s) w':=by
 obtain⟨z0,z2,z4,z5,z6,z7⟩:=H.facts hop hl rfl rfl
 have HC:=Lib.hid hc
 have HA:=Lib.hid ha
 have HBB:=Lib.hid hb
 have HN:=Lib.hid hn
 have HH:=Lib.hid H
 clear hc H hn ha hb
 unfold Y5t
 (try dsimp only)
 go_enter Tryz.func97,Tryz.ntmps97
 go_wp2_with fail
 refine(Q1g _ _ HBB.out).mono ?_
 rintro e w1⟨rfl,rfl⟩
 go_wp2_with fail
 go_quiet (fail)
 have HW:=HH.out.drewN nq
 clear z0 z2 z4 z5 z6 z7
 generalize w.drewN nq=W at HW⊢
 obtain⟨z0,z2,z4,z5,z6,z7⟩:=HW.facts hop hl rfl rfl
 go_wp2_with fail
 refine(Q2f HW 0 (-pfP s.f.b%4294967296) (by omega)).mono ?_
 rintro e w1⟨rfl,H1⟩
 go_wp2_with fail
 refine(Q0r H1 (by have:=HC.out;first|exact Nat.le_trans this (by decide)|(simp[Rn.note,Rn.did,Rn.Q0h,Rn.setB,Rn.waited,Rn.goto,Rn.Q0d];omega)) 7 0).mono ?_
 rintro e w2⟨rfl,H2⟩
 go_wp2_with fail
 refine(Q3l H2 0).mono ?_
 rintro e w3⟨rfl,H3⟩
 go_wp2_with fail
 refine(Q1j H3 2).mono ?_
 rintro e w4⟨rfl,H4⟩
 go_wp2_with fail
 go_end0
 exact⟨rfl,H4⟩
def Y5s(s:Rn):Rn:=
 (s.did (doA s.L ⟨2,4,(s.f.b+1)%4294967296,0,0⟩)).goto 3
theorem pf_42{S0:List Nat}{w0 w:World}{m a r:Nat}{rs:List Res}{s:Rn}(H:Q0a S0 w0 m a r rs s w)(hop:s.f.op=4)(hl:s.f.line=2)(hn:I64 s.n)(ha:0≤s.f.a∧s.f.a<4294967296)(hb:0≤s.f.b∧s.f.b<4294967296)(hc:s.notes.length≤900):
 Calls Tryz.prog 97 #[.pointer (some ⟨r,0,none⟩)] w fun e w'=>e= .returned (.tuple #[])∧Q0a S0 w0 m a r rs (Y5s s) w':=by
 obtain⟨z0,z2,z4,z5,z6,z7⟩:=H.facts hop hl rfl rfl
 have HC:=Lib.hid hc
 have HA:=Lib.hid ha
 have HBB:=Lib.hid hb
 have HN:=Lib.hid hn
 have HH:=Lib.hid H
 clear hc H hn ha hb
 unfold Y5s
 (try dsimp only)
 go_enter Tryz.func97,Tryz.ntmps97
 go_wp2_with fail
 refine(Q1g _ _ HBB.out).mono ?_
 rintro e w1⟨rfl,rfl⟩
 go_wp2_with fail
 go_quiet (fail)
 have HW:=HH.out.drewN nq
 clear z0 z2 z4 z5 z6 z7
 generalize w.drewN nq=W at HW⊢
 obtain⟨z0,z2,z4,z5,z6,z7⟩:=HW.facts hop hl rfl rfl
 go_wp2_with fail
 refine(Q4l HW 4 ((s.f.b+1)%4294967296) (by omega)).mono ?_
 rintro e w1⟨rfl,H1⟩
 go_wp2_with fail
 refine(Q1j H1 3).mono ?_
 rintro e w2⟨rfl,H2⟩
 go_wp2_with fail
 go_end0
 exact⟨rfl,H2⟩
def Y5r(s:Rn):Rn:=
 s.Q0E true
theorem pf_43{S0:List Nat}{w0 w:World}{m a r:Nat}{rs:List Res}{s:Rn}(H:Q0a S0 w0 m a r rs s w)(hop:s.f.op=4)(hl:s.f.line=3)(hn:I64 s.n)(ha:0≤s.f.a∧s.f.a<4294967296)(hb:0≤s.f.b∧s.f.b<4294967296)(hc:s.notes.length≤900):
 Calls Tryz.prog 97 #[.pointer (some ⟨r,0,none⟩)] w fun e w'=>e= .returned (.tuple #[])∧Q0a S0 w0 m a r rs (Y5r s) w':=by
 obtain⟨z0,z2,z4,z5,z6,z7⟩:=H.facts hop hl rfl rfl
 have HC:=Lib.hid hc
 have HA:=Lib.hid ha
 have HBB:=Lib.hid hb
 have HN:=Lib.hid hn
 have HH:=Lib.hid H
 clear hc H hn ha hb
 unfold Y5r
 (try dsimp only)
 go_enter Tryz.func97,Tryz.ntmps97
 go_wp2_with fail
 refine(Q1g _ _ HBB.out).mono ?_
 rintro e w1⟨rfl,rfl⟩
 go_wp2_with fail
 go_quiet (fail)
 have HW:=HH.out.drewN nq
 clear z0 z2 z4 z5 z6 z7
 generalize w.drewN nq=W at HW⊢
 obtain⟨z0,z2,z4,z5,z6,z7⟩:=HW.facts hop hl rfl rfl
 go_wp2_with fail
 refine(X2w HW HC.out true).mono ?_
 rintro e w1⟨rfl,H1⟩
 go_wp2_with fail
 go_end0
 exact⟨rfl,H1⟩
def Y5q(s:Rn):Rn:=
 ((s.did (doA s.L ⟨1,4,0,0,0⟩)).setB (doA s.L ⟨1,4,0,0,0⟩).1.old).goto 1
theorem pf_80{S0:List Nat}{w0 w:World}{m a r:Nat}{rs:List Res}{s:Rn}(H:Q0a S0 w0 m a r rs s w)(hop:s.f.op=8)(hl:s.f.line=0)(hn:I64 s.n)(ha:0≤s.f.a∧s.f.a<4294967296)(hb:0≤s.f.b∧s.f.b<4294967296)(hc:s.notes.length≤900):
 Calls Tryz.prog 97 #[.pointer (some ⟨r,0,none⟩)] w fun e w'=>e= .returned (.tuple #[])∧Q0a S0 w0 m a r rs (Y5q s) w':=by
 obtain⟨z0,z2,z4,z5,z6,z7⟩:=H.facts hop hl rfl rfl
 have HC:=Lib.hid hc
 have HA:=Lib.hid ha
 have HBB:=Lib.hid hb
 have HN:=Lib.hid hn
 have HH:=Lib.hid H
 clear hc H hn ha hb
 unfold Y5q
 (try dsimp only)
 go_enter Tryz.func97,Tryz.ntmps97
 go_wp2_with fail
 refine(Q1g _ _ HBB.out).mono ?_
 rintro e w1⟨rfl,rfl⟩
 go_wp2_with fail
 go_quiet (fail)
 have HW:=HH.out.drewN nq
 clear z0 z2 z4 z5 z6 z7
 generalize w.drewN nq=W at HW⊢
 obtain⟨z0,z2,z4,z5,z6,z7⟩:=HW.facts hop hl rfl rfl
 go_wp2_with fail
 refine(Q1r HW 4).mono ?_
 rintro e w1⟨rfl,H1⟩
 obtain⟨x0,x2,x4,x5,x6,x7⟩:=H1.facts hop hl rfl rfl
 go_wp2_with fail
 refine(Q1j (H1.setB (doA s.L ⟨1,4,0,0,0⟩).1.old) 1).mono ?_
 rintro e w2⟨rfl,H2⟩
 go_wp2_with fail
 go_end0
 exact⟨rfl,H2⟩
def Y5p(s:Rn):Rn:=
 (((s.did (doA s.L ⟨3,0,((256-pfP s.f.b)%4294967296),0,0⟩)).note 10 0).wake 0).goto 2
theorem pf_81{S0:List Nat}{w0 w:World}{m a r:Nat}{rs:List Res}{s:Rn}(H:Q0a S0 w0 m a r rs s w)(hop:s.f.op=8)(hl:s.f.line=1)(hn:I64 s.n)(ha:0≤s.f.a∧s.f.a<4294967296)(hb:0≤s.f.b∧s.f.b<4294967296)(hc:s.notes.length≤900):
 Calls Tryz.prog 97 #[.pointer (some ⟨r,0,none⟩)] w fun e w'=>e= .returned (.tuple #[])∧Q0a S0 w0 m a r rs (Y5p s) w':=by
 obtain⟨z0,z2,z4,z5,z6,z7⟩:=H.facts hop hl rfl rfl
 have HC:=Lib.hid hc
 have HA:=Lib.hid ha
 have HBB:=Lib.hid hb
 have HN:=Lib.hid hn
 have HH:=Lib.hid H
 clear hc H hn ha hb
 unfold Y5p
 (try dsimp only)
 go_enter Tryz.func97,Tryz.ntmps97
 go_wp2_with fail
 refine(Q1g _ _ HBB.out).mono ?_
 rintro e w1⟨rfl,rfl⟩
 go_wp2_with fail
 go_quiet (fail)
 have HW:=HH.out.drewN nq
 clear z0 z2 z4 z5 z6 z7
 generalize w.drewN nq=W at HW⊢
 obtain⟨z0,z2,z4,z5,z6,z7⟩:=HW.facts hop hl rfl rfl
 go_wp2_with fail
 refine(Q2f HW 0 ((256-pfP s.f.b)%4294967296) (by omega)).mono ?_
 rintro e w1⟨rfl,H1⟩
 go_wp2_with fail
 refine(Q0r H1 (by have:=HC.out;first|exact Nat.le_trans this (by decide)|(simp[Rn.note,Rn.did,Rn.Q0h,Rn.setB,Rn.waited,Rn.goto,Rn.Q0d];omega)) 10 0).mono ?_
 rintro e w2⟨rfl,H2⟩
 go_wp2_with fail
 refine(Q3l H2 0).mono ?_
 rintro e w3⟨rfl,H3⟩
 go_wp2_with fail
 refine(Q1j H3 2).mono ?_
 rintro e w4⟨rfl,H4⟩
 go_wp2_with fail
 go_end0
 exact⟨rfl,H4⟩
def Y5o(s:Rn):Rn:=
 (s.did (doA s.L ⟨2,4,(s.f.b+1)%4294967296,0,0⟩)).goto 3
theorem pf_82{S0:List Nat}{w0 w:World}{m a r:Nat}{rs:List Res}{s:Rn}(H:Q0a S0 w0 m a r rs s w)(hop:s.f.op=8)(hl:s.f.line=2)(hn:I64 s.n)(ha:0≤s.f.a∧s.f.a<4294967296)(hb:0≤s.f.b∧s.f.b<4294967296)(hc:s.notes.length≤900):
 Calls Tryz.prog 97 #[.pointer (some ⟨r,0,none⟩)] w fun e w'=>e= .returned (.tuple #[])∧Q0a S0 w0 m a r rs (Y5o s) w':=by
 obtain⟨z0,z2,z4,z5,z6,z7⟩:=H.facts hop hl rfl rfl
 have HC:=Lib.hid hc
 have HA:=Lib.hid ha
 have HBB:=Lib.hid hb
 have HN:=Lib.hid hn
 have HH:=Lib.hid H
 clear hc H hn ha hb
 unfold Y5o
 (try dsimp only)
 go_enter Tryz.func97,Tryz.ntmps97
 go_wp2_with fail
 refine(Q1g _ _ HBB.out).mono ?_
 rintro e w1⟨rfl,rfl⟩
 go_wp2_with fail
 go_quiet (fail)
 have HW:=HH.out.drewN nq
 clear z0 z2 z4 z5 z6 z7
 generalize w.drewN nq=W at HW⊢
 obtain⟨z0,z2,z4,z5,z6,z7⟩:=HW.facts hop hl rfl rfl
 go_wp2_with fail
 refine(Q4l HW 4 ((s.f.b+1)%4294967296) (by omega)).mono ?_
 rintro e w1⟨rfl,H1⟩
 go_wp2_with fail
 refine(Q1j H1 3).mono ?_
 rintro e w2⟨rfl,H2⟩
 go_wp2_with fail
 go_end0
 exact⟨rfl,H2⟩
def Y5n(s:Rn):Rn:=
 s.Q0E true
theorem pf_83{S0:List Nat}{w0 w:World}{m a r:Nat}{rs:List Res}{s:Rn}(H:Q0a S0 w0 m a r rs s w)(hop:s.f.op=8)(hl:s.f.line=3)(hn:I64 s.n)(ha:0≤s.f.a∧s.f.a<4294967296)(hb:0≤s.f.b∧s.f.b<4294967296)(hc:s.notes.length≤900):
 Calls Tryz.prog 97 #[.pointer (some ⟨r,0,none⟩)] w fun e w'=>e= .returned (.tuple #[])∧Q0a S0 w0 m a r rs (Y5n s) w':=by
 obtain⟨z0,z2,z4,z5,z6,z7⟩:=H.facts hop hl rfl rfl
 have HC:=Lib.hid hc
 have HA:=Lib.hid ha
 have HBB:=Lib.hid hb
 have HN:=Lib.hid hn
 have HH:=Lib.hid H
 clear hc H hn ha hb
 unfold Y5n
 (try dsimp only)
 go_enter Tryz.func97,Tryz.ntmps97
 go_wp2_with fail
 refine(Q1g _ _ HBB.out).mono ?_
 rintro e w1⟨rfl,rfl⟩
 go_wp2_with fail
 go_quiet (fail)
 have HW:=HH.out.drewN nq
 clear z0 z2 z4 z5 z6 z7
 generalize w.drewN nq=W at HW⊢
 obtain⟨z0,z2,z4,z5,z6,z7⟩:=HW.facts hop hl rfl rfl
 go_wp2_with fail
 refine(X2w HW HC.out true).mono ?_
 rintro e w1⟨rfl,H1⟩
 go_wp2_with fail
 go_end0
 exact⟨rfl,H1⟩
attribute [local go_sem↓] Go.wp_at_zero Go.wp_at_succ
def Y2s(s:Rn):Rn:=
 ((s.did (doA s.L ⟨1,2,0,0,0⟩)).Q0h (doA s.L ⟨1,2,0,0,0⟩).1.old).goto 1
theorem Y6O{S0:List Nat}{w0 w:World}{m a r:Nat}{rs:List Res}{s:Rn}(H:Q0a S0 w0 m a r rs s w){o:Int}(hop:s.f.op=o)(hl:s.f.line=0)(hn:I64 s.n)(ha:0≤s.f.a∧s.f.a<4294967296)(hb:0≤s.f.b∧s.f.b<4294967296)(hc:s.notes.length≤900):
 Calls Tryz.prog 139 #[.pointer (some ⟨r,0,none⟩)] w fun e w'=>e= .returned (.tuple #[])∧Q0a S0 w0 m a r rs (Y2s s) w':=by
 obtain⟨z0,z2,z4,z5,z6,z7⟩:=H.facts hop hl rfl rfl
 have HC:=Lib.hid hc
 have HA:=Lib.hid ha
 have HBB:=Lib.hid hb
 have HN:=Lib.hid hn
 have HH:=Lib.hid H
 clear hc H hn ha hb
 unfold Y2s
 (try dsimp only)
 go_enter Tryz.func139,Tryz.ntmps139
 go_wp2_with fail
 refine(Q1r HH.out 2).mono ?_
 rintro e w1⟨rfl,H1⟩
 obtain⟨x0,x2,x4,x5,x6,x7⟩:=H1.facts hop hl rfl rfl
 go_wp2_with fail
 refine(Q1j (H1.Q0h (doA s.L ⟨1,2,0,0,0⟩).1.old) 1).mono ?_
 rintro e w2⟨rfl,H2⟩
 go_wp2_with fail
 go_end0
 exact⟨rfl,H2⟩
def Y2p(s:Rn):Rn:=
 ((s.did (doA s.L ⟨1,0,0,0,0⟩)).Q0h (doA s.L ⟨1,0,0,0,0⟩).1.old).goto 4
theorem Y6L{S0:List Nat}{w0 w:World}{m a r:Nat}{rs:List Res}{s:Rn}(H:Q0a S0 w0 m a r rs s w){o:Int}(hop:s.f.op=o)(hl:s.f.line=3)(hn:I64 s.n)(ha:0≤s.f.a∧s.f.a<4294967296)(hb:0≤s.f.b∧s.f.b<4294967296)(hc:s.notes.length≤900):
 Calls Tryz.prog 139 #[.pointer (some ⟨r,0,none⟩)] w fun e w'=>e= .returned (.tuple #[])∧Q0a S0 w0 m a r rs (Y2p s) w':=by
 obtain⟨z0,z2,z4,z5,z6,z7⟩:=H.facts hop hl rfl rfl
 have HC:=Lib.hid hc
 have HA:=Lib.hid ha
 have HBB:=Lib.hid hb
 have HN:=Lib.hid hn
 have HH:=Lib.hid H
 clear hc H hn ha hb
 unfold Y2p
 (try dsimp only)
 go_enter Tryz.func139,Tryz.ntmps139
 go_wp2_with fail
 refine(Q1r HH.out 0).mono ?_
 rintro e w1⟨rfl,H1⟩
 obtain⟨x0,x2,x4,x5,x6,x7⟩:=H1.facts hop hl rfl rfl
 go_wp2_with fail
 refine(Q1j (H1.Q0h (doA s.L ⟨1,0,0,0,0⟩).1.old) 4).mono ?_
 rintro e w2⟨rfl,H2⟩
 go_wp2_with fail
 go_end0
 exact⟨rfl,H2⟩
def Y2o(s:Rn):Rn:=
 ((s.did (doA s.L ⟨1,4,0,0,0⟩)).setB (doA s.L ⟨1,4,0,0,0⟩).1.old).goto 6
theorem Y6I{S0:List Nat}{w0 w:World}{m a r:Nat}{rs:List Res}{s:Rn}(H:Q0a S0 w0 m a r rs s w){o:Int}(hop:s.f.op=o)(hl:s.f.line=5)(hn:I64 s.n)(ha:0≤s.f.a∧s.f.a<4294967296)(hb:0≤s.f.b∧s.f.b<4294967296)(hc:s.notes.length≤900):
 Calls Tryz.prog 139 #[.pointer (some ⟨r,0,none⟩)] w fun e w'=>e= .returned (.tuple #[])∧Q0a S0 w0 m a r rs (Y2o s) w':=by
 obtain⟨z0,z2,z4,z5,z6,z7⟩:=H.facts hop hl rfl rfl
 have HC:=Lib.hid hc
 have HA:=Lib.hid ha
 have HBB:=Lib.hid hb
 have HN:=Lib.hid hn
 have HH:=Lib.hid H
 clear hc H hn ha hb
 unfold Y2o
 (try dsimp only)
 go_enter Tryz.func139,Tryz.ntmps139
 go_wp2_with fail
 refine(Q1r HH.out 4).mono ?_
 rintro e w1⟨rfl,H1⟩
 obtain⟨x0,x2,x4,x5,x6,x7⟩:=H1.facts hop hl rfl rfl
 go_wp2_with fail
 refine(Q1j (H1.setB (doA s.L ⟨1,4,0,0,0⟩).1.old) 6).mono ?_
 rintro e w2⟨rfl,H2⟩
 go_wp2_with fail
 go_end0
 exact⟨rfl,H2⟩
def Y2n(s:Rn):Rn:=
 (((s.did (doA s.L ⟨3,0,pfP s.f.b,0,0⟩)).Q0h (doA s.L ⟨3,0,pfP s.f.b,0,0⟩).1.old).note 3 0).goto 7
theorem Y6H{S0:List Nat}{w0 w:World}{m a r:Nat}{rs:List Res}{s:Rn}(H:Q0a S0 w0 m a r rs s w){o:Int}(hop:s.f.op=o)(hl:s.f.line=6)(hn:I64 s.n)(ha:0≤s.f.a∧s.f.a<4294967296)(hb:0≤s.f.b∧s.f.b<4294967296)(hc:s.notes.length≤900):
 Calls Tryz.prog 139 #[.pointer (some ⟨r,0,none⟩)] w fun e w'=>e= .returned (.tuple #[])∧Q0a S0 w0 m a r rs (Y2n s) w':=by
 obtain⟨z0,z2,z4,z5,z6,z7⟩:=H.facts hop hl rfl rfl
 have HC:=Lib.hid hc
 have HA:=Lib.hid ha
 have HBB:=Lib.hid hb
 have HN:=Lib.hid hn
 have HH:=Lib.hid H
 clear hc H hn ha hb
 unfold Y2n
 (try dsimp only)
 go_enter Tryz.func139,Tryz.ntmps139
 go_wp2_with fail
 refine(Q1g _ _ HBB.out).mono ?_
 rintro e w9⟨rfl,rfl⟩
 go_wp2_with fail
 refine(Q2f HH.out 0 (pfP s.f.b) (by have:0≤pfP s.f.b∧pfP s.f.b<4294967296:=(by unfold pfP;omega);omega)).mono ?_
 rintro e w1⟨rfl,H1⟩
 obtain⟨x0,x2,x4,x5,x6,x7⟩:=H1.facts hop hl rfl rfl
 go_wp2_with fail
 refine(Q0r (H1.Q0h (doA s.L ⟨3,0,pfP s.f.b,0,0⟩).1.old) (by have:=HC.out;first|exact Nat.le_trans this (by decide)|(simp[Rn.note,Rn.did,Rn.Q0h,Rn.setB,Rn.waited,Rn.goto,Rn.Q0d];omega)) 3 0).mono ?_
 rintro e w2⟨rfl,H2⟩
 go_wp2_with fail
 refine(Q1j H2 7).mono ?_
 rintro e w3⟨rfl,H3⟩
 go_wp2_with fail
 go_end0
 exact⟨rfl,H3⟩
def Y2m(s:Rn):Rn:=
 s.Q0E false
theorem Y6C{S0:List Nat}{w0 w:World}{m a r:Nat}{rs:List Res}{s:Rn}(H:Q0a S0 w0 m a r rs s w){o:Int}(hop:s.f.op=o)(hl:s.f.line=9)(hn:I64 s.n)(ha:0≤s.f.a∧s.f.a<4294967296)(hb:0≤s.f.b∧s.f.b<4294967296)(hc:s.notes.length≤900):
 Calls Tryz.prog 139 #[.pointer (some ⟨r,0,none⟩)] w fun e w'=>e= .returned (.tuple #[])∧Q0a S0 w0 m a r rs (Y2m s) w':=by
 obtain⟨z0,z2,z4,z5,z6,z7⟩:=H.facts hop hl rfl rfl
 have HC:=Lib.hid hc
 have HA:=Lib.hid ha
 have HBB:=Lib.hid hb
 have HN:=Lib.hid hn
 have HH:=Lib.hid H
 clear hc H hn ha hb
 unfold Y2m
 (try dsimp only)
 go_enter Tryz.func139,Tryz.ntmps139
 go_wp2_with fail
 refine(X2w HH.out HC.out false).mono ?_
 rintro e w1⟨rfl,H1⟩
 go_wp2_with fail
 go_end0
 exact⟨rfl,H1⟩
def Y2q(s:Rn):Rn:=
 if Q7N s.L 2 s.f.a ((s.f.a+1)%4294967296)then((s.did (doA s.L ⟨5,2,s.f.a,(s.f.a+1)%4294967296,0⟩)).note 2 2).goto 3 else(s.did (doA s.L ⟨5,2,s.f.a,(s.f.a+1)%4294967296,0⟩)).goto 0
theorem Y6M{S0:List Nat}{w0 w:World}{m a r:Nat}{rs:List Res}{s:Rn}(H:Q0a S0 w0 m a r rs s w){o:Int}(hop:s.f.op=o)(hl:s.f.line=2)(hn:I64 s.n)(ha:0≤s.f.a∧s.f.a<4294967296)(hb:0≤s.f.b∧s.f.b<4294967296)(hc:s.notes.length≤900):
 Calls Tryz.prog 139 #[.pointer (some ⟨r,0,none⟩)] w fun e w'=>e= .returned (.tuple #[])∧Q0a S0 w0 m a r rs (Y2q s) w':=by
 obtain⟨z0,z2,z4,z5,z6,z7⟩:=H.facts hop hl rfl rfl
 have HC:=Lib.hid hc
 have HA:=Lib.hid ha
 have HBB:=Lib.hid hb
 have HN:=Lib.hid hn
 have HH:=Lib.hid H
 clear hc H hn ha hb
 unfold Y2q
 (try dsimp only)
 have hcas:=fun W (H:Q0a S0 w0 m a r rs s W)=>Q6m H 2 s.f.a ((s.f.a+1)%4294967296) HA.out (by have:=HA.out;omega)
 cases hb:Q7N s.L 2 s.f.a ((s.f.a+1)%4294967296)with
 |true=>
  rw[hb]at hcas
  simp only[if_true]
  have HCAS:=Lib.hid hcas
  clear hcas hb
  go_enter Tryz.func139,Tryz.ntmps139
  go_wp2_with fail
  refine Q1a (by kernel_rfl) (by kernel_rfl) ?_
  simp only[Q0G,probes,List.nil_append,List.cons_append,probe]
  go_wp2_with fail
  refine(HCAS.out _ HH.out.drew).mono ?_
  rintro e w1⟨rfl,H1⟩
  go_wp2_with fail
  rw[Q0g]
  rename_i hK
  refine hK _ _ ?_
  clear hK
  go_wp2_with fail
  refine(Q0r H1 (by have:=HC.out;first|exact Nat.le_trans this (by decide)|(simp[Rn.note,Rn.did,Rn.Q0h,Rn.setB,Rn.waited,Rn.goto,Rn.Q0d];omega)) 2 2).mono ?_
  rintro e w2⟨rfl,H2⟩
  go_wp2_with fail
  refine(Q1j H2 3).mono ?_
  rintro e w3⟨rfl,H3⟩
  go_wp2_with fail
  go_end0
  exact⟨rfl,H3⟩
 |false=>
  rw[hb]at hcas
  simp only[Bool.false_eq_true,if_false]
  have HCAS:=Lib.hid hcas
  clear hcas hb
  go_enter Tryz.func139,Tryz.ntmps139
  go_wp2_with fail
  refine Q1a (by kernel_rfl) (by kernel_rfl) ?_
  simp only[Q0G,probes,List.nil_append,List.cons_append,probe]
  go_wp2_with fail
  refine(HCAS.out _ HH.out.drew).mono ?_
  rintro e w1⟨rfl,H1⟩
  go_wp2_with fail
  rw[Q0g]
  rename_i hK
  refine hK _ _ ?_
  clear hK
  go_wp2_with fail
  refine(Q1j H1 0).mono ?_
  rintro e w2⟨rfl,H2⟩
  go_wp2_with fail
  (try simp only[Exit.inBlock,Exit.then]);refine bodyPost_ret (results_none rfl _ _ _) rfl ?_
  exact⟨rfl,H2⟩
def Y2r(s:Rn):Rn:=
 let s1:=(s.did (doA s.L ⟨1,3,0,0,0⟩)).setB (doA s.L ⟨1,3,0,0,0⟩).1.old
 if 0<Q1s s.f.a (doA s.L ⟨1,3,0,0,0⟩).1.old then(s1.note 5 0).fin false else if Q1s s.f.a (doA s.L ⟨1,3,0,0,0⟩).1.old<0 then s1.goto 0 else s1.goto 2
theorem Y6N{S0:List Nat}{w0 w:World}{m a r:Nat}{rs:List Res}{s:Rn}(H:Q0a S0 w0 m a r rs s w){o:Int}(hop:s.f.op=o)(hl:s.f.line=1)(hn:I64 s.n)(ha:0≤s.f.a∧s.f.a<4294967296)(hb:0≤s.f.b∧s.f.b<4294967296)(hc:s.notes.length≤900):
 Calls Tryz.prog 139 #[.pointer (some ⟨r,0,none⟩)] w fun e w'=>e= .returned (.tuple #[])∧Q0a S0 w0 m a r rs (Y2r s) w':=by
 obtain⟨z0,z2,z4,z5,z6,z7⟩:=H.facts hop hl rfl rfl
 have HC:=Lib.hid hc
 have HA:=Lib.hid ha
 have HBB:=Lib.hid hb
 have HN:=Lib.hid hn
 have hv:=H.old ⟨1,3,0,0,0⟩
 have hah:=fun W=>Q5k s.f.a (doA s.L ⟨1,3,0,0,0⟩).1.old W ha hv
 clear hv
 have HH:=Lib.hid H
 clear hc H hn ha hb
 unfold Y2r
 (try dsimp only)
 have HAH:=Lib.hid hah
 clear hah
 generalize Q1s s.f.a (doA s.L ⟨1,3,0,0,0⟩).1.old=n at HAH⊢
 by_cases c1:0<n
 ·rw[if_pos c1]
  go_enter Tryz.func139,Tryz.ntmps139
  go_wp2_with fail
  refine(Q1r HH.out 3).mono ?_
  rintro e w1⟨rfl,H1⟩
  obtain⟨x0,x2,x4,x5,x6,x7⟩:=H1.facts hop hl rfl rfl
  go_wp2_with fail
  refine Q1a (by kernel_rfl) (by kernel_rfl) ?_
  simp only[Q0G,probes,List.nil_append]
  go_wp2_with fail
  refine(HAH.out _).mono ?_
  rintro e w2⟨rfl,rfl⟩
  go_wp2_with fail
  rw[Q0g]
  rename_i hK
  refine hK _ _ ?_
  clear hK
  have H2:=(H1.setB (doA s.L ⟨1,3,0,0,0⟩).1.old).drew
  go_wp2_with fail
  refine(Q0r H2 (by have:=HC.out;first|exact Nat.le_trans this (by decide)|(simp[Rn.note,Rn.did,Rn.Q0h,Rn.setB,Rn.waited,Rn.goto,Rn.Q0d];omega)) 5 0).mono ?_
  rintro e w3⟨rfl,H3⟩
  go_wp2_with fail
  refine(Q1x H3 false).mono ?_
  rintro e w4⟨rfl,H4⟩
  go_wp2_with fail
  go_end0
  exact⟨rfl,H4⟩
 ·rw[if_neg c1]
  by_cases c2:n<0
  ·rw[if_pos c2]
   go_enter Tryz.func139,Tryz.ntmps139
   go_wp2_with fail
   refine(Q1r HH.out 3).mono ?_
   rintro e w1⟨rfl,H1⟩
   obtain⟨x0,x2,x4,x5,x6,x7⟩:=H1.facts hop hl rfl rfl
   go_wp2_with fail
   refine Q1a (by kernel_rfl) (by kernel_rfl) ?_
   simp only[Q0G,probes,List.nil_append]
   go_wp2_with fail
   refine(HAH.out _).mono ?_
   rintro e w2⟨rfl,rfl⟩
   go_wp2_with fail
   rw[Q0g]
   rename_i hK
   refine hK _ _ ?_
   clear hK
   have H2:=(H1.setB (doA s.L ⟨1,3,0,0,0⟩).1.old).drew
   go_wp2_with fail
   refine(Q1j H2 0).mono ?_
   rintro e w3⟨rfl,H3⟩
   go_wp2_with fail
   go_end0
   exact⟨rfl,H3⟩
  ·rw[if_neg c2]
   go_enter Tryz.func139,Tryz.ntmps139
   go_wp2_with fail
   refine(Q1r HH.out 3).mono ?_
   rintro e w1⟨rfl,H1⟩
   obtain⟨x0,x2,x4,x5,x6,x7⟩:=H1.facts hop hl rfl rfl
   go_wp2_with fail
   refine Q1a (by kernel_rfl) (by kernel_rfl) ?_
   simp only[Q0G,probes,List.nil_append]
   go_wp2_with fail
   refine(HAH.out _).mono ?_
   rintro e w2⟨rfl,rfl⟩
   go_wp2_with fail
   rw[Q0g]
   rename_i hK
   refine hK _ _ ?_
   clear hK
   have H2:=(H1.setB (doA s.L ⟨1,3,0,0,0⟩).1.old).drew
   go_wp2_with fail
   refine(Q1j H2 2).mono ?_
   rintro e w3⟨rfl,H3⟩
   go_wp2_with fail
   go_end0
   exact⟨rfl,H3⟩
def X8k(s:Rn):Rn:=
 let s1:=(s.did (doA s.L ⟨1,1,0,0,0⟩)).setB (doA s.L ⟨1,1,0,0,0⟩).1.old
 if 0<Q1s s.f.a (doA s.L ⟨1,1,0,0,0⟩).1.old then(s1.note 5 0).goto 9 else s1.goto 5
theorem X5j{S0:List Nat}{w0 w:World}{m a r:Nat}{rs:List Res}{s:Rn}(H:Q0a S0 w0 m a r rs s w){l:Int}(hop:s.f.op=6)(hl:s.f.line=l)(ha:0≤s.f.a∧s.f.a<4294967296)(hc:s.notes.length≤900):
 Calls Tryz.prog 169 #[.pointer (some ⟨r,0,none⟩)] w fun e w'=>e= .returned (.tuple #[])∧Q0a S0 w0 m a r rs (X8k s) w':=by
 have hv:=H.old ⟨1,1,0,0,0⟩
 have hah:=fun W=>Q5k s.f.a (doA s.L ⟨1,1,0,0,0⟩).1.old W ha hv
 have HC:=Lib.hid hc
 have HAH:=Lib.hid hah
 have HH:=Lib.hid H
 clear hv hah hc H ha
 unfold X8k
 dsimp only
 generalize Q1s s.f.a (doA s.L ⟨1,1,0,0,0⟩).1.old=n at HAH⊢
 have hw0:IntKind.i64.wrap 0=0:=by decide
 by_cases c1:0<n
 ·rw[if_pos c1]
  have d1:decide (0<n)=true:=by simpa using c1
  have HD1:=Lib.hid c1
  clear c1
  go_enter Tryz.func169,Tryz.ntmps169
  go_wp2_with fail
  refine(Q1r HH.out 1).mono ?_
  rintro e w1⟨rfl,H1⟩
  obtain⟨x0,x2,x4,x5,x6,x7⟩:=H1.facts hop hl rfl rfl
  go_wp2_with fail
  have H2:=(H1.setB (doA s.L ⟨1,1,0,0,0⟩).1.old).drew
  have hd6:((w1.setCell ⟨r,7,none⟩ (.int .u32 (doA s.L ⟨1,1,0,0,0⟩).1.old)).drew).cell? ⟨r,6,none⟩=some (.int .u32 s.f.a):=(H2.facts hop hl rfl rfl).2.2.2.2.1
  have hd7:((w1.setCell ⟨r,7,none⟩ (.int .u32 (doA s.L ⟨1,1,0,0,0⟩).1.old)).drew).cell? ⟨r,7,none⟩=some (.int .u32 (doA s.L ⟨1,1,0,0,0⟩).1.old):=(H2.facts hop hl rfl rfl).2.2.2.2.2
  go_region_held3 (fun w'=>w'.cell? ⟨r,6,none⟩=some (.int .u32 s.f.a)∧w'.cell? ⟨r,7,none⟩=some (.int .u32 (doA s.L ⟨1,1,0,0,0⟩).1.old)∧Q0a S0 w0 m a r rs ((s.did (doA s.L ⟨1,1,0,0,0⟩)).setB (doA s.L ⟨1,1,0,0,0⟩).1.old) w')
   (first|(go_split_ands;refine⟨?_,?_,?_⟩<;>assumption))
   (first|(go_at_call 168;(with_reducible refine(HAH.out _).mono ?_);rintro e w4 ⟨rfl,rfl⟩)|(go_at_call 184;refine(Q5f H2 hop hl).mono ?_;rintro e w5 ⟨rfl,rfl⟩))
  all_goals
   go_wp2_with fail
   refine(Q0r H2 (by have:=HC.out;first|exact Nat.le_trans this (by decide)|(simp[Rn.note,Rn.did,Rn.Q0h,Rn.setB,Rn.waited,Rn.goto,Rn.Q0d];omega)) 5 0).mono ?_
   rintro e w3⟨rfl,H3⟩
   go_wp2_with fail
   refine(Q1j H3 9).mono ?_
   rintro e w4⟨rfl,H4⟩
   go_wp2_with fail
   (try simp only[Exit.inBlock,Exit.then]);refine bodyPost_ret (results_none rfl _ _ _) rfl ?_
   exact⟨rfl,H4⟩
 ·rw[if_neg c1]
  have d1:decide (0<n)=false:=by simpa using c1
  clear c1
  go_enter Tryz.func169,Tryz.ntmps169
  go_wp2_with fail
  refine(Q1r HH.out 1).mono ?_
  rintro e w1⟨rfl,H1⟩
  obtain⟨x0,x2,x4,x5,x6,x7⟩:=H1.facts hop hl rfl rfl
  go_wp2_with fail
  have H2:=(H1.setB (doA s.L ⟨1,1,0,0,0⟩).1.old).drew
  have hd6:((w1.setCell ⟨r,7,none⟩ (.int .u32 (doA s.L ⟨1,1,0,0,0⟩).1.old)).drew).cell? ⟨r,6,none⟩=some (.int .u32 s.f.a):=(H2.facts hop hl rfl rfl).2.2.2.2.1
  have hd7:((w1.setCell ⟨r,7,none⟩ (.int .u32 (doA s.L ⟨1,1,0,0,0⟩).1.old)).drew).cell? ⟨r,7,none⟩=some (.int .u32 (doA s.L ⟨1,1,0,0,0⟩).1.old):=(H2.facts hop hl rfl rfl).2.2.2.2.2
  go_region_held3 (fun w'=>w'.cell? ⟨r,6,none⟩=some (.int .u32 s.f.a)∧w'.cell? ⟨r,7,none⟩=some (.int .u32 (doA s.L ⟨1,1,0,0,0⟩).1.old)∧Q0a S0 w0 m a r rs ((s.did (doA s.L ⟨1,1,0,0,0⟩)).setB (doA s.L ⟨1,1,0,0,0⟩).1.old) w')
   (first|(go_split_ands;refine⟨?_,?_,?_⟩<;>assumption))
   (first|(go_at_call 168;(with_reducible refine(HAH.out _).mono ?_);rintro e w4 ⟨rfl,rfl⟩)|(go_at_call 184;refine(Q5f H2 hop hl).mono ?_;rintro e w5 ⟨rfl,rfl⟩))
  all_goals
   go_wp2_with fail
   refine(Q1j H2 5).mono ?_
   rintro e w3⟨rfl,H3⟩
   go_wp2_with fail
   go_end0
   exact⟨rfl,H3⟩
def X5h(s:Rn):Rn:=
 X8k s
theorem Y6K{S0:List Nat}{w0 w:World}{m a r:Nat}{rs:List Res}{s:Rn}(H:Q0a S0 w0 m a r rs s w)(hop:s.f.op=6)(hl:s.f.line=4)(hn:I64 s.n)(ha:0≤s.f.a∧s.f.a<4294967296)(hb:0≤s.f.b∧s.f.b<4294967296)(hc:s.notes.length≤900):
 Calls Tryz.prog 139 #[.pointer (some ⟨r,0,none⟩)] w fun e w'=>e= .returned (.tuple #[])∧Q0a S0 w0 m a r rs (X5h s) w':=by
 obtain⟨z0,z2,z4,z5,z6,z7⟩:=H.facts hop hl rfl rfl
 have HC:=Lib.hid hc
 have HA:=Lib.hid ha
 have HBB:=Lib.hid hb
 have HN:=Lib.hid hn
 have HH:=Lib.hid H
 clear hc H hn ha hb
 unfold X5h
 (try dsimp only)
 go_enter Tryz.func139,Tryz.ntmps139
 go_wp2_with fail
 refine(X5j HH.out hop hl HA.out HC.out).mono ?_
 rintro e w1⟨rfl,H1⟩
 go_wp2_with fail
 go_end0
 exact⟨rfl,H1⟩
def X8j(s:Rn):Rn:=
 let s1:=(s.did (doA s.L ⟨1,1,0,0,0⟩)).setB (doA s.L ⟨1,1,0,0,0⟩).1.old
 if 256<Q1s s.f.a (doA s.L ⟨1,1,0,0,0⟩).1.old then(s1.note 5 0).goto 9 else s1.goto 5
theorem X5i{S0:List Nat}{w0 w:World}{m a r:Nat}{rs:List Res}{s:Rn}(H:Q0a S0 w0 m a r rs s w){l:Int}(hop:s.f.op=7)(hl:s.f.line=l)(ha:0≤s.f.a∧s.f.a<4294967296)(hc:s.notes.length≤900):
 Calls Tryz.prog 169 #[.pointer (some ⟨r,0,none⟩)] w fun e w'=>e= .returned (.tuple #[])∧Q0a S0 w0 m a r rs (X8j s) w':=by
 have hv:=H.old ⟨1,1,0,0,0⟩
 have hah:=fun W=>Q5k s.f.a (doA s.L ⟨1,1,0,0,0⟩).1.old W ha hv
 have HC:=Lib.hid hc
 have HAH:=Lib.hid hah
 have HH:=Lib.hid H
 clear hv hah hc H ha
 unfold X8j
 dsimp only
 generalize Q1s s.f.a (doA s.L ⟨1,1,0,0,0⟩).1.old=n at HAH⊢
 have hw0:IntKind.i64.wrap 256=256:=by decide
 by_cases c1:256<n
 ·rw[if_pos c1]
  have d1:decide (256<n)=true:=by simpa using c1
  have HD1:=Lib.hid c1
  clear c1
  go_enter Tryz.func169,Tryz.ntmps169
  go_wp2_with fail
  refine(Q1r HH.out 1).mono ?_
  rintro e w1⟨rfl,H1⟩
  obtain⟨x0,x2,x4,x5,x6,x7⟩:=H1.facts hop hl rfl rfl
  go_wp2_with fail
  have H2:=(H1.setB (doA s.L ⟨1,1,0,0,0⟩).1.old).drew
  have hd6:((w1.setCell ⟨r,7,none⟩ (.int .u32 (doA s.L ⟨1,1,0,0,0⟩).1.old)).drew).cell? ⟨r,6,none⟩=some (.int .u32 s.f.a):=(H2.facts hop hl rfl rfl).2.2.2.2.1
  have hd7:((w1.setCell ⟨r,7,none⟩ (.int .u32 (doA s.L ⟨1,1,0,0,0⟩).1.old)).drew).cell? ⟨r,7,none⟩=some (.int .u32 (doA s.L ⟨1,1,0,0,0⟩).1.old):=(H2.facts hop hl rfl rfl).2.2.2.2.2
  go_region_held3 (fun w'=>w'.cell? ⟨r,6,none⟩=some (.int .u32 s.f.a)∧w'.cell? ⟨r,7,none⟩=some (.int .u32 (doA s.L ⟨1,1,0,0,0⟩).1.old)∧Q0a S0 w0 m a r rs ((s.did (doA s.L ⟨1,1,0,0,0⟩)).setB (doA s.L ⟨1,1,0,0,0⟩).1.old) w')
   (first|(go_split_ands;refine⟨?_,?_,?_⟩<;>assumption))
   (first|(go_at_call 168;(with_reducible refine(HAH.out _).mono ?_);rintro e w4 ⟨rfl,rfl⟩)|(go_at_call 184;refine(Q5e H2 hop hl).mono ?_;rintro e w5 ⟨rfl,rfl⟩))
  all_goals
   go_wp2_with fail
   refine(Q0r H2 (by have:=HC.out;first|exact Nat.le_trans this (by decide)|(simp[Rn.note,Rn.did,Rn.Q0h,Rn.setB,Rn.waited,Rn.goto,Rn.Q0d];omega)) 5 0).mono ?_
   rintro e w3⟨rfl,H3⟩
   go_wp2_with fail
   refine(Q1j H3 9).mono ?_
   rintro e w4⟨rfl,H4⟩
   go_wp2_with fail
   (try simp only[Exit.inBlock,Exit.then]);refine bodyPost_ret (results_none rfl _ _ _) rfl ?_
   exact⟨rfl,H4⟩
 ·rw[if_neg c1]
  have d1:decide (256<n)=false:=by simpa using c1
  clear c1
  go_enter Tryz.func169,Tryz.ntmps169
  go_wp2_with fail
  refine(Q1r HH.out 1).mono ?_
  rintro e w1⟨rfl,H1⟩
  obtain⟨x0,x2,x4,x5,x6,x7⟩:=H1.facts hop hl rfl rfl
  go_wp2_with fail
  have H2:=(H1.setB (doA s.L ⟨1,1,0,0,0⟩).1.old).drew
  have hd6:((w1.setCell ⟨r,7,none⟩ (.int .u32 (doA s.L ⟨1,1,0,0,0⟩).1.old)).drew).cell? ⟨r,6,none⟩=some (.int .u32 s.f.a):=(H2.facts hop hl rfl rfl).2.2.2.2.1
  have hd7:((w1.setCell ⟨r,7,none⟩ (.int .u32 (doA s.L ⟨1,1,0,0,0⟩).1.old)).drew).cell? ⟨r,7,none⟩=some (.int .u32 (doA s.L ⟨1,1,0,0,0⟩).1.old):=(H2.facts hop hl rfl rfl).2.2.2.2.2
  go_region_held3 (fun w'=>w'.cell? ⟨r,6,none⟩=some (.int .u32 s.f.a)∧w'.cell? ⟨r,7,none⟩=some (.int .u32 (doA s.L ⟨1,1,0,0,0⟩).1.old)∧Q0a S0 w0 m a r rs ((s.did (doA s.L ⟨1,1,0,0,0⟩)).setB (doA s.L ⟨1,1,0,0,0⟩).1.old) w')
   (first|(go_split_ands;refine⟨?_,?_,?_⟩<;>assumption))
   (first|(go_at_call 168;(with_reducible refine(HAH.out _).mono ?_);rintro e w4 ⟨rfl,rfl⟩)|(go_at_call 184;refine(Q5e H2 hop hl).mono ?_;rintro e w5 ⟨rfl,rfl⟩))
  all_goals
   go_wp2_with fail
   refine(Q1j H2 5).mono ?_
   rintro e w3⟨rfl,H3⟩
   go_wp2_with fail
   go_end0
   exact⟨rfl,H3⟩
def X5f(s:Rn):Rn:=
 X8j s
theorem Y6J{S0:List Nat}{w0 w:World}{m a r:Nat}{rs:List Res}{s:Rn}(H:Q0a S0 w0 m a r rs s w)(hop:s.f.op=7)(hl:s.f.line=4)(hn:I64 s.n)(ha:0≤s.f.a∧s.f.a<4294967296)(hb:0≤s.f.b∧s.f.b<4294967296)(hc:s.notes.length≤900):
 Calls Tryz.prog 139 #[.pointer (some ⟨r,0,none⟩)] w fun e w'=>e= .returned (.tuple #[])∧Q0a S0 w0 m a r rs (X5f s) w':=by
 obtain⟨z0,z2,z4,z5,z6,z7⟩:=H.facts hop hl rfl rfl
 have HC:=Lib.hid hc
 have HA:=Lib.hid ha
 have HBB:=Lib.hid hb
 have HN:=Lib.hid hn
 have HH:=Lib.hid H
 clear hc H hn ha hb
 unfold X5f
 (try dsimp only)
 go_enter Tryz.func139,Tryz.ntmps139
 go_wp2_with fail
 refine(X5i HH.out hop hl HA.out HC.out).mono ?_
 rintro e w1⟨rfl,H1⟩
 go_wp2_with fail
 go_end0
 exact⟨rfl,H1⟩
def Q7r(s:Rn):Rn:=
 let s1:=s.waited (Q0t s.L s.n s.mode s.task s.f.st 1 (fun v=>v==s.f.a))
 let s2:=if(Q0t s.L s.n s.mode s.task s.f.st 1 (fun v=>v==s.f.a)).seen then s1.note 4 0 else s1
 if(Q0t s.L s.n s.mode s.task s.f.st 1 (fun v=>v==s.f.a)).done then s2.fin true else s2
theorem Y0Y{S0:List Nat}{w0 w:World}{m a r:Nat}{rs:List Res}{s:Rn}(H:Q0a S0 w0 m a r rs s w){l:Int}(hop:s.f.op=6)(hl:s.f.line=l)(hn:I64 s.n)(ha:0≤s.f.a∧s.f.a<4294967296)(hc:s.notes.length≤900):
 Calls Tryz.prog 170 #[.pointer (some ⟨r,0,none⟩)] w fun e w'=>e= .returned (.tuple #[])∧Q0a S0 w0 m a r rs (Q7r s) w':=by
 obtain⟨z0,z2,z4,z5,z6,z7⟩:=H.facts hop hl rfl rfl
 have HC:=Lib.hid hc
 have HN:=Lib.hid hn
 have HH:=Lib.hid H
 clear hc H hn
 unfold Q7r
 dsimp only
 have hwt:=fun(t2:Nat) W (H:Q0a S0 w0 m a r (.blk t2 #[.int .u32 s.f.a]::rs) s W)=>Q3m H HN.out 1 185 #[] #[.pointer (some ⟨t2,0,none⟩)] (fun v=>v==s.f.a) (enters_of Tryz.func185 (by kernel_rfl) rfl) (fun W v h0 h1 H=>X3L s.f.a v W H.first)
 cases hs:(Q0t s.L s.n s.mode s.task s.f.st 1 (fun v=>v==s.f.a)).seen<;>cases hd:(Q0t s.L s.n s.mode s.task s.f.st 1 (fun v=>v==s.f.a)).done<;>rw[hs,hd]at hwt<;>simp only[if_true,Bool.false_eq_true,if_false]<;>(have HWT:=Lib.hid hwt)<;>clear hwt hs hd
 ·go_enter Tryz.func170,Tryz.ntmps170
  go_wp2_with fail
  refine Q0u 5 rfl (by kernel_rfl) (by kernel_rfl) ?_
  simp only[List.take_succ_cons,List.take_zero,List.drop_succ_cons,List.drop_zero,Q0G,probes,List.nil_append,List.cons_append,probe]
  go_wp2_with fail
  rw[Q0g]
  refine Q0W (.int .u32 0) rfl rfl (enters_of Tryz.func184 (by kernel_rfl) rfl) (by simp[Act.eval]) (fun W t=>Q5f (HH.out.drew.grow t) hop hl) ?_
  simp only[Q0G,probes,List.nil_append,List.cons_append,probe]
  go_wp2_with fail
  rw[Q0g]
  rename_i hK
  refine hK _ _ ?_
  clear hK
  refine Q1q (Facts:=fun V=>Q0a S0 w0 m a r (.blk w.heap.size #[.int .u32 s.f.a]::rs) s V) ?_ (by first|exact HH.out.drew.box rfl _ _|exact(HH.out.box rfl _ _).drew)
  clear z0 z2 z4 z5 z6 z7
  intro W HW2
  generalize w.heap.size=tb at HW2⊢
  obtain⟨z0,z2,z4,z5,z6,z7⟩:=HW2.facts hop hl rfl rfl
  go_wp2_with fail
  refine(HWT.out _ _ HW2).mono ?_
  rintro e w1⟨rfl,H1⟩
  go_wp2_with fail
  go_end0
  exact⟨rfl,H1.Q0N⟩
 ·go_enter Tryz.func170,Tryz.ntmps170
  go_wp2_with fail
  refine Q0u 5 rfl (by kernel_rfl) (by kernel_rfl) ?_
  simp only[List.take_succ_cons,List.take_zero,List.drop_succ_cons,List.drop_zero,Q0G,probes,List.nil_append,List.cons_append,probe]
  go_wp2_with fail
  rw[Q0g]
  refine Q0W (.int .u32 0) rfl rfl (enters_of Tryz.func184 (by kernel_rfl) rfl) (by simp[Act.eval]) (fun W t=>Q5f (HH.out.drew.grow t) hop hl) ?_
  simp only[Q0G,probes,List.nil_append,List.cons_append,probe]
  go_wp2_with fail
  rw[Q0g]
  rename_i hK
  refine hK _ _ ?_
  clear hK
  refine Q1q (Facts:=fun V=>Q0a S0 w0 m a r (.blk w.heap.size #[.int .u32 s.f.a]::rs) s V) ?_ (by first|exact HH.out.drew.box rfl _ _|exact(HH.out.box rfl _ _).drew)
  clear z0 z2 z4 z5 z6 z7
  intro W HW2
  generalize w.heap.size=tb at HW2⊢
  obtain⟨z0,z2,z4,z5,z6,z7⟩:=HW2.facts hop hl rfl rfl
  go_wp2_with fail
  refine(HWT.out _ _ HW2).mono ?_
  rintro e w1⟨rfl,H1⟩
  go_wp2_with fail
  refine(Q1x H1 true).mono ?_
  rintro e w2⟨rfl,H2⟩
  go_wp2_with fail
  go_end0
  exact⟨rfl,H2.Q0N⟩
 ·go_enter Tryz.func170,Tryz.ntmps170
  go_wp2_with fail
  refine Q0u 5 rfl (by kernel_rfl) (by kernel_rfl) ?_
  simp only[List.take_succ_cons,List.take_zero,List.drop_succ_cons,List.drop_zero,Q0G,probes,List.nil_append,List.cons_append,probe]
  go_wp2_with fail
  rw[Q0g]
  refine Q0W (.int .u32 0) rfl rfl (enters_of Tryz.func184 (by kernel_rfl) rfl) (by simp[Act.eval]) (fun W t=>Q5f (HH.out.drew.grow t) hop hl) ?_
  simp only[Q0G,probes,List.nil_append,List.cons_append,probe]
  go_wp2_with fail
  rw[Q0g]
  rename_i hK
  refine hK _ _ ?_
  clear hK
  refine Q1q (Facts:=fun V=>Q0a S0 w0 m a r (.blk w.heap.size #[.int .u32 s.f.a]::rs) s V) ?_ (by first|exact HH.out.drew.box rfl _ _|exact(HH.out.box rfl _ _).drew)
  clear z0 z2 z4 z5 z6 z7
  intro W HW2
  generalize w.heap.size=tb at HW2⊢
  obtain⟨z0,z2,z4,z5,z6,z7⟩:=HW2.facts hop hl rfl rfl
  go_wp2_with fail
  refine(HWT.out _ _ HW2).mono ?_
  rintro e w1⟨rfl,H1⟩
  go_wp2_with fail
  refine(Q0r H1 (by have:=HC.out;first|exact Nat.le_trans this (by decide)|(simp[Rn.note,Rn.did,Rn.Q0h,Rn.setB,Rn.waited,Rn.goto,Rn.Q0d];omega)) 4 0).mono ?_
  rintro e w2⟨rfl,H2⟩
  go_wp2_with fail
  go_end0
  exact⟨rfl,H2.Q0N⟩
 ·go_enter Tryz.func170,Tryz.ntmps170
  go_wp2_with fail
  refine Q0u 5 rfl (by kernel_rfl) (by kernel_rfl) ?_
  simp only[List.take_succ_cons,List.take_zero,List.drop_succ_cons,List.drop_zero,Q0G,probes,List.nil_append,List.cons_append,probe]
  go_wp2_with fail
  rw[Q0g]
  refine Q0W (.int .u32 0) rfl rfl (enters_of Tryz.func184 (by kernel_rfl) rfl) (by simp[Act.eval]) (fun W t=>Q5f (HH.out.drew.grow t) hop hl) ?_
  simp only[Q0G,probes,List.nil_append,List.cons_append,probe]
  go_wp2_with fail
  rw[Q0g]
  rename_i hK
  refine hK _ _ ?_
  clear hK
  refine Q1q (Facts:=fun V=>Q0a S0 w0 m a r (.blk w.heap.size #[.int .u32 s.f.a]::rs) s V) ?_ (by first|exact HH.out.drew.box rfl _ _|exact(HH.out.box rfl _ _).drew)
  clear z0 z2 z4 z5 z6 z7
  intro W HW2
  generalize w.heap.size=tb at HW2⊢
  obtain⟨z0,z2,z4,z5,z6,z7⟩:=HW2.facts hop hl rfl rfl
  go_wp2_with fail
  refine(HWT.out _ _ HW2).mono ?_
  rintro e w1⟨rfl,H1⟩
  go_wp2_with fail
  refine(Q0r H1 (by have:=HC.out;first|exact Nat.le_trans this (by decide)|(simp[Rn.note,Rn.did,Rn.Q0h,Rn.setB,Rn.waited,Rn.goto,Rn.Q0d];omega)) 4 0).mono ?_
  rintro e w2⟨rfl,H2⟩
  go_wp2_with fail
  refine(Q1x H2 true).mono ?_
  rintro e w3⟨rfl,H3⟩
  go_wp2_with fail
  go_end0
  exact⟨rfl,H3.Q0N⟩
def X2v(s:Rn):Rn:=
 Q7r s
theorem Y6G{S0:List Nat}{w0 w:World}{m a r:Nat}{rs:List Res}{s:Rn}(H:Q0a S0 w0 m a r rs s w)(hop:s.f.op=6)(hl:s.f.line=7)(hn:I64 s.n)(ha:0≤s.f.a∧s.f.a<4294967296)(hb:0≤s.f.b∧s.f.b<4294967296)(hc:s.notes.length≤900):
 Calls Tryz.prog 139 #[.pointer (some ⟨r,0,none⟩)] w fun e w'=>e= .returned (.tuple #[])∧Q0a S0 w0 m a r rs (X2v s) w':=by
 obtain⟨z0,z2,z4,z5,z6,z7⟩:=H.facts hop hl rfl rfl
 have HC:=Lib.hid hc
 have HA:=Lib.hid ha
 have HBB:=Lib.hid hb
 have HN:=Lib.hid hn
 have HH:=Lib.hid H
 clear hc H hn ha hb
 unfold X2v
 (try dsimp only)
 go_enter Tryz.func139,Tryz.ntmps139
 go_wp2_with fail
 refine(Y0Y HH.out hop hl HN.out HA.out HC.out).mono ?_
 rintro e w1⟨rfl,H1⟩
 go_wp2_with fail
 go_end0
 exact⟨rfl,H1⟩
def Q7q(s:Rn):Rn:=
 let s1:=s.waited (Q0t s.L s.n s.mode s.task s.f.st 1 (fun v=>v==((s.f.a-256)%4294967296)))
 let s2:=if(Q0t s.L s.n s.mode s.task s.f.st 1 (fun v=>v==((s.f.a-256)%4294967296))).seen then s1.note 9 0 else s1
 if(Q0t s.L s.n s.mode s.task s.f.st 1 (fun v=>v==((s.f.a-256)%4294967296))).done then s2.goto 8 else s2
theorem Y0X{S0:List Nat}{w0 w:World}{m a r:Nat}{rs:List Res}{s:Rn}(H:Q0a S0 w0 m a r rs s w){l:Int}(hop:s.f.op=7)(hl:s.f.line=l)(hn:I64 s.n)(ha:0≤s.f.a∧s.f.a<4294967296)(hc:s.notes.length≤900):
 Calls Tryz.prog 170 #[.pointer (some ⟨r,0,none⟩)] w fun e w'=>e= .returned (.tuple #[])∧Q0a S0 w0 m a r rs (Q7q s) w':=by
 obtain⟨z0,z2,z4,z5,z6,z7⟩:=H.facts hop hl rfl rfl
 have HC:=Lib.hid hc
 have HN:=Lib.hid hn
 have HH:=Lib.hid H
 clear hc H hn
 unfold Q7q
 dsimp only
 have hwt:=fun(t2:Nat) W (H:Q0a S0 w0 m a r (.blk t2 #[.int .u32 ((s.f.a-256)%4294967296)]::rs) s W)=>Q3m H HN.out 1 185 #[] #[.pointer (some ⟨t2,0,none⟩)] (fun v=>v==((s.f.a-256)%4294967296)) (enters_of Tryz.func185 (by kernel_rfl) rfl) (fun W v h0 h1 H=>X3L ((s.f.a-256)%4294967296) v W H.first)
 cases hs:(Q0t s.L s.n s.mode s.task s.f.st 1 (fun v=>v==((s.f.a-256)%4294967296))).seen<;>cases hd:(Q0t s.L s.n s.mode s.task s.f.st 1 (fun v=>v==((s.f.a-256)%4294967296))).done<;>rw[hs,hd]at hwt<;>simp only[if_true,Bool.false_eq_true,if_false]<;>(have HWT:=Lib.hid hwt)<;>clear hwt hs hd
 ·go_enter Tryz.func170,Tryz.ntmps170
  go_wp2_with fail
  refine Q0u 5 rfl (by kernel_rfl) (by kernel_rfl) ?_
  simp only[List.take_succ_cons,List.take_zero,List.drop_succ_cons,List.drop_zero,Q0G,probes,List.nil_append,List.cons_append,probe]
  go_wp2_with fail
  rw[Q0g]
  refine Q0W (.int .u32 256) rfl rfl (enters_of Tryz.func184 (by kernel_rfl) rfl) (by simp[Act.eval]) (fun W t=>Q5e (HH.out.drew.grow t) hop hl) ?_
  simp only[Q0G,probes,List.nil_append,List.cons_append,probe]
  go_wp2_with fail
  rw[Q0g]
  rename_i hK
  refine hK _ _ ?_
  clear hK
  refine Q1q (Facts:=fun V=>Q0a S0 w0 m a r (.blk w.heap.size #[.int .u32 ((s.f.a-256)%4294967296)]::rs) s V) ?_ (by first|exact HH.out.drew.box rfl _ _|exact(HH.out.box rfl _ _).drew)
  clear z0 z2 z4 z5 z6 z7
  intro W HW2
  generalize w.heap.size=tb at HW2⊢
  obtain⟨z0,z2,z4,z5,z6,z7⟩:=HW2.facts hop hl rfl rfl
  go_wp2_with fail
  refine(HWT.out _ _ HW2).mono ?_
  rintro e w1⟨rfl,H1⟩
  go_wp2_with fail
  go_end0
  exact⟨rfl,H1.Q0N⟩
 ·go_enter Tryz.func170,Tryz.ntmps170
  go_wp2_with fail
  refine Q0u 5 rfl (by kernel_rfl) (by kernel_rfl) ?_
  simp only[List.take_succ_cons,List.take_zero,List.drop_succ_cons,List.drop_zero,Q0G,probes,List.nil_append,List.cons_append,probe]
  go_wp2_with fail
  rw[Q0g]
  refine Q0W (.int .u32 256) rfl rfl (enters_of Tryz.func184 (by kernel_rfl) rfl) (by simp[Act.eval]) (fun W t=>Q5e (HH.out.drew.grow t) hop hl) ?_
  simp only[Q0G,probes,List.nil_append,List.cons_append,probe]
  go_wp2_with fail
  rw[Q0g]
  rename_i hK
  refine hK _ _ ?_
  clear hK
  refine Q1q (Facts:=fun V=>Q0a S0 w0 m a r (.blk w.heap.size #[.int .u32 ((s.f.a-256)%4294967296)]::rs) s V) ?_ (by first|exact HH.out.drew.box rfl _ _|exact(HH.out.box rfl _ _).drew)
  clear z0 z2 z4 z5 z6 z7
  intro W HW2
  generalize w.heap.size=tb at HW2⊢
  obtain⟨z0,z2,z4,z5,z6,z7⟩:=HW2.facts hop hl rfl rfl
  go_wp2_with fail
  refine(HWT.out _ _ HW2).mono ?_
  rintro e w1⟨rfl,H1⟩
  go_wp2_with fail
  refine(Q1j H1 8).mono ?_
  rintro e w2⟨rfl,H2⟩
  go_wp2_with fail
  go_end0
  exact⟨rfl,H2.Q0N⟩
 ·go_enter Tryz.func170,Tryz.ntmps170
  go_wp2_with fail
  refine Q0u 5 rfl (by kernel_rfl) (by kernel_rfl) ?_
  simp only[List.take_succ_cons,List.take_zero,List.drop_succ_cons,List.drop_zero,Q0G,probes,List.nil_append,List.cons_append,probe]
  go_wp2_with fail
  rw[Q0g]
  refine Q0W (.int .u32 256) rfl rfl (enters_of Tryz.func184 (by kernel_rfl) rfl) (by simp[Act.eval]) (fun W t=>Q5e (HH.out.drew.grow t) hop hl) ?_
  simp only[Q0G,probes,List.nil_append,List.cons_append,probe]
  go_wp2_with fail
  rw[Q0g]
  rename_i hK
  refine hK _ _ ?_
  clear hK
  refine Q1q (Facts:=fun V=>Q0a S0 w0 m a r (.blk w.heap.size #[.int .u32 ((s.f.a-256)%4294967296)]::rs) s V) ?_ (by first|exact HH.out.drew.box rfl _ _|exact(HH.out.box rfl _ _).drew)
  clear z0 z2 z4 z5 z6 z7
  intro W HW2
  generalize w.heap.size=tb at HW2⊢
  obtain⟨z0,z2,z4,z5,z6,z7⟩:=HW2.facts hop hl rfl rfl
  go_wp2_with fail
  refine(HWT.out _ _ HW2).mono ?_
  rintro e w1⟨rfl,H1⟩
  go_wp2_with fail
  refine(Q0r H1 (by have:=HC.out;first|exact Nat.le_trans this (by decide)|(simp[Rn.note,Rn.did,Rn.Q0h,Rn.setB,Rn.waited,Rn.goto,Rn.Q0d];omega)) 9 0).mono ?_
  rintro e w2⟨rfl,H2⟩
  go_wp2_with fail
  go_end0
  exact⟨rfl,H2.Q0N⟩
 ·go_enter Tryz.func170,Tryz.ntmps170
  go_wp2_with fail
  refine Q0u 5 rfl (by kernel_rfl) (by kernel_rfl) ?_
  simp only[List.take_succ_cons,List.take_zero,List.drop_succ_cons,List.drop_zero,Q0G,probes,List.nil_append,List.cons_append,probe]
  go_wp2_with fail
  rw[Q0g]
  refine Q0W (.int .u32 256) rfl rfl (enters_of Tryz.func184 (by kernel_rfl) rfl) (by simp[Act.eval]) (fun W t=>Q5e (HH.out.drew.grow t) hop hl) ?_
  simp only[Q0G,probes,List.nil_append,List.cons_append,probe]
  go_wp2_with fail
  rw[Q0g]
  rename_i hK
  refine hK _ _ ?_
  clear hK
  refine Q1q (Facts:=fun V=>Q0a S0 w0 m a r (.blk w.heap.size #[.int .u32 ((s.f.a-256)%4294967296)]::rs) s V) ?_ (by first|exact HH.out.drew.box rfl _ _|exact(HH.out.box rfl _ _).drew)
  clear z0 z2 z4 z5 z6 z7
  intro W HW2
  generalize w.heap.size=tb at HW2⊢
  obtain⟨z0,z2,z4,z5,z6,z7⟩:=HW2.facts hop hl rfl rfl
  go_wp2_with fail
  refine(HWT.out _ _ HW2).mono ?_
  rintro e w1⟨rfl,H1⟩
  go_wp2_with fail
  refine(Q0r H1 (by have:=HC.out;first|exact Nat.le_trans this (by decide)|(simp[Rn.note,Rn.did,Rn.Q0h,Rn.setB,Rn.waited,Rn.goto,Rn.Q0d];omega)) 9 0).mono ?_
  rintro e w2⟨rfl,H2⟩
  go_wp2_with fail
  refine(Q1j H2 8).mono ?_
  rintro e w3⟨rfl,H3⟩
  go_wp2_with fail
  go_end0
  exact⟨rfl,H3.Q0N⟩
def X2u(s:Rn):Rn:=
 Q7q s
theorem Y6F{S0:List Nat}{w0 w:World}{m a r:Nat}{rs:List Res}{s:Rn}(H:Q0a S0 w0 m a r rs s w)(hop:s.f.op=7)(hl:s.f.line=7)(hn:I64 s.n)(ha:0≤s.f.a∧s.f.a<4294967296)(hb:0≤s.f.b∧s.f.b<4294967296)(hc:s.notes.length≤900):
 Calls Tryz.prog 139 #[.pointer (some ⟨r,0,none⟩)] w fun e w'=>e= .returned (.tuple #[])∧Q0a S0 w0 m a r rs (X2u s) w':=by
 obtain⟨z0,z2,z4,z5,z6,z7⟩:=H.facts hop hl rfl rfl
 have HC:=Lib.hid hc
 have HA:=Lib.hid ha
 have HBB:=Lib.hid hb
 have HN:=Lib.hid hn
 have HH:=Lib.hid H
 clear hc H hn ha hb
 unfold X2u
 (try dsimp only)
 go_enter Tryz.func139,Tryz.ntmps139
 go_wp2_with fail
 refine(Y0X HH.out hop hl HN.out HA.out HC.out).mono ?_
 rintro e w1⟨rfl,H1⟩
 go_wp2_with fail
 go_end0
 exact⟨rfl,H1⟩
def X5a(s:Rn):Rn:=
 (s.did (doA s.L ⟨3,1,256,0,0⟩)).fin true
theorem Y6D{S0:List Nat}{w0 w:World}{m a r:Nat}{rs:List Res}{s:Rn}(H:Q0a S0 w0 m a r rs s w)(hop:s.f.op=7)(hl:s.f.line=8)(hn:I64 s.n)(ha:0≤s.f.a∧s.f.a<4294967296)(hb:0≤s.f.b∧s.f.b<4294967296)(hc:s.notes.length≤900):
 Calls Tryz.prog 139 #[.pointer (some ⟨r,0,none⟩)] w fun e w'=>e= .returned (.tuple #[])∧Q0a S0 w0 m a r rs (X5a s) w':=by
 obtain⟨z0,z2,z4,z5,z6,z7⟩:=H.facts hop hl rfl rfl
 have HC:=Lib.hid hc
 have HA:=Lib.hid ha
 have HBB:=Lib.hid hb
 have HN:=Lib.hid hn
 have HH:=Lib.hid H
 clear hc H hn ha hb
 unfold X5a
 (try dsimp only)
 go_enter Tryz.func139,Tryz.ntmps139
 go_wp2_with fail
 refine(Q2f HH.out 1 256 (by decide)).mono ?_
 rintro e w1⟨rfl,H1⟩
 go_wp2_with fail
 refine(Q1x H1 true).mono ?_
 rintro e w2⟨rfl,H2⟩
 go_wp2_with fail
 go_end0
 exact⟨rfl,H2⟩
def X8c(s:Rn):Rn:=
 s
theorem Y6E{S0:List Nat}{w0 w:World}{m a r:Nat}{rs:List Res}{s:Rn}(H:Q0a S0 w0 m a r rs s w)(hop:s.f.op=6)(hl:s.f.line=8)(hn:I64 s.n)(ha:0≤s.f.a∧s.f.a<4294967296)(hb:0≤s.f.b∧s.f.b<4294967296)(hc:s.notes.length≤900):
 Calls Tryz.prog 139 #[.pointer (some ⟨r,0,none⟩)] w fun e w'=>e= .returned (.tuple #[])∧Q0a S0 w0 m a r rs (X8c s) w':=by
 obtain⟨z0,z2,z4,z5,z6,z7⟩:=H.facts hop hl rfl rfl
 have HC:=Lib.hid hc
 have HA:=Lib.hid ha
 have HBB:=Lib.hid hb
 have HN:=Lib.hid hn
 have HH:=Lib.hid H
 clear hc H hn ha hb
 unfold X8c
 (try dsimp only)
 go_enter Tryz.func139,Tryz.ntmps139
 go_wp2_with fail
 go_end0
 exact⟨rfl,HH.out⟩
theorem Q6Q{S0:List Nat}{w0 w:World}{m a r:Nat}{rs:List Res}{s s2:Rn}(H:Q0a S0 w0 m a r rs s w)
 (hr: ∀W,Q0a S0 w0 m a r rs s W→Calls Tryz.prog 93 #[.pointer (some ⟨r,0,none⟩), .int .i64 0, .int .i64 1] W fun e w'=>e= .returned (.bool true)∧Q0a S0 w0 m a r rs s2 w'):
 Calls Tryz.prog 68 #[.pointer (some ⟨r,0,none⟩)] w fun e w'=>e= .returned (.tuple #[])∧Q0a S0 w0 m a r rs s2 w':=by
 have HR:=Lib.hid hr
 have HH:=Lib.hid H
 clear hr H
 go_enter Tryz.func68,Tryz.ntmps68
 go_wp2_with fail
 refine(HR.out _ HH.out).mono ?_
 rintro e w1⟨rfl,H1⟩
 go_wp2_with fail
 (try simp only[Exit.inBlock,Exit.then]);refine bodyPost_ret (results_none rfl _ _ _) rfl ?_
 exact⟨rfl,H1⟩
theorem X5k{S0:List Nat}{w0 w:World}{m a r:Nat}{rs:List Res}{s s2:Rn}(H:Q0a S0 w0 m a r rs s w){o l:Int}(hop:s.f.op=o)(hl:s.f.line=l)(hb:0≤s.f.b∧s.f.b<4294967296)
 (h0: ¬(o=1∧l=0)) (h1: ¬(o=1∧l=1)) (h2: ¬(o=2∧l=0)) (h3: ¬(o=5∧l=0)) (h4: ¬(o=5∧l=1)) (h5: ¬(o=3∧l=0)) (h6: ¬(o=3∧l=1)) (h7: ¬(o=3∧l=2)) (h8: ¬(o=3∧l=3)) (h9: ¬(o=3∧l=4))
 (ht: ∀rs W,Q0a S0 w0 m a r rs s W→Calls Tryz.prog 97 #[.pointer (some ⟨r,0,none⟩)] W fun e w'=>e= .returned (.tuple #[])∧Q0a S0 w0 m a r rs s2 w'):
 Calls Tryz.prog 68 #[.pointer (some ⟨r,0,none⟩)] w fun e w'=>e= .returned (.tuple #[])∧Q0a S0 w0 m a r rs s2 w':=by
 have HT:=Lib.hid ht
 have HBB:=Lib.hid hb
 obtain⟨z0,z2,z4,z5,z6,z7⟩:=H.facts hop hl rfl rfl
 have HH:=Lib.hid H
 clear H ht hb
 go_enter Tryz.func68,Tryz.ntmps68
 go_wp2_with fail
 refine(Q2S HH.out hop hl h0 h1 h2 h3 h4).mono ?_
 rintro e w1⟨rfl,H1⟩
 clear z0 z2 z4 z5 z6 z7
 obtain⟨z0,z2,z4,z5,z6,z7⟩:=H1.facts hop hl rfl rfl
 go_wp2_with fail
 refine Q0u 8 rfl (by kernel_rfl) (by kernel_rfl) ?_
 simp only[List.take_succ_cons,List.take_zero,List.drop_succ_cons,List.drop_zero,Q0G,probes,List.nil_append,List.cons_append,probe]
 go_wp2_with fail
 rw[Q0g]
 refine Q0W (.int .u32 (pfP s.f.b)) rfl rfl (enters_of Tryz.func94 (by kernel_rfl) rfl) (by simp[Act.eval]) (fun W _=>Q1g s.f.b W HBB.out) ?_
 simp only[Q0G,probes,List.nil_append]
 go_wp2_with fail
 rw[Q0g]
 rename_i hK
 refine hK _ _ ?_
 clear hK
 refine Q1q (Facts:=fun V=>Q0a S0 w0 m a r (.blk w1.heap.size #[.int .u32 s.f.a]::rs) s V) ?_ (by first|exact H1.drew.box rfl _ _|exact(H1.box rfl _ _).drew)
 clear z0 z2 z4 z5 z6 z7 H1
 intro W HW
 generalize w1.heap.size=tb at HW⊢
 obtain⟨z0,z2,z4,z5,z6,z7⟩:=HW.facts hop hl rfl rfl
 go_wp2_with fail
 go_quiet (fail)
 have HW2:=HW.drewN nq
 clear z0 z2 z4 z5 z6 z7 HW
 generalize W.drewN nq=W2 at HW2⊢
 obtain⟨z0,z2,z4,z5,z6,z7⟩:=HW2.facts hop hl rfl rfl
 go_wp2_with fail
 all_goals
  refine(HT.out _ _ HW2).mono ?_
  rintro e w1⟨rfl,H1⟩
  go_wp2_with fail
  go_end0
  exact⟨rfl,H1.Q0N⟩
theorem X1z{S0:List Nat}{w0 w:World}{m a r:Nat}{rs:List Res}{s s2:Rn}(H:Q0a S0 w0 m a r rs s w){l:Int}(hop:s.f.op=6)(hl:s.f.line=l)(hb:0≤s.f.b∧s.f.b<4294967296)
 (ht: ∀W,Q0a S0 w0 m a r rs s W→Calls Tryz.prog 139 #[.pointer (some ⟨r,0,none⟩)] W fun e w'=>e= .returned (.tuple #[])∧Q0a S0 w0 m a r rs s2 w'):
 Calls Tryz.prog 97 #[.pointer (some ⟨r,0,none⟩)] w fun e w'=>e= .returned (.tuple #[])∧Q0a S0 w0 m a r rs s2 w':=by
 have HT:=Lib.hid ht
 have HBB:=Lib.hid hb
 obtain⟨z0,z2,z4,z5,z6,z7⟩:=H.facts hop hl rfl rfl
 have HH:=Lib.hid H
 clear H ht hb
 go_enter Tryz.func97,Tryz.ntmps97
 go_wp2_with fail
 refine(Q1g _ _ HBB.out).mono ?_
 rintro e w1⟨rfl,rfl⟩
 go_wp2_with fail
 go_quiet (fail)
 have HW:=HH.out.drewN nq
 clear z0 z2 z4 z5 z6 z7
 generalize w.drewN nq=W at HW⊢
 obtain⟨z0,z2,z4,z5,z6,z7⟩:=HW.facts hop hl rfl rfl
 go_wp2_with fail
 refine(HT.out _ HW).mono ?_
 rintro e w1⟨rfl,H1⟩
 go_wp2_with fail
 go_end0
 exact⟨rfl,H1⟩
theorem X1y{S0:List Nat}{w0 w:World}{m a r:Nat}{rs:List Res}{s s2:Rn}(H:Q0a S0 w0 m a r rs s w){l:Int}(hop:s.f.op=7)(hl:s.f.line=l)(hb:0≤s.f.b∧s.f.b<4294967296)
 (ht: ∀W,Q0a S0 w0 m a r rs s W→Calls Tryz.prog 139 #[.pointer (some ⟨r,0,none⟩)] W fun e w'=>e= .returned (.tuple #[])∧Q0a S0 w0 m a r rs s2 w'):
 Calls Tryz.prog 97 #[.pointer (some ⟨r,0,none⟩)] w fun e w'=>e= .returned (.tuple #[])∧Q0a S0 w0 m a r rs s2 w':=by
 have HT:=Lib.hid ht
 have HBB:=Lib.hid hb
 obtain⟨z0,z2,z4,z5,z6,z7⟩:=H.facts hop hl rfl rfl
 have HH:=Lib.hid H
 clear H ht hb
 go_enter Tryz.func97,Tryz.ntmps97
 go_wp2_with fail
 refine(Q1g _ _ HBB.out).mono ?_
 rintro e w1⟨rfl,rfl⟩
 go_wp2_with fail
 go_quiet (fail)
 have HW:=HH.out.drewN nq
 clear z0 z2 z4 z5 z6 z7
 generalize w.drewN nq=W at HW⊢
 obtain⟨z0,z2,z4,z5,z6,z7⟩:=HW.facts hop hl rfl rfl
 go_wp2_with fail
 refine(HT.out _ HW).mono ?_
 rintro e w1⟨rfl,H1⟩
 go_wp2_with fail
 go_end0
 exact⟨rfl,H1⟩
theorem Q9i{S0:List Nat}{w0 w:World}{m a r:Nat}{rs:List Res}{s:Rn}(H:Q0a S0 w0 m a r rs s w){o l:Int}(hop:s.f.op=o)(hl:s.f.line=l)(hb:0≤s.f.b∧s.f.b<4294967296)(h0: ¬(o=4∧l=0))(h1: ¬(o=8∧l=0))(h2: ¬(o=4∧l=1))(h3: ¬(o=8∧l=1))(h4: ¬(o=4∧l=2))(h5: ¬(o=8∧l=2))(h6: ¬(o=4∧l=3))(h7: ¬(o=8∧l=3))(k6: ¬o=6)(k7: ¬o=7):
 Calls Tryz.prog 97 #[.pointer (some ⟨r,0,none⟩)] w fun e w'=>e= .returned (.tuple #[])∧Q0a S0 w0 m a r rs s w':=by
 have HBB:=Lib.hid hb
 have k6':(o==6)=false:=by simpa using k6
 have k7':(o==7)=false:=by simpa using k7
 obtain⟨z0,z2,z4,z5,z6,z7⟩:=H.facts hop hl rfl rfl
 have HH:=Lib.hid H
 clear H hb
 go_enter Tryz.func97,Tryz.ntmps97
 go_wp2_with fail
 refine(Q1g _ _ HBB.out).mono ?_
 rintro e w1⟨rfl,rfl⟩
 go_wp2_with fail
 go_quiet (fail)
 have HW:=HH.out.drewN nq
 clear z0 z2 z4 z5 z6 z7
 generalize w.drewN nq=W at HW⊢
 obtain⟨z0,z2,z4,z5,z6,z7⟩:=HW.facts hop hl rfl rfl
 go_wp2_with fail
 all_goals
  go_end0
  exact⟨rfl,HW⟩
theorem Q6P{S0:List Nat}{w0 w:World}{m a r:Nat}{rs:List Res}{s:Rn}(H:Q0a S0 w0 m a r rs s w){o l:Int}(hop:s.f.op=o)(hl:s.f.line=l)(k0: ¬l=0)(k1: ¬l=1)(k2: ¬l=2)(k3: ¬l=3)(k4: ¬l=4)(k5: ¬l=5)(k6: ¬l=6)(k7: ¬l=7)(k8: ¬l=8)(k9: ¬l=9):
 Calls Tryz.prog 139 #[.pointer (some ⟨r,0,none⟩)] w fun e w'=>e= .returned (.tuple #[])∧Q0a S0 w0 m a r rs s w':=by
 obtain⟨z0,z2,z4,z5,z6,z7⟩:=H.facts hop hl rfl rfl
 have j0:(l==0)=false:=by simpa using k0
 have j1:(l==1)=false:=by simpa using k1
 have j2:(l==2)=false:=by simpa using k2
 have j3:(l==3)=false:=by simpa using k3
 have j4:(l==4)=false:=by simpa using k4
 have j5:(l==5)=false:=by simpa using k5
 have j6:(l==6)=false:=by simpa using k6
 have j7:(l==7)=false:=by simpa using k7
 have j8:(l==8)=false:=by simpa using k8
 have j9:(l==9)=false:=by simpa using k9
 have HH:=Lib.hid H
 clear H
 go_enter Tryz.func139,Tryz.ntmps139
 go_wp2_with fail
 all_goals
  go_end0
  exact⟨rfl,HH.out⟩
def pfA(s:Rn):Rn:=if s.f.op=1∧s.f.line=0 then X5t s else if s.f.op=1∧s.f.line=1 then X2x s else if s.f.op=2∧s.f.line=0 then X5q s else if s.f.op=5∧s.f.line=0 then X5o s else if s.f.op=5∧s.f.line=1 then X5m s else if s.f.op=3∧s.f.line=0 then Y5x s else if s.f.op=3∧s.f.line=1 then Y3W s else if s.f.op=3∧s.f.line=2 then Y5w s else if s.f.op=3∧s.f.line=3 then Y5v s else if s.f.op=3∧s.f.line=4 then Y3V s else if s.f.op=4∧s.f.line=0 then Y5u s else if s.f.op=8∧s.f.line=0 then Y5q s else if s.f.op=4∧s.f.line=1 then Y5t s else if s.f.op=8∧s.f.line=1 then Y5p s else if s.f.op=4∧s.f.line=2 then Y5s s else if s.f.op=8∧s.f.line=2 then Y5o s else if s.f.op=4∧s.f.line=3 then Y5r s else if s.f.op=8∧s.f.line=3 then Y5n s else if s.f.op=6∧s.f.line=0 then Y2s s else if s.f.op=6∧s.f.line=1 then Y2r s else if s.f.op=6∧s.f.line=2 then Y2q s else if s.f.op=6∧s.f.line=3 then Y2p s else if s.f.op=6∧s.f.line=4 then X5h s else if s.f.op=6∧s.f.line=5 then Y2o s else if s.f.op=6∧s.f.line=6 then Y2n s else if s.f.op=6∧s.f.line=7 then X2v s else if s.f.op=6∧s.f.line=8 then X8c s else if s.f.op=6∧s.f.line=9 then Y2m s else if s.f.op=7∧s.f.line=0 then Y2s s else if s.f.op=7∧s.f.line=1 then Y2r s else if s.f.op=7∧s.f.line=2 then Y2q s else if s.f.op=7∧s.f.line=3 then Y2p s else if s.f.op=7∧s.f.line=4 then X5f s else if s.f.op=7∧s.f.line=5 then Y2o s else if s.f.op=7∧s.f.line=6 then Y2n s else if s.f.op=7∧s.f.line=7 then X2u s else if s.f.op=7∧s.f.line=8 then X5a s else if s.f.op=7∧s.f.line=9 then Y2m s else s
theorem Y0W{S0:List Nat}{w0 w:World}{m a r:Nat}{rs:List Res}{s:Rn}(H:Q0a S0 w0 m a r rs s w)(hn:I64 s.n)(ha:0≤s.f.a∧s.f.a<4294967296)(hb:0≤s.f.b∧s.f.b<4294967296)(hc:s.notes.length≤900):
 Calls Tryz.prog 68 #[.pointer (some ⟨r,0,none⟩)] w fun e w'=>e= .returned (.tuple #[])∧Q0a S0 w0 m a r rs (pfA s) w':=by
 unfold pfA
 by_cases h10:s.f.op=1∧s.f.line=0
 ·rw[if_pos h10];exact Q6Q H (fun W HW=>Y6T HW h10.1 h10.2 hn ha hc)
 rw[if_neg h10]
 by_cases h11:s.f.op=1∧s.f.line=1
 ·rw[if_pos h11];exact Q6Q H (fun W HW=>Y6S HW h11.1 h11.2 hn ha hc)
 rw[if_neg h11]
 by_cases h20:s.f.op=2∧s.f.line=0
 ·rw[if_pos h20];exact Q6Q H (fun W HW=>Y6R HW h20.1 h20.2 hn ha hc)
 rw[if_neg h20]
 by_cases h50:s.f.op=5∧s.f.line=0
 ·rw[if_pos h50];exact Q6Q H (fun W HW=>Y6Q HW h50.1 h50.2 hn ha hc)
 rw[if_neg h50]
 by_cases h51:s.f.op=5∧s.f.line=1
 ·rw[if_pos h51];exact Q6Q H (fun W HW=>Y6P HW h51.1 h51.2 hn ha hc)
 rw[if_neg h51]
 by_cases h30:s.f.op=3∧s.f.line=0
 ·rw[if_pos h30];exact pf_30 H h30.1 h30.2 hn ha hb hc
 rw[if_neg h30]
 by_cases h31:s.f.op=3∧s.f.line=1
 ·rw[if_pos h31];exact pf_31 H h31.1 h31.2 hn ha hb hc
 rw[if_neg h31]
 by_cases h32:s.f.op=3∧s.f.line=2
 ·rw[if_pos h32];exact pf_32 H h32.1 h32.2 hn ha hb hc
 rw[if_neg h32]
 by_cases h33:s.f.op=3∧s.f.line=3
 ·rw[if_pos h33];exact pf_33 H h33.1 h33.2 hn ha hb hc
 rw[if_neg h33]
 by_cases h34:s.f.op=3∧s.f.line=4
 ·rw[if_pos h34];exact pf_34 H h34.1 h34.2 hn ha hb hc
 rw[if_neg h34]
 refine X5k H rfl rfl hb h10 h11 h20 h50 h51 h30 h31 h32 h33 h34 (fun rs W HW=> ?_)
 by_cases h40:s.f.op=4∧s.f.line=0
 ·rw[if_pos h40];exact pf_40 HW h40.1 h40.2 hn ha hb hc
 rw[if_neg h40]
 by_cases h80:s.f.op=8∧s.f.line=0
 ·rw[if_pos h80];exact pf_80 HW h80.1 h80.2 hn ha hb hc
 rw[if_neg h80]
 by_cases h41:s.f.op=4∧s.f.line=1
 ·rw[if_pos h41];exact pf_41 HW h41.1 h41.2 hn ha hb hc
 rw[if_neg h41]
 by_cases h81:s.f.op=8∧s.f.line=1
 ·rw[if_pos h81];exact pf_81 HW h81.1 h81.2 hn ha hb hc
 rw[if_neg h81]
 by_cases h42:s.f.op=4∧s.f.line=2
 ·rw[if_pos h42];exact pf_42 HW h42.1 h42.2 hn ha hb hc
 rw[if_neg h42]
 by_cases h82:s.f.op=8∧s.f.line=2
 ·rw[if_pos h82];exact pf_82 HW h82.1 h82.2 hn ha hb hc
 rw[if_neg h82]
 by_cases h43:s.f.op=4∧s.f.line=3
 ·rw[if_pos h43];exact pf_43 HW h43.1 h43.2 hn ha hb hc
 rw[if_neg h43]
 by_cases h83:s.f.op=8∧s.f.line=3
 ·rw[if_pos h83];exact pf_83 HW h83.1 h83.2 hn ha hb hc
 rw[if_neg h83]
 by_cases k6:s.f.op=6
 ·refine X1z HW k6 rfl hb (fun W HX=> ?_)
  by_cases l0:s.f.op=6∧s.f.line=0
  ·rw[if_pos l0];exact Y6O HX l0.1 l0.2 hn ha hb hc
  rw[if_neg l0]
  by_cases l1:s.f.op=6∧s.f.line=1
  ·rw[if_pos l1];exact Y6N HX l1.1 l1.2 hn ha hb hc
  rw[if_neg l1]
  by_cases l2:s.f.op=6∧s.f.line=2
  ·rw[if_pos l2];exact Y6M HX l2.1 l2.2 hn ha hb hc
  rw[if_neg l2]
  by_cases l3:s.f.op=6∧s.f.line=3
  ·rw[if_pos l3];exact Y6L HX l3.1 l3.2 hn ha hb hc
  rw[if_neg l3]
  by_cases l4:s.f.op=6∧s.f.line=4
  ·rw[if_pos l4];exact Y6K HX l4.1 l4.2 hn ha hb hc
  rw[if_neg l4]
  by_cases l5:s.f.op=6∧s.f.line=5
  ·rw[if_pos l5];exact Y6I HX l5.1 l5.2 hn ha hb hc
  rw[if_neg l5]
  by_cases l6:s.f.op=6∧s.f.line=6
  ·rw[if_pos l6];exact Y6H HX l6.1 l6.2 hn ha hb hc
  rw[if_neg l6]
  by_cases l7:s.f.op=6∧s.f.line=7
  ·rw[if_pos l7];exact Y6G HX l7.1 l7.2 hn ha hb hc
  rw[if_neg l7]
  by_cases l8:s.f.op=6∧s.f.line=8
  ·rw[if_pos l8];exact Y6E HX l8.1 l8.2 hn ha hb hc
  rw[if_neg l8]
  by_cases l9:s.f.op=6∧s.f.line=9
  ·rw[if_pos l9];exact Y6C HX l9.1 l9.2 hn ha hb hc
  rw[if_neg l9]
  rw[if_neg (fun h=>by rw[k6]at h;exact absurd h.1 (by decide))]
  rw[if_neg (fun h=>by rw[k6]at h;exact absurd h.1 (by decide))]
  rw[if_neg (fun h=>by rw[k6]at h;exact absurd h.1 (by decide))]
  rw[if_neg (fun h=>by rw[k6]at h;exact absurd h.1 (by decide))]
  rw[if_neg (fun h=>by rw[k6]at h;exact absurd h.1 (by decide))]
  rw[if_neg (fun h=>by rw[k6]at h;exact absurd h.1 (by decide))]
  rw[if_neg (fun h=>by rw[k6]at h;exact absurd h.1 (by decide))]
  rw[if_neg (fun h=>by rw[k6]at h;exact absurd h.1 (by decide))]
  rw[if_neg (fun h=>by rw[k6]at h;exact absurd h.1 (by decide))]
  rw[if_neg (fun h=>by rw[k6]at h;exact absurd h.1 (by decide))]
  exact Q6P HX k6 rfl (fun h=>l0 ⟨k6,h⟩) (fun h=>l1 ⟨k6,h⟩) (fun h=>l2 ⟨k6,h⟩) (fun h=>l3 ⟨k6,h⟩) (fun h=>l4 ⟨k6,h⟩) (fun h=>l5 ⟨k6,h⟩) (fun h=>l6 ⟨k6,h⟩) (fun h=>l7 ⟨k6,h⟩) (fun h=>l8 ⟨k6,h⟩) (fun h=>l9 ⟨k6,h⟩)
 by_cases k7:s.f.op=7
 ·refine X1y HW k7 rfl hb (fun W HX=> ?_)
  rw[if_neg (fun h=>by rw[k7]at h;exact absurd h.1 (by decide))]
  rw[if_neg (fun h=>by rw[k7]at h;exact absurd h.1 (by decide))]
  rw[if_neg (fun h=>by rw[k7]at h;exact absurd h.1 (by decide))]
  rw[if_neg (fun h=>by rw[k7]at h;exact absurd h.1 (by decide))]
  rw[if_neg (fun h=>by rw[k7]at h;exact absurd h.1 (by decide))]
  rw[if_neg (fun h=>by rw[k7]at h;exact absurd h.1 (by decide))]
  rw[if_neg (fun h=>by rw[k7]at h;exact absurd h.1 (by decide))]
  rw[if_neg (fun h=>by rw[k7]at h;exact absurd h.1 (by decide))]
  rw[if_neg (fun h=>by rw[k7]at h;exact absurd h.1 (by decide))]
  rw[if_neg (fun h=>by rw[k7]at h;exact absurd h.1 (by decide))]
  by_cases l0:s.f.op=7∧s.f.line=0
  ·rw[if_pos l0];exact Y6O HX l0.1 l0.2 hn ha hb hc
  rw[if_neg l0]
  by_cases l1:s.f.op=7∧s.f.line=1
  ·rw[if_pos l1];exact Y6N HX l1.1 l1.2 hn ha hb hc
  rw[if_neg l1]
  by_cases l2:s.f.op=7∧s.f.line=2
  ·rw[if_pos l2];exact Y6M HX l2.1 l2.2 hn ha hb hc
  rw[if_neg l2]
  by_cases l3:s.f.op=7∧s.f.line=3
  ·rw[if_pos l3];exact Y6L HX l3.1 l3.2 hn ha hb hc
  rw[if_neg l3]
  by_cases l4:s.f.op=7∧s.f.line=4
  ·rw[if_pos l4];exact Y6J HX l4.1 l4.2 hn ha hb hc
  rw[if_neg l4]
  by_cases l5:s.f.op=7∧s.f.line=5
  ·rw[if_pos l5];exact Y6I HX l5.1 l5.2 hn ha hb hc
  rw[if_neg l5]
  by_cases l6:s.f.op=7∧s.f.line=6
  ·rw[if_pos l6];exact Y6H HX l6.1 l6.2 hn ha hb hc
  rw[if_neg l6]
  by_cases l7:s.f.op=7∧s.f.line=7
  ·rw[if_pos l7];exact Y6F HX l7.1 l7.2 hn ha hb hc
  rw[if_neg l7]
  by_cases l8:s.f.op=7∧s.f.line=8
  ·rw[if_pos l8];exact Y6D HX l8.1 l8.2 hn ha hb hc
  rw[if_neg l8]
  by_cases l9:s.f.op=7∧s.f.line=9
  ·rw[if_pos l9];exact Y6C HX l9.1 l9.2 hn ha hb hc
  rw[if_neg l9]
  exact Q6P HX k7 rfl (fun h=>l0 ⟨k7,h⟩) (fun h=>l1 ⟨k7,h⟩) (fun h=>l2 ⟨k7,h⟩) (fun h=>l3 ⟨k7,h⟩) (fun h=>l4 ⟨k7,h⟩) (fun h=>l5 ⟨k7,h⟩) (fun h=>l6 ⟨k7,h⟩) (fun h=>l7 ⟨k7,h⟩) (fun h=>l8 ⟨k7,h⟩) (fun h=>l9 ⟨k7,h⟩)
 rw[if_neg (fun h=>k6 h.1)]
 rw[if_neg (fun h=>k6 h.1)]
 rw[if_neg (fun h=>k6 h.1)]
 rw[if_neg (fun h=>k6 h.1)]
 rw[if_neg (fun h=>k6 h.1)]
 rw[if_neg (fun h=>k6 h.1)]
 rw[if_neg (fun h=>k6 h.1)]
 rw[if_neg (fun h=>k6 h.1)]
 rw[if_neg (fun h=>k6 h.1)]
 rw[if_neg (fun h=>k6 h.1)]
 rw[if_neg (fun h=>k7 h.1)]
 rw[if_neg (fun h=>k7 h.1)]
 rw[if_neg (fun h=>k7 h.1)]
 rw[if_neg (fun h=>k7 h.1)]
 rw[if_neg (fun h=>k7 h.1)]
 rw[if_neg (fun h=>k7 h.1)]
 rw[if_neg (fun h=>k7 h.1)]
 rw[if_neg (fun h=>k7 h.1)]
 rw[if_neg (fun h=>k7 h.1)]
 rw[if_neg (fun h=>k7 h.1)]
 exact Q9i HW rfl rfl hb h40 h80 h41 h81 h42 h82 h43 h83 k6 k7
end Go.Proofs.YthnimpkoidablaaGreat.Z
