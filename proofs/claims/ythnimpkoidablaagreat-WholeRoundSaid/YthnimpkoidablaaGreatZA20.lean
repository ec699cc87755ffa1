import Derived.Test.YthnimpkoidablaaGreatZA17
set_option linter.unusedVariables false
set_option linter.unusedSimpArgs false
set_option maxHeartbeats 1600000
namespace Go.Proofs.YthnimpkoidablaaGreat.Z
open Go.RowKit
attribute [local go_sem↓] Go.wp_at_zero Go.wp_at_succ
def Q6u(b:Int):Int:=2+b%2
theorem Y6y(v:Int)(hv:0≤v∧v<4294967296):Go.bits .and .u32 v 1=v%2:=by
 obtain⟨n,rfl⟩: ∃n:Nat,v=n:=⟨v.toNat,by omega⟩
 have h:=ZB.Q3z n 1 (by omega) (by decide)
 have h2:n &&&1=n/1%2*1:=ZB.Q3A n 0 1
 rw[h2]at h
 refine Eq.trans h ?_
 omega
theorem Q9H(v:Int)(hv:0≤v∧v<4294967296):Go.bits .and .u32 v 3=v%4:=by
 obtain⟨n,rfl⟩: ∃n:Nat,v=n:=⟨v.toNat,by omega⟩
 have h:=ZB.Q3z n 3 (by omega) (by decide)
 have h2:n &&&3=n/1%4*1:=ZB.Q3A n 0 2
 rw[h2]at h
 refine Eq.trans h ?_
 omega
theorem qor_2(x:Int)(hx:x=0∨x=1):Go.bits .or .u32 2 x=2+x:=by
 rcases hx with rfl|rfl<;>decide+kernel
theorem Q2w(b:Int)(w:World)(hb:0≤b∧b<4294967296):Calls Tryz.prog 140 #[.int .u32 b] w fun e w'=>e= .returned (.int .u32 (Q6u b))∧w=w':=by
 have h1:=Y6y b hb
 have h2:=qor_2 (b%2) (by omega)
 have H1:=Lib.hid h1
 have H2:=Lib.hid h2
 clear h1 h2
 go_enter Tryz.func140,Tryz.ntmps140
 go_wp2
 go_ret
 refine⟨?_,rfl⟩
 show Ending.returned (Value.int .u32 _)=Ending.returned (Value.int .u32 _)
 unfold Q6u
 rw[H1.out,H2.out]
theorem Y0B(x v:Int){b:Nat}(w:World)(hb:Blk w b #[.int .u32 x]):
 Calls Tryz.prog 141 #[.int .u32 v, .pointer (some ⟨b,0,none⟩)] w fun e w'=>e= .returned (.bool (v==x))∧Touch [] w w':=by
 obtain⟨x0,x1,x2⟩:=hb.own
 go_enter Tryz.func141,Tryz.ntmps141
 go_wp2
 go_ret
 exact⟨rfl,Touch.refl _ _⟩
theorem X1l(x v:Int){b:Nat}(w:World)(hb:Blk w b #[.int .u32 x]):
 Calls Tryz.prog 180 #[.int .u32 v, .pointer (some ⟨b,0,none⟩)] w fun e w'=>e= .returned (.bool (v==x))∧Touch [] w w':=by
 obtain⟨x0,x1,x2⟩:=hb.own
 go_enter Tryz.func180,Tryz.ntmps180
 go_wp2
 go_ret
 exact⟨rfl,Touch.refl _ _⟩
theorem X7I(x v:Int){b:Nat}(w:World)(hv:0≤v∧v<4294967296)(hb:Blk w b #[.int .u32 x]):
 Calls Tryz.prog 136 #[.int .u32 v, .pointer (some ⟨b,0,none⟩)] w fun e w'=>e= .returned (.bool (v%4 !=x))∧Touch [] w w':=by
 obtain⟨x0,x1,x2⟩:=hb.own
 have h3:=Q9H v hv
 have H3:=Lib.hid h3
 clear h3
 go_enter Tryz.func136,Tryz.ntmps136
 go_wp2
 go_ret
 refine⟨?_,Touch.refl _ _⟩
 show Ending.returned (Value.bool _)=Ending.returned (Value.bool _)
 rw[H3.out]
theorem Q4r{S0:List Nat}{w0 w:World}{m a r:Nat}{rs:List Res}{s:Rn}(H:Q0a S0 w0 m a r rs s w){l:Int}(hop:s.f.op=7)(hl:s.f.line=l):Calls Tryz.prog 179 #[.pointer (some ⟨r,0,none⟩)] w fun e w'=>e= .returned (.int .u32 256)∧w=w':=by
 obtain⟨x0,x2,x4,x5,x6,x7⟩:=H.facts hop hl rfl rfl
 go_enter Tryz.func179,Tryz.ntmps179
 go_wp2
 go_ret
 exact⟨rfl,rfl⟩
theorem Q4s{S0:List Nat}{w0 w:World}{m a r:Nat}{rs:List Res}{s:Rn}(H:Q0a S0 w0 m a r rs s w){l:Int}(hop:s.f.op=6)(hl:s.f.line=l):Calls Tryz.prog 179 #[.pointer (some ⟨r,0,none⟩)] w fun e w'=>e= .returned (.int .u32 0)∧w=w':=by
 obtain⟨x0,x2,x4,x5,x6,x7⟩:=H.facts hop hl rfl rfl
 go_enter Tryz.func179,Tryz.ntmps179
 go_wp2
 go_ret
 exact⟨rfl,rfl⟩
def Q1o(s:Rn):Rn:=
 let s1:=((s.did (doA s.L ⟨3,0,256,0,0⟩)).Q0h (doA s.L ⟨3,0,256,0,0⟩).1.old).note 2 1
 if(doA s.L ⟨3,0,256,0,0⟩).1.old%4=0 then(s1.note 4 0).fin true else s1.goto 1
theorem Y3J{S0:List Nat}{w0 w:World}{m a r:Nat}{rs:List Res}{s:Rn}(H:Q0a S0 w0 m a r rs s w)(hop:s.f.op=1)(hl:s.f.line=0)(hn:I64 s.n)(ha:0≤s.f.a∧s.f.a<4294967296)(hc:s.notes.length≤900):
 Calls Tryz.prog 93 #[.pointer (some ⟨r,0,none⟩), .int .i64 0, .int .i64 1] w fun e w'=>e= .returned (.bool true)∧Q0a S0 w0 m a r rs (Q1o s) w':=by
 obtain⟨z0,z2,z4,z5,z6,z7⟩:=H.facts hop hl rfl rfl
 have HC:=Lib.hid hc
 have HA:=Lib.hid ha
 have HN:=Lib.hid hn
 have HV:=Lib.hid (H.old ⟨3,0,256,0,0⟩)
 have HH:=Lib.hid H
 clear hc H hn ha
 unfold Q1o
 (try dsimp only)
 by_cases hq:(doA s.L ⟨3,0,256,0,0⟩).1.old%4=0
 ·simp only[if_pos hq]
  have HQ:=Lib.hid hq
  clear hq
  go_enter Tryz.func93,Tryz.ntmps93
  go_wp2_with fail
  go_quiet (fail)
  have HW:=HH.out.drewN nq
  clear z0 z2 z4 z5 z6 z7
  generalize w.drewN nq=W at HW⊢
  obtain⟨z0,z2,z4,z5,z6,z7⟩:=HW.facts hop hl rfl rfl
  go_wp2_with fail
  refine(Q2f HW 0 256 (by decide)).mono ?_
  rintro e w1⟨rfl,H1⟩
  obtain⟨x0,x2,x4,x5,x6,x7⟩:=H1.facts hop hl rfl rfl
  go_wp2_with fail
  refine(Q0r (H1.Q0h (doA s.L ⟨3,0,256,0,0⟩).1.old) (by have:=HC.out;first|exact Nat.le_trans this (by decide)|(simp[Rn.note,Rn.did,Rn.Q0h,Rn.setB,Rn.waited,Rn.goto,Rn.Q0d];omega)) 2 1).mono ?_
  rintro e w2⟨rfl,H2⟩
  obtain⟨x0,x2,x4,x5,x6,x7⟩:=H2.facts hop hl (x:=(doA s.L ⟨3,0,256,0,0⟩).1.old) rfl rfl
  have hv:=HV.out
  have hbit:=Q9H (doA s.L ⟨3,0,256,0,0⟩).1.old hv
  have hz:(Go.bits .and .u32 (doA s.L ⟨3,0,256,0,0⟩).1.old 3==0)=true:=by rw[hbit];simpa using HQ.out
  clear hv hbit
  go_wp2_with fail
  refine(Q0r H2 (by have:=HC.out;first|exact Nat.le_trans this (by decide)|(simp[Rn.note,Rn.did,Rn.Q0h,Rn.setB,Rn.waited,Rn.goto,Rn.Q0d];omega)) 4 0).mono ?_
  rintro e w3⟨rfl,H3⟩
  go_wp2_with fail
  refine(Q1x H3 true).mono ?_
  rintro e w4⟨rfl,H4⟩
  go_wp2_with fail
  go_ret
  exact⟨rfl,H4⟩
 ·simp only[if_neg hq]
  have HQ:=Lib.hid hq
  clear hq
  go_enter Tryz.func93,Tryz.ntmps93
  go_wp2_with fail
  go_quiet (fail)
  have HW:=HH.out.drewN nq
  clear z0 z2 z4 z5 z6 z7
  generalize w.drewN nq=W at HW⊢
  obtain⟨z0,z2,z4,z5,z6,z7⟩:=HW.facts hop hl rfl rfl
  go_wp2_with fail
  refine(Q2f HW 0 256 (by decide)).mono ?_
  rintro e w1⟨rfl,H1⟩
  obtain⟨x0,x2,x4,x5,x6,x7⟩:=H1.facts hop hl rfl rfl
  go_wp2_with fail
  refine(Q0r (H1.Q0h (doA s.L ⟨3,0,256,0,0⟩).1.old) (by have:=HC.out;first|exact Nat.le_trans this (by decide)|(simp[Rn.note,Rn.did,Rn.Q0h,Rn.setB,Rn.waited,Rn.goto,Rn.Q0d];omega)) 2 1).mono ?_
  rintro e w2⟨rfl,H2⟩
  obtain⟨x0,x2,x4,x5,x6,x7⟩:=H2.facts hop hl (x:=(doA s.L ⟨3,0,256,0,0⟩).1.old) rfl rfl
  have hv:=HV.out
  have hbit:=Q9H (doA s.L ⟨3,0,256,0,0⟩).1.old hv
  have hz:(Go.bits .and .u32 (doA s.L ⟨3,0,256,0,0⟩).1.old 3==0)=false:=by rw[hbit];simpa using HQ.out
  clear hv hbit
  go_wp2_with fail
  refine(Q1j H2 1).mono ?_
  rintro e w3⟨rfl,H3⟩
  go_wp2_with fail
  go_ret
  exact⟨rfl,H3⟩
def Q1n(s:Rn):Rn:=
 let s1:=s.waited (Q0t s.L s.n s.mode s.task s.f.st 0 (fun v=>v%4 !=s.f.a%4))
 let s2:=if(Q0t s.L s.n s.mode s.task s.f.st 0 (fun v=>v%4 !=s.f.a%4)).seen then s1.note 4 0 else s1
 if(Q0t s.L s.n s.mode s.task s.f.st 0 (fun v=>v%4 !=s.f.a%4)).done then s2.fin true else s2
theorem Y3I{S0:List Nat}{w0 w:World}{m a r:Nat}{rs:List Res}{s:Rn}(H:Q0a S0 w0 m a r rs s w)(hop:s.f.op=1)(hl:s.f.line=1)(hn:I64 s.n)(ha:0≤s.f.a∧s.f.a<4294967296)(hc:s.notes.length≤900):
 Calls Tryz.prog 93 #[.pointer (some ⟨r,0,none⟩), .int .i64 0, .int .i64 1] w fun e w'=>e= .returned (.bool true)∧Q0a S0 w0 m a r rs (Q1n s) w':=by
 obtain⟨z0,z2,z4,z5,z6,z7⟩:=H.facts hop hl rfl rfl
 have HC:=Lib.hid hc
 have HA:=Lib.hid ha
 have HN:=Lib.hid hn
 have HH:=Lib.hid H
 clear hc H hn ha
 unfold Q1n
 (try dsimp only)
 have hbit:=Q9H s.f.a HA.out
 have HBIT:=Lib.hid hbit
 clear hbit
 have hwt:=fun(t2:Nat) W (H:Q0a S0 w0 m a r (.blk t2 #[.int .u32 (s.f.a%4)]::rs) s W)=>Q3m H HN.out 0 136 #[] #[.pointer (some ⟨t2,0,none⟩)] (fun v=>v%4 !=s.f.a%4) (enters_of Tryz.func136 (by kernel_rfl) rfl) (fun W v h0 h1 H=>X7I (s.f.a%4) v W ⟨h0,h1⟩ H.first)
 cases hs:(Q0t s.L s.n s.mode s.task s.f.st 0 (fun v=>v%4 !=s.f.a%4)).seen<;>cases hd:(Q0t s.L s.n s.mode s.task s.f.st 0 (fun v=>v%4 !=s.f.a%4)).done<;>rw[hs,hd]at hwt<;>simp only[if_true,Bool.false_eq_true,if_false]<;>(have HWT:=Lib.hid hwt)<;>clear hwt hs hd
 ·go_enter Tryz.func93,Tryz.ntmps93
  go_wp2_with fail
  go_quiet (fail)
  have HW:=HH.out.drewN nq
  clear z0 z2 z4 z5 z6 z7
  generalize w.drewN nq=W at HW⊢
  obtain⟨z0,z2,z4,z5,z6,z7⟩:=HW.facts hop hl rfl rfl
  have HW0:=Lib.hid HW
  skip
  go_wp2_with fail
  refine Q1e (Facts:=fun V=>Q0a S0 w0 m a r (.blk W.heap.size #[.int .u32 (s.f.a%4)]::rs) s V) ?_ (by rw[←HBIT.out];exact HW0.out.box rfl _ _)
  intro W1 HW1
  refine(HWT.out _ _ HW1).mono ?_
  rintro e w1⟨rfl,H1⟩
  go_wp2_with fail
  go_ret
  exact⟨rfl,H1.Q0N⟩
 ·go_enter Tryz.func93,Tryz.ntmps93
  go_wp2_with fail
  go_quiet (fail)
  have HW:=HH.out.drewN nq
  clear z0 z2 z4 z5 z6 z7
  generalize w.drewN nq=W at HW⊢
  obtain⟨z0,z2,z4,z5,z6,z7⟩:=HW.facts hop hl rfl rfl
  have HW0:=Lib.hid HW
  skip
  go_wp2_with fail
  refine Q1e (Facts:=fun V=>Q0a S0 w0 m a r (.blk W.heap.size #[.int .u32 (s.f.a%4)]::rs) s V) ?_ (by rw[←HBIT.out];exact HW0.out.box rfl _ _)
  intro W1 HW1
  refine(HWT.out _ _ HW1).mono ?_
  rintro e w1⟨rfl,H1⟩
  go_wp2_with fail
  refine(Q1x H1 true).mono ?_
  rintro e w2⟨rfl,H2⟩
  go_wp2_with fail
  go_ret
  exact⟨rfl,H2.Q0N⟩
 ·go_enter Tryz.func93,Tryz.ntmps93
  go_wp2_with fail
  go_quiet (fail)
  have HW:=HH.out.drewN nq
  clear z0 z2 z4 z5 z6 z7
  generalize w.drewN nq=W at HW⊢
  obtain⟨z0,z2,z4,z5,z6,z7⟩:=HW.facts hop hl rfl rfl
  have HW0:=Lib.hid HW
  skip
  go_wp2_with fail
  refine Q1e (Facts:=fun V=>Q0a S0 w0 m a r (.blk W.heap.size #[.int .u32 (s.f.a%4)]::rs) s V) ?_ (by rw[←HBIT.out];exact HW0.out.box rfl _ _)
  intro W1 HW1
  refine(HWT.out _ _ HW1).mono ?_
  rintro e w1⟨rfl,H1⟩
  go_wp2_with fail
  refine(Q0r H1 (by have:=HC.out;first|exact Nat.le_trans this (by decide)|(simp[Rn.note,Rn.did,Rn.Q0h,Rn.setB,Rn.waited,Rn.goto,Rn.Q0d];omega)) 4 0).mono ?_
  rintro e w2⟨rfl,H2⟩
  go_wp2_with fail
  go_ret
  exact⟨rfl,H2.Q0N⟩
 ·go_enter Tryz.func93,Tryz.ntmps93
  go_wp2_with fail
  go_quiet (fail)
  have HW:=HH.out.drewN nq
  clear z0 z2 z4 z5 z6 z7
  generalize w.drewN nq=W at HW⊢
  obtain⟨z0,z2,z4,z5,z6,z7⟩:=HW.facts hop hl rfl rfl
  have HW0:=Lib.hid HW
  skip
  go_wp2_with fail
  refine Q1e (Facts:=fun V=>Q0a S0 w0 m a r (.blk W.heap.size #[.int .u32 (s.f.a%4)]::rs) s V) ?_ (by rw[←HBIT.out];exact HW0.out.box rfl _ _)
  intro W1 HW1
  refine(HWT.out _ _ HW1).mono ?_
  rintro e w1⟨rfl,H1⟩
  go_wp2_with fail
  refine(Q0r H1 (by have:=HC.out;first|exact Nat.le_trans this (by decide)|(simp[Rn.note,Rn.did,Rn.Q0h,Rn.setB,Rn.waited,Rn.goto,Rn.Q0d];omega)) 4 0).mono ?_
  rintro e w2⟨rfl,H2⟩
  go_wp2_with fail
  refine(Q1x H2 true).mono ?_
  rintro e w3⟨rfl,H3⟩
  go_wp2_with fail
  go_ret
  exact⟨rfl,H3.Q0N⟩
def Q1m(s:Rn):Rn:=
 (((s.did (doA s.L ⟨3,1,256,0,0⟩)).note 6 0).wake 1).fin true
theorem Y3H{S0:List Nat}{w0 w:World}{m a r:Nat}{rs:List Res}{s:Rn}(H:Q0a S0 w0 m a r rs s w)(hop:s.f.op=2)(hl:s.f.line=0)(hn:I64 s.n)(ha:0≤s.f.a∧s.f.a<4294967296)(hc:s.notes.length≤900):
 Calls Tryz.prog 93 #[.pointer (some ⟨r,0,none⟩), .int .i64 0, .int .i64 1] w fun e w'=>e= .returned (.bool true)∧Q0a S0 w0 m a r rs (Q1m s) w':=by
 obtain⟨z0,z2,z4,z5,z6,z7⟩:=H.facts hop hl rfl rfl
 have HC:=Lib.hid hc
 have HA:=Lib.hid ha
 have HN:=Lib.hid hn
 have HH:=Lib.hid H
 clear hc H hn ha
 unfold Q1m
 (try dsimp only)
 go_enter Tryz.func93,Tryz.ntmps93
 go_wp2_with fail
 go_quiet (fail)
 have HW:=HH.out.drewN nq
 clear z0 z2 z4 z5 z6 z7
 generalize w.drewN nq=W at HW⊢
 obtain⟨z0,z2,z4,z5,z6,z7⟩:=HW.facts hop hl rfl rfl
 go_wp2_with fail
 refine(Q2f HW 1 256 (by decide)).mono ?_
 rintro e w1⟨rfl,H1⟩
 go_wp2_with fail
 refine(Q0r H1 (by have:=HC.out;first|exact Nat.le_trans this (by decide)|(simp[Rn.note,Rn.did,Rn.Q0h,Rn.setB,Rn.waited,Rn.goto,Rn.Q0d];omega)) 6 0).mono ?_
 rintro e w2⟨rfl,H2⟩
 go_wp2_with fail
 refine(Q3l H2 1).mono ?_
 rintro e w3⟨rfl,H3⟩
 go_wp2_with fail
 refine(Q1x H3 true).mono ?_
 rintro e w4⟨rfl,H4⟩
 go_wp2_with fail
 go_ret
 exact⟨rfl,H4⟩
def Q1l(s:Rn):Rn:=
 let s1:=(s.did (doA s.L ⟨1,0,0,0,0⟩)).Q0h (doA s.L ⟨1,0,0,0,0⟩).1.old
 if(doA s.L ⟨1,0,0,0,0⟩).1.old%4=0 then s1.goto 1 else(s1.note 5 0).fin false
theorem Y3G{S0:List Nat}{w0 w:World}{m a r:Nat}{rs:List Res}{s:Rn}(H:Q0a S0 w0 m a r rs s w)(hop:s.f.op=5)(hl:s.f.line=0)(hn:I64 s.n)(ha:0≤s.f.a∧s.f.a<4294967296)(hc:s.notes.length≤900):
 Calls Tryz.prog 93 #[.pointer (some ⟨r,0,none⟩), .int .i64 0, .int .i64 1] w fun e w'=>e= .returned (.bool true)∧Q0a S0 w0 m a r rs (Q1l s) w':=by
 obtain⟨z0,z2,z4,z5,z6,z7⟩:=H.facts hop hl rfl rfl
 have HC:=Lib.hid hc
 have HA:=Lib.hid ha
 have HN:=Lib.hid hn
 have HV:=Lib.hid (H.old ⟨1,0,0,0,0⟩)
 have HH:=Lib.hid H
 clear hc H hn ha
 unfold Q1l
 (try dsimp only)
 by_cases hq:(doA s.L ⟨1,0,0,0,0⟩).1.old%4=0
 ·simp only[if_pos hq]
  have HQ:=Lib.hid hq
  clear hq
  go_enter Tryz.func93,Tryz.ntmps93
  go_wp2_with fail
  go_quiet (fail)
  have HW:=HH.out.drewN nq
  clear z0 z2 z4 z5 z6 z7
  generalize w.drewN nq=W at HW⊢
  obtain⟨z0,z2,z4,z5,z6,z7⟩:=HW.facts hop hl rfl rfl
  go_wp2_with fail
  refine(Q1r HW 0).mono ?_
  rintro e w1⟨rfl,H1⟩
  obtain⟨x0,x2,x4,x5,x6,x7⟩:=H1.facts hop hl rfl rfl
  have hv:=HV.out
  have hbit:=Q9H (doA s.L ⟨1,0,0,0,0⟩).1.old hv
  have hz:(Go.bits .and .u32 (doA s.L ⟨1,0,0,0,0⟩).1.old 3 !=0)=false:=by rw[hbit];simpa using HQ.out
  clear hv hbit
  go_wp2_with fail
  refine(Q1j (H1.Q0h (doA s.L ⟨1,0,0,0,0⟩).1.old) 1).mono ?_
  rintro e w2⟨rfl,H2⟩
  go_wp2_with fail
  go_ret
  exact⟨rfl,H2⟩
 ·simp only[if_neg hq]
  have HQ:=Lib.hid hq
  clear hq
  go_enter Tryz.func93,Tryz.ntmps93
  go_wp2_with fail
  go_quiet (fail)
  have HW:=HH.out.drewN nq
  clear z0 z2 z4 z5 z6 z7
  generalize w.drewN nq=W at HW⊢
  obtain⟨z0,z2,z4,z5,z6,z7⟩:=HW.facts hop hl rfl rfl
  go_wp2_with fail
  refine(Q1r HW 0).mono ?_
  rintro e w1⟨rfl,H1⟩
  obtain⟨x0,x2,x4,x5,x6,x7⟩:=H1.facts hop hl rfl rfl
  have hv:=HV.out
  have hbit:=Q9H (doA s.L ⟨1,0,0,0,0⟩).1.old hv
  have hz:(Go.bits .and .u32 (doA s.L ⟨1,0,0,0,0⟩).1.old 3 !=0)=true:=by rw[hbit];simpa using HQ.out
  clear hv hbit
  go_wp2_with fail
  refine(Q0r (H1.Q0h (doA s.L ⟨1,0,0,0,0⟩).1.old) (by have:=HC.out;first|exact Nat.le_trans this (by decide)|(simp[Rn.note,Rn.did,Rn.Q0h,Rn.setB,Rn.waited,Rn.goto,Rn.Q0d];omega)) 5 0).mono ?_
  rintro e w2⟨rfl,H2⟩
  go_wp2_with fail
  refine(Q1x H2 false).mono ?_
  rintro e w3⟨rfl,H3⟩
  go_wp2_with fail
  go_ret
  exact⟨rfl,H3⟩
def Q1k(s:Rn):Rn:=
 if Q7N s.L 0 s.f.a ((s.f.a+256)%4294967296)then(((s.did (doA s.L ⟨5,0,s.f.a,(s.f.a+256)%4294967296,0⟩)).note 2 1).note 4 0).fin true else(s.did (doA s.L ⟨5,0,s.f.a,(s.f.a+256)%4294967296,0⟩)).goto 0
theorem Y3F{S0:List Nat}{w0 w:World}{m a r:Nat}{rs:List Res}{s:Rn}(H:Q0a S0 w0 m a r rs s w)(hop:s.f.op=5)(hl:s.f.line=1)(hn:I64 s.n)(ha:0≤s.f.a∧s.f.a<4294967296)(hc:s.notes.length≤900):
 Calls Tryz.prog 93 #[.pointer (some ⟨r,0,none⟩), .int .i64 0, .int .i64 1] w fun e w'=>e= .returned (.bool true)∧Q0a S0 w0 m a r rs (Q1k s) w':=by
 obtain⟨z0,z2,z4,z5,z6,z7⟩:=H.facts hop hl rfl rfl
 have HC:=Lib.hid hc
 have HA:=Lib.hid ha
 have HN:=Lib.hid hn
 have HH:=Lib.hid H
 clear hc H hn ha
 unfold Q1k
 (try dsimp only)
 have hcas:=fun W (H:Q0a S0 w0 m a r rs s W)=>Q6m H 0 s.f.a ((s.f.a+256)%4294967296) HA.out (by have:=HA.out;omega)
 cases hb:Q7N s.L 0 s.f.a ((s.f.a+256)%4294967296)with
 |true=>
  rw[hb]at hcas
  simp only[if_true]
  have HCAS:=Lib.hid hcas
  clear hcas hb
  go_enter Tryz.func93,Tryz.ntmps93
  go_wp2_with fail
  go_quiet (fail)
  have HW:=HH.out.drewN nq
  clear z0 z2 z4 z5 z6 z7
  generalize w.drewN nq=W at HW⊢
  obtain⟨z0,z2,z4,z5,z6,z7⟩:=HW.facts hop hl rfl rfl
  go_wp2_with fail
  refine Q1a (by kernel_rfl) (by kernel_rfl) ?_
  simp only[Q0G,probes,List.nil_append,List.cons_append,probe]
  go_wp2_with fail
  refine(HCAS.out _ HW.drew).mono ?_
  rintro e w1⟨rfl,H1⟩
  go_wp2_with fail
  rw[Q0g]
  rename_i hK
  refine hK _ _ ?_
  clear hK
  go_wp2_with fail
  refine(Q0r H1 (by have:=HC.out;first|exact Nat.le_trans this (by decide)|(simp[Rn.note,Rn.did,Rn.Q0h,Rn.setB,Rn.waited,Rn.goto,Rn.Q0d];omega)) 2 1).mono ?_
  rintro e w2⟨rfl,H2⟩
  go_wp2_with fail
  refine(Q0r H2 (by have:=HC.out;first|exact Nat.le_trans this (by decide)|(simp[Rn.note,Rn.did,Rn.Q0h,Rn.setB,Rn.waited,Rn.goto,Rn.Q0d];omega)) 4 0).mono ?_
  rintro e w3⟨rfl,H3⟩
  go_wp2_with fail
  refine(Q1x H3 true).mono ?_
  rintro e w4⟨rfl,H4⟩
  go_wp2_with fail
  go_ret
  exact⟨rfl,H4⟩
 |false=>
  rw[hb]at hcas
  simp only[Bool.false_eq_true,if_false]
  have HCAS:=Lib.hid hcas
  clear hcas hb
  go_enter Tryz.func93,Tryz.ntmps93
  go_wp2_with fail
  go_quiet (fail)
  have HW:=HH.out.drewN nq
  clear z0 z2 z4 z5 z6 z7
  generalize w.drewN nq=W at HW⊢
  obtain⟨z0,z2,z4,z5,z6,z7⟩:=HW.facts hop hl rfl rfl
  go_wp2_with fail
  refine Q1a (by kernel_rfl) (by kernel_rfl) ?_
  simp only[Q0G,probes,List.nil_append,List.cons_append,probe]
  go_wp2_with fail
  refine(HCAS.out _ HW.drew).mono ?_
  rintro e w1⟨rfl,H1⟩
  go_wp2_with fail
  rw[Q0g]
  rename_i hK
  refine hK _ _ ?_
  clear hK
  go_wp2_with fail
  refine(Q1j H1 0).mono ?_
  rintro e w2⟨rfl,H2⟩
  go_wp2_with fail
  go_ret
  exact⟨rfl,H2⟩
theorem Q3G{S0:List Nat}{w0 w:World}{m a r:Nat}{rs:List Res}{s:Rn}(H:Q0a S0 w0 m a r rs s w){o l:Int}(hop:s.f.op=o)(hl:s.f.line=l)(h0: ¬(o=1∧l=0))(h1: ¬(o=1∧l=1))(h2: ¬(o=2∧l=0))(h3: ¬(o=5∧l=0))(h4: ¬(o=5∧l=1)):
 Calls Tryz.prog 93 #[.pointer (some ⟨r,0,none⟩), .int .i64 0, .int .i64 1] w fun e w'=>e= .returned (.bool false)∧Q0a S0 w0 m a r rs s w':=by
 obtain⟨z0,z2,z4,z5,z6,z7⟩:=H.facts hop hl rfl rfl
 have HH:=Lib.hid H
 clear H
 go_enter Tryz.func93,Tryz.ntmps93
 go_wp2_with fail
 go_quiet (fail)
 have HW:=HH.out.drewN nq
 clear z0 z2 z4 z5 z6 z7
 generalize w.drewN nq=W at HW⊢
 obtain⟨z0,z2,z4,z5,z6,z7⟩:=HW.facts hop hl rfl rfl
 go_wp2_with fail
 all_goals
  go_ret
  exact⟨rfl,HW⟩
attribute [local go_sem↓] Go.wp_at_zero Go.wp_at_succ
theorem X1m(tail:Int)(s:Rn):(Q0L tail s).2.2.notes=s.notes:=by
 unfold Q0L
 split
 ·rfl
 split<;>rfl
def Q1d(q:Int)(ok:Bool)(s:Rn):Rn:=if(Q0v 2 q [8] s).1 then(Q0v 2 q [8] s).2.fin ok else(Q0v 2 q [8] s).2
theorem Y0I{S0:List Nat}{w0 w:World}{m a r:Nat}{rs:List Res}{s:Rn}(H:Q0a S0 w0 m a r rs s w){o l:Int}(hop:s.f.op=o)(hl:s.f.line=l)(h5:l=5)(hn:I64 s.n)(ha:0≤s.f.a∧s.f.a<4294967296)(hb:0≤s.f.b∧s.f.b<4294967296)(hc:s.notes.length≤800):
 Calls Tryz.prog 98 #[.pointer (some ⟨r,0,none⟩)] w fun e w'=>e= .returned (.tuple #[])∧Q0a S0 w0 m a r rs (((s.did (doA s.L ⟨1,3,0,0,0⟩)).setB (doA s.L ⟨1,3,0,0,0⟩).1.old).goto 6) w':=by
 obtain⟨z0,z2,z4,z5,z6,z7⟩:=H.facts hop hl rfl rfl
 have HC:=Lib.hid hc
 have HA:=Lib.hid ha
 have HBB:=Lib.hid hb
 have HN:=Lib.hid hn
 have HH:=Lib.hid H
 clear hc H hn ha hb
 subst h5
 go_enter Tryz.func98,Tryz.ntmps98
 go_wp2_with fail
 refine Q1e (Facts:=fun V=>Q0a S0 w0 m a r (.blk w.heap.size #[.int .u32 s.f.a]::rs) s V) ?_ (by first|exact HH.out.box rfl _ _|exact(HH.out.box rfl _ _).drew|exact HH.out.drew.box rfl _ _)
 clear z0 z2 z4 z5 z6 z7
 intro W HW
 generalize w.heap.size=tb at HW⊢
 obtain⟨z0,z2,z4,z5,z6,z7⟩:=HW.facts hop hl rfl rfl
 refine(Q1r HW 3).mono ?_
 rintro e w1⟨rfl,H1⟩
 obtain⟨x0,x2,x4,x5,x6,x7⟩:=H1.facts hop hl rfl rfl
 go_wp2_with fail
 refine(Q1j (H1.setB (doA s.L ⟨1,3,0,0,0⟩).1.old) 6).mono ?_
 rintro e w2⟨rfl,H2⟩
 go_wp2_with fail
 go_end0
 exact⟨rfl,H2.Q0N⟩
theorem Y0H{S0:List Nat}{w0 w:World}{m a r:Nat}{rs:List Res}{s:Rn}(H:Q0a S0 w0 m a r rs s w){o l:Int}(hop:s.f.op=o)(hl:s.f.line=l)(h5:l=6)(hn:I64 s.n)(ha:0≤s.f.a∧s.f.a<4294967296)(hb:0≤s.f.b∧s.f.b<4294967296)(hc:s.notes.length≤800):
 Calls Tryz.prog 98 #[.pointer (some ⟨r,0,none⟩)] w fun e w'=>e= .returned (.tuple #[])∧Q0a S0 w0 m a r rs ((((s.did (doA s.L ⟨3,0,Q6u s.f.b,0,0⟩)).Q0h (doA s.L ⟨3,0,Q6u s.f.b,0,0⟩).1.old).note 3 0).goto 7) w':=by
 obtain⟨z0,z2,z4,z5,z6,z7⟩:=H.facts hop hl rfl rfl
 have HC:=Lib.hid hc
 have HA:=Lib.hid ha
 have HBB:=Lib.hid hb
 have HN:=Lib.hid hn
 have HH:=Lib.hid H
 clear hc H hn ha hb
 subst h5
 go_enter Tryz.func98,Tryz.ntmps98
 go_wp2_with fail
 refine Q1e (Facts:=fun V=>Q0a S0 w0 m a r (.blk w.heap.size #[.int .u32 s.f.a]::rs) s V) ?_ (by first|exact HH.out.box rfl _ _|exact(HH.out.box rfl _ _).drew|exact HH.out.drew.box rfl _ _)
 clear z0 z2 z4 z5 z6 z7
 intro W HW
 generalize w.heap.size=tb at HW⊢
 obtain⟨z0,z2,z4,z5,z6,z7⟩:=HW.facts hop hl rfl rfl
 refine(Q2w _ _ HBB.out).mono ?_
 rintro e w9⟨rfl,rfl⟩
 go_wp2_with fail
 refine(Q2f HW 0 (Q6u s.f.b) (by have:0≤Q6u s.f.b∧Q6u s.f.b<4294967296:=(by unfold Q6u;omega);omega)).mono ?_
 rintro e w1⟨rfl,H1⟩
 obtain⟨x0,x2,x4,x5,x6,x7⟩:=H1.facts hop hl rfl rfl
 go_wp2_with fail
 refine(Q0r (H1.Q0h (doA s.L ⟨3,0,Q6u s.f.b,0,0⟩).1.old) (by have:=HC.out;first|exact Nat.le_trans this (by decide)|(simp[Rn.note,Rn.did,Rn.Q0h,Rn.setB,Rn.waited,Rn.goto,Rn.Q0d];omega)) 3 0).mono ?_
 rintro e w2⟨rfl,H2⟩
 go_wp2_with fail
 refine(Q1j H2 7).mono ?_
 rintro e w3⟨rfl,H3⟩
 go_wp2_with fail
 go_end0
 exact⟨rfl,H3.Q0N⟩
theorem Y0G{S0:List Nat}{w0 w:World}{m a r:Nat}{rs:List Res}{s:Rn}(H:Q0a S0 w0 m a r rs s w){o l:Int}(hop:s.f.op=o)(hl:s.f.line=l)(h5:l=7)(hn:I64 s.n)(ha:0≤s.f.a∧s.f.a<4294967296)(hb:0≤s.f.b∧s.f.b<4294967296)(hc:s.notes.length≤800):
 Calls Tryz.prog 98 #[.pointer (some ⟨r,0,none⟩)] w fun e w'=>e= .returned (.tuple #[])∧Q0a S0 w0 m a r rs (let s1:=s.waited (Q0t s.L s.n s.mode s.task s.f.st 1 (fun v=>v==s.f.a));let s2:=if(Q0t s.L s.n s.mode s.task s.f.st 1 (fun v=>v==s.f.a)).seen then s1.note 4 0 else s1;if(Q0t s.L s.n s.mode s.task s.f.st 1 (fun v=>v==s.f.a)).done then s2.fin true else s2) w':=by
 obtain⟨z0,z2,z4,z5,z6,z7⟩:=H.facts hop hl rfl rfl
 have HC:=Lib.hid hc
 have HA:=Lib.hid ha
 have HBB:=Lib.hid hb
 have HN:=Lib.hid hn
 have HH:=Lib.hid H
 clear hc H hn ha hb
 subst h5
 have hwt:=fun(t2:Nat) W (H:Q0a S0 w0 m a r (.blk t2 #[.int .u32 s.f.a]::rs) s W)=>Q3m H HN.out 1 141 #[] #[.pointer (some ⟨t2,0,none⟩)] (fun v=>v==s.f.a) (enters_of Tryz.func141 (by kernel_rfl) rfl) (fun W v h0 h1 H=>Y0B s.f.a v W H.first)
 cases hs:(Q0t s.L s.n s.mode s.task s.f.st 1 (fun v=>v==s.f.a)).seen<;>cases hd:(Q0t s.L s.n s.mode s.task s.f.st 1 (fun v=>v==s.f.a)).done<;>rw[hs,hd]at hwt<;>simp only[if_true,Bool.false_eq_true,if_false]<;>(have HWT:=Lib.hid hwt)<;>clear hwt hs hd
 ·go_enter Tryz.func98,Tryz.ntmps98
  go_wp2_with fail
  refine Q1e (Facts:=fun V=>Q0a S0 w0 m a r (.blk w.heap.size #[.int .u32 s.f.a]::rs) s V) ?_ (by first|exact HH.out.box rfl _ _|exact(HH.out.box rfl _ _).drew|exact HH.out.drew.box rfl _ _)
  clear z0 z2 z4 z5 z6 z7
  intro W HW
  generalize w.heap.size=tb at HW⊢
  obtain⟨z0,z2,z4,z5,z6,z7⟩:=HW.facts hop hl rfl rfl
  refine(HWT.out _ _ HW).mono ?_
  rintro e w1⟨rfl,H1⟩
  go_wp2_with fail
  go_end0
  exact⟨rfl,H1.Q0N⟩
 ·go_enter Tryz.func98,Tryz.ntmps98
  go_wp2_with fail
  refine Q1e (Facts:=fun V=>Q0a S0 w0 m a r (.blk w.heap.size #[.int .u32 s.f.a]::rs) s V) ?_ (by first|exact HH.out.box rfl _ _|exact(HH.out.box rfl _ _).drew|exact HH.out.drew.box rfl _ _)
  clear z0 z2 z4 z5 z6 z7
  intro W HW
  generalize w.heap.size=tb at HW⊢
  obtain⟨z0,z2,z4,z5,z6,z7⟩:=HW.facts hop hl rfl rfl
  refine(HWT.out _ _ HW).mono ?_
  rintro e w1⟨rfl,H1⟩
  go_wp2_with fail
  refine(Q1x H1 true).mono ?_
  rintro e w2⟨rfl,H2⟩
  go_wp2_with fail
  go_end0
  exact⟨rfl,H2.Q0N⟩
 ·go_enter Tryz.func98,Tryz.ntmps98
  go_wp2_with fail
  refine Q1e (Facts:=fun V=>Q0a S0 w0 m a r (.blk w.heap.size #[.int .u32 s.f.a]::rs) s V) ?_ (by first|exact HH.out.box rfl _ _|exact(HH.out.box rfl _ _).drew|exact HH.out.drew.box rfl _ _)
  clear z0 z2 z4 z5 z6 z7
  intro W HW
  generalize w.heap.size=tb at HW⊢
  obtain⟨z0,z2,z4,z5,z6,z7⟩:=HW.facts hop hl rfl rfl
  refine(HWT.out _ _ HW).mono ?_
  rintro e w1⟨rfl,H1⟩
  go_wp2_with fail
  refine(Q0r H1 (by have:=HC.out;first|exact Nat.le_trans this (by decide)|(simp[Rn.note,Rn.did,Rn.Q0h,Rn.setB,Rn.waited,Rn.goto,Rn.Q0d];omega)) 4 0).mono ?_
  rintro e w2⟨rfl,H2⟩
  go_wp2_with fail
  go_end0
  exact⟨rfl,H2.Q0N⟩
 ·go_enter Tryz.func98,Tryz.ntmps98
  go_wp2_with fail
  refine Q1e (Facts:=fun V=>Q0a S0 w0 m a r (.blk w.heap.size #[.int .u32 s.f.a]::rs) s V) ?_ (by first|exact HH.out.box rfl _ _|exact(HH.out.box rfl _ _).drew|exact HH.out.drew.box rfl _ _)
  clear z0 z2 z4 z5 z6 z7
  intro W HW
  generalize w.heap.size=tb at HW⊢
  obtain⟨z0,z2,z4,z5,z6,z7⟩:=HW.facts hop hl rfl rfl
  refine(HWT.out _ _ HW).mono ?_
  rintro e w1⟨rfl,H1⟩
  go_wp2_with fail
  refine(Q0r H1 (by have:=HC.out;first|exact Nat.le_trans this (by decide)|(simp[Rn.note,Rn.did,Rn.Q0h,Rn.setB,Rn.waited,Rn.goto,Rn.Q0d];omega)) 4 0).mono ?_
  rintro e w2⟨rfl,H2⟩
  go_wp2_with fail
  refine(Q1x H2 true).mono ?_
  rintro e w3⟨rfl,H3⟩
  go_wp2_with fail
  go_end0
  exact⟨rfl,H3.Q0N⟩
def Q0S(s:Rn):Rn:=if(Q0n 2 2 s).1 then(Q0n 2 2 s).2.goto 5 else(Q0n 2 2 s).2
theorem Y0F{S0:List Nat}{w0 w:World}{m a r:Nat}{rs:List Res}{s:Rn}(H:Q0a S0 w0 m a r rs s w){o l:Int}(hop:s.f.op=o)(hl:s.f.line=l)(h5: ¬l=5)(h6: ¬l=6)(h7: ¬l=7)(hn:I64 s.n)(ha:0≤s.f.a∧s.f.a<4294967296)(hb:0≤s.f.b∧s.f.b<4294967296)(hc:s.notes.length≤800):
 Calls Tryz.prog 98 #[.pointer (some ⟨r,0,none⟩)] w fun e w'=>e= .returned (.tuple #[])∧Q0a S0 w0 m a r rs (Q0S s) w':=by
 obtain⟨z0,z2,z4,z5,z6,z7⟩:=H.facts hop hl rfl rfl
 have HC:=Lib.hid hc
 have HA:=Lib.hid ha
 have HBB:=Lib.hid hb
 have HN:=Lib.hid hn
 have HH:=Lib.hid H
 clear hc H hn ha hb
 have he:=fun(tb:Nat) W (HX:Q0a S0 w0 m a r (.blk tb #[.int .u32 s.f.a]::rs) s W)=>X3X HX 2 2 HN.out HA.out (by have:=HC.out;omega)
 unfold Q0S
 generalize Q0n 2 2 s=R at he⊢
 obtain⟨b,s1⟩:=R
 have HE:=Lib.hid he
 clear he
 cases b with
 |true=>
  go_enter Tryz.func98,Tryz.ntmps98
  go_wp2_with fail
  refine Q1e (Facts:=fun V=>Q0a S0 w0 m a r (.blk w.heap.size #[.int .u32 s.f.a]::rs) s V) ?_ (by first|exact HH.out.box rfl _ _|exact(HH.out.box rfl _ _).drew|exact HH.out.drew.box rfl _ _)
  clear z0 z2 z4 z5 z6 z7
  intro W HW
  generalize w.heap.size=tb at HW⊢
  obtain⟨z0,z2,z4,z5,z6,z7⟩:=HW.facts hop hl rfl rfl
  refine(HE.out _ _ HW).mono ?_
  rintro e w1⟨rfl,H1⟩
  go_wp2_with fail
  refine(Q1j H1 5).mono ?_
  rintro e w2⟨rfl,H2⟩
  go_wp2_with fail
  go_end0
  exact⟨rfl,H2.Q0N⟩
 |false=>
  go_enter Tryz.func98,Tryz.ntmps98
  go_wp2_with fail
  refine Q1e (Facts:=fun V=>Q0a S0 w0 m a r (.blk w.heap.size #[.int .u32 s.f.a]::rs) s V) ?_ (by first|exact HH.out.box rfl _ _|exact(HH.out.box rfl _ _).drew|exact HH.out.drew.box rfl _ _)
  clear z0 z2 z4 z5 z6 z7
  intro W HW
  generalize w.heap.size=tb at HW⊢
  obtain⟨z0,z2,z4,z5,z6,z7⟩:=HW.facts hop hl rfl rfl
  refine(HE.out _ _ HW).mono ?_
  rintro e w1⟨rfl,H1⟩
  go_wp2_with fail
  go_end0
  exact⟨rfl,H1.Q0N⟩
def Q1h(s:Rn):Rn:=
 if s.f.line=5 then(((s.did (doA s.L ⟨1,3,0,0,0⟩)).setB (doA s.L ⟨1,3,0,0,0⟩).1.old).goto 6)
 else if s.f.line=6 then((((s.did (doA s.L ⟨3,0,Q6u s.f.b,0,0⟩)).Q0h (doA s.L ⟨3,0,Q6u s.f.b,0,0⟩).1.old).note 3 0).goto 7)
 else if s.f.line=7 then(let s1:=s.waited (Q0t s.L s.n s.mode s.task s.f.st 1 (fun v=>v==s.f.a));let s2:=if(Q0t s.L s.n s.mode s.task s.f.st 1 (fun v=>v==s.f.a)).seen then s1.note 4 0 else s1;if(Q0t s.L s.n s.mode s.task s.f.st 1 (fun v=>v==s.f.a)).done then s2.fin true else s2)
 else Q0S s
theorem Y3K{S0:List Nat}{w0 w:World}{m a r:Nat}{rs:List Res}{s:Rn}(H:Q0a S0 w0 m a r rs s w)(hn:I64 s.n)(ha:0≤s.f.a∧s.f.a<4294967296)(hb:0≤s.f.b∧s.f.b<4294967296)(hc:s.notes.length≤800):Calls Tryz.prog 98 #[.pointer (some ⟨r,0,none⟩)] w fun e w'=>e= .returned (.tuple #[])∧Q0a S0 w0 m a r rs (Q1h s) w':=by
 unfold Q1h
 split
 ·exact Y0I H rfl rfl (by assumption) hn ha hb hc
 split
 ·exact Y0H H rfl rfl (by assumption) hn ha hb hc
 split
 ·exact Y0G H rfl rfl (by assumption) hn ha hb hc
 ·exact Y0F H rfl rfl (by assumption) (by assumption) (by assumption) hn ha hb hc
theorem X4O{S0:List Nat}{w0 w:World}{m a r:Nat}{rs:List Res}{s:Rn}(H:Q0a S0 w0 m a r rs s w){o l:Int}(hop:s.f.op=o)(hl:s.f.line=l)(ho:o=4)(h0:l=0)(hn:I64 s.n)(ha:0≤s.f.a∧s.f.a<4294967296)(hb:0≤s.f.b∧s.f.b<4294967296)(hc:s.notes.length≤800):
 Calls Tryz.prog 99 #[.pointer (some ⟨r,0,none⟩)] w fun e w'=>e= .returned (.tuple #[])∧Q0a S0 w0 m a r rs (((s.did (doA s.L ⟨1,3,0,0,0⟩)).setB (doA s.L ⟨1,3,0,0,0⟩).1.old).goto 1) w':=by
 obtain⟨z0,z2,z4,z5,z6,z7⟩:=H.facts hop hl rfl rfl
 have HC:=Lib.hid hc
 have HA:=Lib.hid ha
 have HBB:=Lib.hid hb
 have HN:=Lib.hid hn
 have HH:=Lib.hid H
 clear hc H hn ha hb
 subst ho h0
 go_enter Tryz.func99,Tryz.ntmps99
 go_wp2_with fail
 refine(Q2w _ _ HBB.out).mono ?_
 rintro e w1⟨rfl,rfl⟩
 go_wp2_with fail
 go_quiet (fail)
 have HW:=HH.out.drewN nq
 clear z0 z2 z4 z5 z6 z7
 generalize w.drewN nq=W at HW⊢
 obtain⟨z0,z2,z4,z5,z6,z7⟩:=HW.facts hop hl rfl rfl
 go_wp2_with fail
 refine(Q1r HW 3).mono ?_
 rintro e w1⟨rfl,H1⟩
 obtain⟨x0,x2,x4,x5,x6,x7⟩:=H1.facts hop hl rfl rfl
 go_wp2_with fail
 refine(Q1j (H1.setB (doA s.L ⟨1,3,0,0,0⟩).1.old) 1).mono ?_
 rintro e w2⟨rfl,H2⟩
 go_wp2_with fail
 go_end0
 exact⟨rfl,H2⟩
theorem X4N{S0:List Nat}{w0 w:World}{m a r:Nat}{rs:List Res}{s:Rn}(H:Q0a S0 w0 m a r rs s w){o l:Int}(hop:s.f.op=o)(hl:s.f.line=l)(ho:o=4)(h0:l=1)(hn:I64 s.n)(ha:0≤s.f.a∧s.f.a<4294967296)(hb:0≤s.f.b∧s.f.b<4294967296)(hc:s.notes.length≤800):
 Calls Tryz.prog 99 #[.pointer (some ⟨r,0,none⟩)] w fun e w'=>e= .returned (.tuple #[])∧Q0a S0 w0 m a r rs ((((s.did (doA s.L ⟨3,0,(-Q6u s.f.b%4294967296),0,0⟩)).note 7 0).wake 0).goto 2) w':=by
 obtain⟨z0,z2,z4,z5,z6,z7⟩:=H.facts hop hl rfl rfl
 have HC:=Lib.hid hc
 have HA:=Lib.hid ha
 have HBB:=Lib.hid hb
 have HN:=Lib.hid hn
 have HH:=Lib.hid H
 clear hc H hn ha hb
 subst ho h0
 go_enter Tryz.func99,Tryz.ntmps99
 go_wp2_with fail
 refine(Q2w _ _ HBB.out).mono ?_
 rintro e w1⟨rfl,rfl⟩
 go_wp2_with fail
 go_quiet (fail)
 have HW:=HH.out.drewN nq
 clear z0 z2 z4 z5 z6 z7
 generalize w.drewN nq=W at HW⊢
 obtain⟨z0,z2,z4,z5,z6,z7⟩:=HW.facts hop hl rfl rfl
 go_wp2_with fail
 refine(Q2f HW 0 (-Q6u s.f.b%4294967296) (by omega)).mono ?_
 rintro e w1⟨rfl,H1⟩
 go_wp2_with fail
 refine(Q0r H1 (by have:=HC.out;first|exact Nat.le_trans this (by decide)|(simp[Rn.note,Rn.did,Rn.Q0h,Rn.setB,Rn.waited,Rn.goto,Rn.Q0d];omega)) 7 0).mono ?_
 rintro e w2⟨rfl,H2⟩
 go_wp2_with fail
 refine(Q3l H2 0).mono ?_
 rintro e w3⟨rfl,H3⟩
 go_wp2_with fail
 refine(Q1j H3 2).mono ?_
 rintro e w4⟨rfl,H4⟩
 go_wp2_with fail
 go_end0
 exact⟨rfl,H4⟩
theorem X4M{S0:List Nat}{w0 w:World}{m a r:Nat}{rs:List Res}{s:Rn}(H:Q0a S0 w0 m a r rs s w){o l:Int}(hop:s.f.op=o)(hl:s.f.line=l)(ho:o=4)(h0:l=2)(hn:I64 s.n)(ha:0≤s.f.a∧s.f.a<4294967296)(hb:0≤s.f.b∧s.f.b<4294967296)(hc:s.notes.length≤800):
 Calls Tryz.prog 99 #[.pointer (some ⟨r,0,none⟩)] w fun e w'=>e= .returned (.tuple #[])∧Q0a S0 w0 m a r rs ((s.did (doA s.L ⟨2,3,(s.f.b+1)%4294967296,0,0⟩)).goto 3) w':=by
 obtain⟨z0,z2,z4,z5,z6,z7⟩:=H.facts hop hl rfl rfl
 have HC:=Lib.hid hc
 have HA:=Lib.hid ha
 have HBB:=Lib.hid hb
 have HN:=Lib.hid hn
 have HH:=Lib.hid H
 clear hc H hn ha hb
 subst ho h0
 go_enter Tryz.func99,Tryz.ntmps99
 go_wp2_with fail
 refine(Q2w _ _ HBB.out).mono ?_
 rintro e w1⟨rfl,rfl⟩
 go_wp2_with fail
 go_quiet (fail)
 have HW:=HH.out.drewN nq
 clear z0 z2 z4 z5 z6 z7
 generalize w.drewN nq=W at HW⊢
 obtain⟨z0,z2,z4,z5,z6,z7⟩:=HW.facts hop hl rfl rfl
 go_wp2_with fail
 refine(Q4l HW 3 ((s.f.b+1)%4294967296) (by omega)).mono ?_
 rintro e w1⟨rfl,H1⟩
 go_wp2_with fail
 refine(Q1j H1 3).mono ?_
 rintro e w2⟨rfl,H2⟩
 go_wp2_with fail
 go_end0
 exact⟨rfl,H2⟩
theorem X4L{S0:List Nat}{w0 w:World}{m a r:Nat}{rs:List Res}{s:Rn}(H:Q0a S0 w0 m a r rs s w){o l:Int}(hop:s.f.op=o)(hl:s.f.line=l)(ho:o=8)(h0:l=0)(hn:I64 s.n)(ha:0≤s.f.a∧s.f.a<4294967296)(hb:0≤s.f.b∧s.f.b<4294967296)(hc:s.notes.length≤800):
 Calls Tryz.prog 99 #[.pointer (some ⟨r,0,none⟩)] w fun e w'=>e= .returned (.tuple #[])∧Q0a S0 w0 m a r rs (((s.did (doA s.L ⟨1,3,0,0,0⟩)).setB (doA s.L ⟨1,3,0,0,0⟩).1.old).goto 1) w':=by
 obtain⟨z0,z2,z4,z5,z6,z7⟩:=H.facts hop hl rfl rfl
 have HC:=Lib.hid hc
 have HA:=Lib.hid ha
 have HBB:=Lib.hid hb
 have HN:=Lib.hid hn
 have HH:=Lib.hid H
 clear hc H hn ha hb
 subst ho h0
 go_enter Tryz.func99,Tryz.ntmps99
 go_wp2_with fail
 refine(Q2w _ _ HBB.out).mono ?_
 rintro e w1⟨rfl,rfl⟩
 go_wp2_with fail
 go_quiet (fail)
 have HW:=HH.out.drewN nq
 clear z0 z2 z4 z5 z6 z7
 generalize w.drewN nq=W at HW⊢
 obtain⟨z0,z2,z4,z5,z6,z7⟩:=HW.facts hop hl rfl rfl
 go_wp2_with fail
 refine(Q1r HW 3).mono ?_
 rintro e w1⟨rfl,H1⟩
 obtain⟨x0,x2,x4,x5,x6,x7⟩:=H1.facts hop hl rfl rfl
 go_wp2_with fail
 refine(Q1j (H1.setB (doA s.L ⟨1,3,0,0,0⟩).1.old) 1).mono ?_
 rintro e w2⟨rfl,H2⟩
 go_wp2_with fail
 go_end0
 exact⟨rfl,H2⟩
theorem X4K{S0:List Nat}{w0 w:World}{m a r:Nat}{rs:List Res}{s:Rn}(H:Q0a S0 w0 m a r rs s w){o l:Int}(hop:s.f.op=o)(hl:s.f.line=l)(ho:o=8)(h0:l=1)(hn:I64 s.n)(ha:0≤s.f.a∧s.f.a<4294967296)(hb:0≤s.f.b∧s.f.b<4294967296)(hc:s.notes.length≤800):
 Calls Tryz.prog 99 #[.pointer (some ⟨r,0,none⟩)] w fun e w'=>e= .returned (.tuple #[])∧Q0a S0 w0 m a r rs ((((s.did (doA s.L ⟨3,0,((256-Q6u s.f.b)%4294967296),0,0⟩)).note 10 0).wake 0).goto 2) w':=by
 obtain⟨z0,z2,z4,z5,z6,z7⟩:=H.facts hop hl rfl rfl
 have HC:=Lib.hid hc
 have HA:=Lib.hid ha
 have HBB:=Lib.hid hb
 have HN:=Lib.hid hn
 have HH:=Lib.hid H
 clear hc H hn ha hb
 subst ho h0
 go_enter Tryz.func99,Tryz.ntmps99
 go_wp2_with fail
 refine(Q2w _ _ HBB.out).mono ?_
 rintro e w1⟨rfl,rfl⟩
 go_wp2_with fail
 go_quiet (fail)
 have HW:=HH.out.drewN nq
 clear z0 z2 z4 z5 z6 z7
 generalize w.drewN nq=W at HW⊢
 obtain⟨z0,z2,z4,z5,z6,z7⟩:=HW.facts hop hl rfl rfl
 go_wp2_with fail
 refine(Q2f HW 0 ((256-Q6u s.f.b)%4294967296) (by omega)).mono ?_
 rintro e w1⟨rfl,H1⟩
 go_wp2_with fail
 refine(Q0r H1 (by have:=HC.out;first|exact Nat.le_trans this (by decide)|(simp[Rn.note,Rn.did,Rn.Q0h,Rn.setB,Rn.waited,Rn.goto,Rn.Q0d];omega)) 10 0).mono ?_
 rintro e w2⟨rfl,H2⟩
 go_wp2_with fail
 refine(Q3l H2 0).mono ?_
 rintro e w3⟨rfl,H3⟩
 go_wp2_with fail
 refine(Q1j H3 2).mono ?_
 rintro e w4⟨rfl,H4⟩
 go_wp2_with fail
 go_end0
 exact⟨rfl,H4⟩
theorem X4J{S0:List Nat}{w0 w:World}{m a r:Nat}{rs:List Res}{s:Rn}(H:Q0a S0 w0 m a r rs s w){o l:Int}(hop:s.f.op=o)(hl:s.f.line=l)(ho:o=8)(h0:l=2)(hn:I64 s.n)(ha:0≤s.f.a∧s.f.a<4294967296)(hb:0≤s.f.b∧s.f.b<4294967296)(hc:s.notes.length≤800):
 Calls Tryz.prog 99 #[.pointer (some ⟨r,0,none⟩)] w fun e w'=>e= .returned (.tuple #[])∧Q0a S0 w0 m a r rs ((s.did (doA s.L ⟨2,3,(s.f.b+1)%4294967296,0,0⟩)).goto 3) w':=by
 obtain⟨z0,z2,z4,z5,z6,z7⟩:=H.facts hop hl rfl rfl
 have HC:=Lib.hid hc
 have HA:=Lib.hid ha
 have HBB:=Lib.hid hb
 have HN:=Lib.hid hn
 have HH:=Lib.hid H
 clear hc H hn ha hb
 subst ho h0
 go_enter Tryz.func99,Tryz.ntmps99
 go_wp2_with fail
 refine(Q2w _ _ HBB.out).mono ?_
 rintro e w1⟨rfl,rfl⟩
 go_wp2_with fail
 go_quiet (fail)
 have HW:=HH.out.drewN nq
 clear z0 z2 z4 z5 z6 z7
 generalize w.drewN nq=W at HW⊢
 obtain⟨z0,z2,z4,z5,z6,z7⟩:=HW.facts hop hl rfl rfl
 go_wp2_with fail
 refine(Q4l HW 3 ((s.f.b+1)%4294967296) (by omega)).mono ?_
 rintro e w1⟨rfl,H1⟩
 go_wp2_with fail
 refine(Q1j H1 3).mono ?_
 rintro e w2⟨rfl,H2⟩
 go_wp2_with fail
 go_end0
 exact⟨rfl,H2⟩
theorem X7W{S0:List Nat}{w0 w:World}{m a r:Nat}{rs:List Res}{s:Rn}(H:Q0a S0 w0 m a r rs s w){o l:Int}(hop:s.f.op=o)(hl:s.f.line=l)(h0: ¬(o=4∧l=0))(h1: ¬(o=8∧l=0))(h2: ¬(o=4∧l=1))(h3: ¬(o=8∧l=1))(h4: ¬(o=4∧l=2))(h5: ¬(o=8∧l=2))(hn:I64 s.n)(ha:0≤s.f.a∧s.f.a<4294967296)(hb:0≤s.f.b∧s.f.b<4294967296)(hc:s.notes.length≤800):
 Calls Tryz.prog 99 #[.pointer (some ⟨r,0,none⟩)] w fun e w'=>e= .returned (.tuple #[])∧Q0a S0 w0 m a r rs (Q1d 3 true s) w':=by
 obtain⟨z0,z2,z4,z5,z6,z7⟩:=H.facts hop hl rfl rfl
 have HC:=Lib.hid hc
 have HA:=Lib.hid ha
 have HBB:=Lib.hid hb
 have HN:=Lib.hid hn
 have HH:=Lib.hid H
 clear hc H hn ha hb
 have he:=fun(g:Nat) W (HX:Q0a S0 w0 m a r (.blk g (Q3S [8]).toArray::rs) s W)=>X2z (c:=1) 2 3 (nl:=[8]) (nn:=1) rfl (by decide) (by have:=HC.out;simp;omega) HX HN.out HA.out
 unfold Q1d
 generalize Q0v 2 3 [8] s=R at he⊢
 obtain⟨b,s1⟩:=R
 have HE:=Lib.hid he
 clear he
 cases b with
 |true=>
  go_enter Tryz.func99,Tryz.ntmps99
  go_wp2_with fail
  refine(Q2w _ _ HBB.out).mono ?_
  rintro e w1⟨rfl,rfl⟩
  go_wp2_with fail
  go_quiet (fail)
  have HW:=HH.out.drewN nq
  clear z0 z2 z4 z5 z6 z7
  generalize w.drewN nq=W at HW⊢
  obtain⟨z0,z2,z4,z5,z6,z7⟩:=HW.facts hop hl rfl rfl
  go_wp2_with fail
  all_goals
   refine(HE.out _ _ (HW.box rfl _ _)).mono ?_
   rintro e w7⟨rfl,H7⟩
   go_wp2_with fail
   refine(Q1x H7 true).mono ?_
   rintro e w8⟨rfl,H8⟩
   go_wp2_with fail
   go_end0
   exact⟨rfl,H8.Q0N⟩
 |false=>
  go_enter Tryz.func99,Tryz.ntmps99
  go_wp2_with fail
  refine(Q2w _ _ HBB.out).mono ?_
  rintro e w1⟨rfl,rfl⟩
  go_wp2_with fail
  go_quiet (fail)
  have HW:=HH.out.drewN nq
  clear z0 z2 z4 z5 z6 z7
  generalize w.drewN nq=W at HW⊢
  obtain⟨z0,z2,z4,z5,z6,z7⟩:=HW.facts hop hl rfl rfl
  go_wp2_with fail
  all_goals
   refine(HE.out _ _ (HW.box rfl _ _)).mono ?_
   rintro e w7⟨rfl,H7⟩
   go_wp2_with fail
   go_end0
   exact⟨rfl,H7.Q0N⟩
def Q0M(s:Rn):Rn:=
 if s.f.op=4∧s.f.line=0 then(((s.did (doA s.L ⟨1,3,0,0,0⟩)).setB (doA s.L ⟨1,3,0,0,0⟩).1.old).goto 1)
 else if s.f.op=8∧s.f.line=0 then(((s.did (doA s.L ⟨1,3,0,0,0⟩)).setB (doA s.L ⟨1,3,0,0,0⟩).1.old).goto 1)
 else if s.f.op=4∧s.f.line=1 then((((s.did (doA s.L ⟨3,0,(-Q6u s.f.b%4294967296),0,0⟩)).note 7 0).wake 0).goto 2)
 else if s.f.op=8∧s.f.line=1 then((((s.did (doA s.L ⟨3,0,((256-Q6u s.f.b)%4294967296),0,0⟩)).note 10 0).wake 0).goto 2)
 else if s.f.op=4∧s.f.line=2 then((s.did (doA s.L ⟨2,3,(s.f.b+1)%4294967296,0,0⟩)).goto 3)
 else if s.f.op=8∧s.f.line=2 then((s.did (doA s.L ⟨2,3,(s.f.b+1)%4294967296,0,0⟩)).goto 3)
 else Q1d 3 true s
theorem X3H{S0:List Nat}{w0 w:World}{m a r:Nat}{rs:List Res}{s:Rn}(H:Q0a S0 w0 m a r rs s w)(hn:I64 s.n)(ha:0≤s.f.a∧s.f.a<4294967296)(hb:0≤s.f.b∧s.f.b<4294967296)(hc:s.notes.length≤800):Calls Tryz.prog 99 #[.pointer (some ⟨r,0,none⟩)] w fun e w'=>e= .returned (.tuple #[])∧Q0a S0 w0 m a r rs (Q0M s) w':=by
 unfold Q0M
 split
 ·exact X4O H rfl rfl (by omega) (by omega) hn ha hb hc
 split
 ·exact X4L H rfl rfl (by omega) (by omega) hn ha hb hc
 split
 ·exact X4N H rfl rfl (by omega) (by omega) hn ha hb hc
 split
 ·exact X4K H rfl rfl (by omega) (by omega) hn ha hb hc
 split
 ·exact X4M H rfl rfl (by omega) (by omega) hn ha hb hc
 split
 ·exact X4J H rfl rfl (by omega) (by omega) hn ha hb hc
 ·exact X7W H rfl rfl (by assumption) (by assumption) (by assumption) (by assumption) (by assumption) (by assumption) hn ha hb hc
def Q1H(s:Rn):Rn:=
 if(Q0L 2 s).1 then(if(Q0L 2 s).2.1 then((Q0L 2 s).2.2.note 2 2).goto 2 else((Q0L 2 s).2.2.note 5 0).fin false)else(Q0L 2 s).2.2
theorem Y2i{S0:List Nat}{w0 w:World}{m a r:Nat}{rs:List Res}{s:Rn}(H:Q0a S0 w0 m a r rs s w)(hn:I64 s.n)(ha:0≤s.f.a∧s.f.a<4294967296)(hb:0≤s.f.b∧s.f.b<4294967296)(hc:s.notes.length≤800):
 Calls Tryz.prog 100 #[.pointer (some ⟨r,0,none⟩)] w fun e w'=>e= .returned (.tuple #[])∧Q0a S0 w0 m a r rs (Q1H s) w':=by
 have he:=Y2u H 2 hn
 have hnt:=X1m 2 s
 unfold Q1H
 generalize Q0L 2 s=R at he hnt⊢
 obtain⟨d,i,s1⟩:=R
 have hc1:s1.notes.length≤800:=by rw[show s1.notes=s.notes from hnt];exact hc
 have HC:=Lib.hid hc1
 have HE:=Lib.hid he
 clear he H hn ha hb hc hnt hc1
 cases d with
 |true=>
  cases i with
  |true=>
   go_enter Tryz.func100,Tryz.ntmps100
   go_wp2_with fail
   refine HE.out.mono ?_
   rintro e w1⟨rfl,H1⟩
   go_wp2_with fail
   refine(Q0r H1 (by have:=HC.out;first|exact Nat.le_trans this (by decide)|(simp[Rn.note,Rn.did,Rn.Q0h,Rn.setB,Rn.waited,Rn.goto,Rn.Q0d];omega)) 2 2).mono ?_
   rintro e w2⟨rfl,H2⟩
   go_wp2_with fail
   refine(Q1j H2 2).mono ?_
   rintro e w3⟨rfl,H3⟩
   go_wp2_with fail
   go_end0
   exact⟨rfl,H3⟩
  |false=>
   go_enter Tryz.func100,Tryz.ntmps100
   go_wp2_with fail
   refine HE.out.mono ?_
   rintro e w1⟨rfl,H1⟩
   go_wp2_with fail
   refine(Q0r H1 (by have:=HC.out;first|exact Nat.le_trans this (by decide)|(simp[Rn.note,Rn.did,Rn.Q0h,Rn.setB,Rn.waited,Rn.goto,Rn.Q0d];omega)) 5 0).mono ?_
   rintro e w2⟨rfl,H2⟩
   go_wp2_with fail
   refine(Q1x H2 false).mono ?_
   rintro e w3⟨rfl,H3⟩
   go_wp2_with fail
   go_end0
   exact⟨rfl,H3⟩
 |false=>
  go_enter Tryz.func100,Tryz.ntmps100
  go_wp2_with fail
  refine HE.out.mono ?_
  rintro e w1⟨rfl,H1⟩
  go_wp2_with fail
  go_end0
  exact⟨rfl,H1⟩
attribute [local go_sem↓] Go.wp_at_zero Go.wp_at_succ
theorem X4U{S0:List Nat}{w0 w:World}{m a r:Nat}{rs:List Res}{s:Rn}(H:Q0a S0 w0 m a r rs s w){o l:Int}(hop:s.f.op=o)(hl:s.f.line=l)(h0:l=2)(hn:I64 s.n)(ha:0≤s.f.a∧s.f.a<4294967296)(hb:0≤s.f.b∧s.f.b<4294967296)(hc:s.notes.length≤800):
 Calls Tryz.prog 101 #[.pointer (some ⟨r,0,none⟩)] w fun e w'=>e= .returned (.tuple #[])∧Q0a S0 w0 m a r rs (((s.did (doA s.L ⟨1,0,0,0,0⟩)).Q0h (doA s.L ⟨1,0,0,0,0⟩).1.old).goto 3) w':=by
 obtain⟨z0,z2,z4,z5,z6,z7⟩:=H.facts hop hl rfl rfl
 have HC:=Lib.hid hc
 have HA:=Lib.hid ha
 have HBB:=Lib.hid hb
 have HN:=Lib.hid hn
 have HH:=Lib.hid H
 clear hc H hn ha hb
 subst h0
 go_enter Tryz.func101,Tryz.ntmps101
 go_wp2_with fail
 refine(Q1r HH.out 0).mono ?_
 rintro e w1⟨rfl,H1⟩
 obtain⟨x0,x2,x4,x5,x6,x7⟩:=H1.facts hop hl rfl rfl
 go_wp2_with fail
 refine(Q1j (H1.Q0h (doA s.L ⟨1,0,0,0,0⟩).1.old) 3).mono ?_
 rintro e w2⟨rfl,H2⟩
 go_wp2_with fail
 go_end0
 exact⟨rfl,H2⟩
theorem X4T{S0:List Nat}{w0 w:World}{m a r:Nat}{rs:List Res}{s:Rn}(H:Q0a S0 w0 m a r rs s w){o l:Int}(hop:s.f.op=o)(hl:s.f.line=l)(h0:l=4)(hn:I64 s.n)(ha:0≤s.f.a∧s.f.a<4294967296)(hb:0≤s.f.b∧s.f.b<4294967296)(hc:s.notes.length≤800):
 Calls Tryz.prog 101 #[.pointer (some ⟨r,0,none⟩)] w fun e w'=>e= .returned (.tuple #[])∧Q0a S0 w0 m a r rs (((s.did (doA s.L ⟨1,3,0,0,0⟩)).setB (doA s.L ⟨1,3,0,0,0⟩).1.old).goto 5) w':=by
 obtain⟨z0,z2,z4,z5,z6,z7⟩:=H.facts hop hl rfl rfl
 have HC:=Lib.hid hc
 have HA:=Lib.hid ha
 have HBB:=Lib.hid hb
 have HN:=Lib.hid hn
 have HH:=Lib.hid H
 clear hc H hn ha hb
 subst h0
 go_enter Tryz.func101,Tryz.ntmps101
 go_wp2_with fail
 refine(Q1r HH.out 3).mono ?_
 rintro e w1⟨rfl,H1⟩
 obtain⟨x0,x2,x4,x5,x6,x7⟩:=H1.facts hop hl rfl rfl
 go_wp2_with fail
 refine(Q1j (H1.setB (doA s.L ⟨1,3,0,0,0⟩).1.old) 5).mono ?_
 rintro e w2⟨rfl,H2⟩
 go_wp2_with fail
 go_end0
 exact⟨rfl,H2⟩
theorem X4S{S0:List Nat}{w0 w:World}{m a r:Nat}{rs:List Res}{s:Rn}(H:Q0a S0 w0 m a r rs s w){o l:Int}(hop:s.f.op=o)(hl:s.f.line=l)(h0:l=5)(hn:I64 s.n)(ha:0≤s.f.a∧s.f.a<4294967296)(hb:0≤s.f.b∧s.f.b<4294967296)(hc:s.notes.length≤800):
 Calls Tryz.prog 101 #[.pointer (some ⟨r,0,none⟩)] w fun e w'=>e= .returned (.tuple #[])∧Q0a S0 w0 m a r rs ((((s.did (doA s.L ⟨3,0,Q6u s.f.b,0,0⟩)).Q0h (doA s.L ⟨3,0,Q6u s.f.b,0,0⟩).1.old).note 3 0).goto 6) w':=by
 obtain⟨z0,z2,z4,z5,z6,z7⟩:=H.facts hop hl rfl rfl
 have HC:=Lib.hid hc
 have HA:=Lib.hid ha
 have HBB:=Lib.hid hb
 have HN:=Lib.hid hn
 have HH:=Lib.hid H
 clear hc H hn ha hb
 subst h0
 go_enter Tryz.func101,Tryz.ntmps101
 go_wp2_with fail
 refine(Q2w _ _ HBB.out).mono ?_
 rintro e w9⟨rfl,rfl⟩
 go_wp2_with fail
 refine(Q2f HH.out 0 (Q6u s.f.b) (by have:0≤Q6u s.f.b∧Q6u s.f.b<4294967296:=(by unfold Q6u;omega);omega)).mono ?_
 rintro e w1⟨rfl,H1⟩
 obtain⟨x0,x2,x4,x5,x6,x7⟩:=H1.facts hop hl rfl rfl
 go_wp2_with fail
 refine(Q0r (H1.Q0h (doA s.L ⟨3,0,Q6u s.f.b,0,0⟩).1.old) (by have:=HC.out;first|exact Nat.le_trans this (by decide)|(simp[Rn.note,Rn.did,Rn.Q0h,Rn.setB,Rn.waited,Rn.goto,Rn.Q0d];omega)) 3 0).mono ?_
 rintro e w2⟨rfl,H2⟩
 go_wp2_with fail
 refine(Q1j H2 6).mono ?_
 rintro e w3⟨rfl,H3⟩
 go_wp2_with fail
 go_end0
 exact⟨rfl,H3⟩
def Q1M(s:Rn):Rn:=
 let s1:=(s.did (doA s.L ⟨1,1,0,0,0⟩)).setB (doA s.L ⟨1,1,0,0,0⟩).1.old
 if 0<Q1s s.f.a (doA s.L ⟨1,1,0,0,0⟩).1.old then(s1.note 5 0).goto 8 else s1.goto 4
theorem X4Q{S0:List Nat}{w0 w:World}{m a r:Nat}{rs:List Res}{s:Rn}(H:Q0a S0 w0 m a r rs s w){l:Int}(hop:s.f.op=6)(hl:s.f.line=l)(ha:0≤s.f.a∧s.f.a<4294967296)(hc:s.notes.length≤800):
 Calls Tryz.prog 145 #[.pointer (some ⟨r,0,none⟩)] w fun e w'=>e= .returned (.tuple #[])∧Q0a S0 w0 m a r rs (Q1M s) w':=by
 have hv:=H.old ⟨1,1,0,0,0⟩
 have hah:=fun W=>Q5k s.f.a (doA s.L ⟨1,1,0,0,0⟩).1.old W ha hv
 have HC:=Lib.hid hc
 have HAH:=Lib.hid hah
 have HH:=Lib.hid H
 clear hv hah hc H ha
 unfold Q1M
 dsimp only
 generalize Q1s s.f.a (doA s.L ⟨1,1,0,0,0⟩).1.old=n at HAH⊢
 have hw0:IntKind.i64.wrap 0=0:=by decide
 by_cases c1:0<n
 ·rw[if_pos c1]
  have d1:decide (0<n)=true:=by simpa using c1
  have HD1:=Lib.hid c1
  clear c1
  go_enter Tryz.func145,Tryz.ntmps145
  go_wp2_with fail
  refine(Q1r HH.out 1).mono ?_
  rintro e w1⟨rfl,H1⟩
  obtain⟨x0,x2,x4,x5,x6,x7⟩:=H1.facts hop hl rfl rfl
  go_wp2_with fail
  have H2:=(H1.setB (doA s.L ⟨1,1,0,0,0⟩).1.old).drew
  have hd6:((w1.setCell ⟨r,7,none⟩ (.int .u32 (doA s.L ⟨1,1,0,0,0⟩).1.old)).drew).cell? ⟨r,6,none⟩=some (.int .u32 s.f.a):=(H2.facts hop hl rfl rfl).2.2.2.2.1
  have hd7:((w1.setCell ⟨r,7,none⟩ (.int .u32 (doA s.L ⟨1,1,0,0,0⟩).1.old)).drew).cell? ⟨r,7,none⟩=some (.int .u32 (doA s.L ⟨1,1,0,0,0⟩).1.old):=(H2.facts hop hl rfl rfl).2.2.2.2.2
  go_region_held3 (fun w'=>w'.cell? ⟨r,6,none⟩=some (.int .u32 s.f.a)∧w'.cell? ⟨r,7,none⟩=some (.int .u32 (doA s.L ⟨1,1,0,0,0⟩).1.old)∧Q0a S0 w0 m a r rs ((s.did (doA s.L ⟨1,1,0,0,0⟩)).setB (doA s.L ⟨1,1,0,0,0⟩).1.old) w')
   (first|(go_split_ands;refine⟨?_,?_,?_⟩<;>assumption))
   (first|(go_at_call 168;(with_reducible refine(HAH.out _).mono ?_);rintro e w4 ⟨rfl,rfl⟩)|(go_at_call 179;refine(Q4s H2 hop hl).mono ?_;rintro e w5 ⟨rfl,rfl⟩))
  all_goals
   go_wp2_with fail
   refine(Q0r H2 (by have:=HC.out;first|exact Nat.le_trans this (by decide)|(simp[Rn.note,Rn.did,Rn.Q0h,Rn.setB,Rn.waited,Rn.goto,Rn.Q0d];omega)) 5 0).mono ?_
   rintro e w3⟨rfl,H3⟩
   go_wp2_with fail
   refine(Q1j H3 8).mono ?_
   rintro e w4⟨rfl,H4⟩
   go_wp2_with fail
   (try simp only[Exit.inBlock,Exit.then]);refine bodyPost_ret (results_none rfl _ _ _) rfl ?_
   exact⟨rfl,H4⟩
 ·rw[if_neg c1]
  have d1:decide (0<n)=false:=by simpa using c1
  clear c1
  go_enter Tryz.func145,Tryz.ntmps145
  go_wp2_with fail
  refine(Q1r HH.out 1).mono ?_
  rintro e w1⟨rfl,H1⟩
  obtain⟨x0,x2,x4,x5,x6,x7⟩:=H1.facts hop hl rfl rfl
  go_wp2_with fail
  have H2:=(H1.setB (doA s.L ⟨1,1,0,0,0⟩).1.old).drew
  have hd6:((w1.setCell ⟨r,7,none⟩ (.int .u32 (doA s.L ⟨1,1,0,0,0⟩).1.old)).drew).cell? ⟨r,6,none⟩=some (.int .u32 s.f.a):=(H2.facts hop hl rfl rfl).2.2.2.2.1
  have hd7:((w1.setCell ⟨r,7,none⟩ (.int .u32 (doA s.L ⟨1,1,0,0,0⟩).1.old)).drew).cell? ⟨r,7,none⟩=some (.int .u32 (doA s.L ⟨1,1,0,0,0⟩).1.old):=(H2.facts hop hl rfl rfl).2.2.2.2.2
  go_region_held3 (fun w'=>w'.cell? ⟨r,6,none⟩=some (.int .u32 s.f.a)∧w'.cell? ⟨r,7,none⟩=some (.int .u32 (doA s.L ⟨1,1,0,0,0⟩).1.old)∧Q0a S0 w0 m a r rs ((s.did (doA s.L ⟨1,1,0,0,0⟩)).setB (doA s.L ⟨1,1,0,0,0⟩).1.old) w')
   (first|(go_split_ands;refine⟨?_,?_,?_⟩<;>assumption))
   (first|(go_at_call 168;(with_reducible refine(HAH.out _).mono ?_);rintro e w4 ⟨rfl,rfl⟩)|(go_at_call 179;refine(Q4s H2 hop hl).mono ?_;rintro e w5 ⟨rfl,rfl⟩))
  all_goals
   go_wp2_with fail
   refine(Q1j H2 4).mono ?_
   rintro e w3⟨rfl,H3⟩
   go_wp2_with fail
   go_end0
   exact⟨rfl,H3⟩
theorem X2t{S0:List Nat}{w0 w:World}{m a r:Nat}{rs:List Res}{s:Rn}(H:Q0a S0 w0 m a r rs s w){o l:Int}(hop:s.f.op=o)(hl:s.f.line=l)(ho:o=6)(h0:l=3)(hn:I64 s.n)(ha:0≤s.f.a∧s.f.a<4294967296)(hb:0≤s.f.b∧s.f.b<4294967296)(hc:s.notes.length≤800):
 Calls Tryz.prog 101 #[.pointer (some ⟨r,0,none⟩)] w fun e w'=>e= .returned (.tuple #[])∧Q0a S0 w0 m a r rs (Q1M s) w':=by
 obtain⟨z0,z2,z4,z5,z6,z7⟩:=H.facts hop hl rfl rfl
 have HC:=Lib.hid hc
 have HA:=Lib.hid ha
 have HBB:=Lib.hid hb
 have HN:=Lib.hid hn
 have HH:=Lib.hid H
 clear hc H hn ha hb
 subst ho h0
 go_enter Tryz.func101,Tryz.ntmps101
 go_wp2_with fail
 refine(X4Q HH.out hop hl HA.out HC.out).mono ?_
 rintro e w1⟨rfl,H1⟩
 go_wp2_with fail
 go_end0
 exact⟨rfl,H1⟩
def Q1L(s:Rn):Rn:=
 let s1:=(s.did (doA s.L ⟨1,1,0,0,0⟩)).setB (doA s.L ⟨1,1,0,0,0⟩).1.old
 if 256<Q1s s.f.a (doA s.L ⟨1,1,0,0,0⟩).1.old then(s1.note 5 0).goto 8 else s1.goto 4
theorem X4P{S0:List Nat}{w0 w:World}{m a r:Nat}{rs:List Res}{s:Rn}(H:Q0a S0 w0 m a r rs s w){l:Int}(hop:s.f.op=7)(hl:s.f.line=l)(ha:0≤s.f.a∧s.f.a<4294967296)(hc:s.notes.length≤800):
 Calls Tryz.prog 145 #[.pointer (some ⟨r,0,none⟩)] w fun e w'=>e= .returned (.tuple #[])∧Q0a S0 w0 m a r rs (Q1L s) w':=by
 have hv:=H.old ⟨1,1,0,0,0⟩
 have hah:=fun W=>Q5k s.f.a (doA s.L ⟨1,1,0,0,0⟩).1.old W ha hv
 have HC:=Lib.hid hc
 have HAH:=Lib.hid hah
 have HH:=Lib.hid H
 clear hv hah hc H ha
 unfold Q1L
 dsimp only
 generalize Q1s s.f.a (doA s.L ⟨1,1,0,0,0⟩).1.old=n at HAH⊢
 have hw0:IntKind.i64.wrap 256=256:=by decide
 by_cases c1:256<n
 ·rw[if_pos c1]
  have d1:decide (256<n)=true:=by simpa using c1
  have HD1:=Lib.hid c1
  clear c1
  go_enter Tryz.func145,Tryz.ntmps145
  go_wp2_with fail
  refine(Q1r HH.out 1).mono ?_
  rintro e w1⟨rfl,H1⟩
  obtain⟨x0,x2,x4,x5,x6,x7⟩:=H1.facts hop hl rfl rfl
  go_wp2_with fail
  have H2:=(H1.setB (doA s.L ⟨1,1,0,0,0⟩).1.old).drew
  have hd6:((w1.setCell ⟨r,7,none⟩ (.int .u32 (doA s.L ⟨1,1,0,0,0⟩).1.old)).drew).cell? ⟨r,6,none⟩=some (.int .u32 s.f.a):=(H2.facts hop hl rfl rfl).2.2.2.2.1
  have hd7:((w1.setCell ⟨r,7,none⟩ (.int .u32 (doA s.L ⟨1,1,0,0,0⟩).1.old)).drew).cell? ⟨r,7,none⟩=some (.int .u32 (doA s.L ⟨1,1,0,0,0⟩).1.old):=(H2.facts hop hl rfl rfl).2.2.2.2.2
  go_region_held3 (fun w'=>w'.cell? ⟨r,6,none⟩=some (.int .u32 s.f.a)∧w'.cell? ⟨r,7,none⟩=some (.int .u32 (doA s.L ⟨1,1,0,0,0⟩).1.old)∧Q0a S0 w0 m a r rs ((s.did (doA s.L ⟨1,1,0,0,0⟩)).setB (doA s.L ⟨1,1,0,0,0⟩).1.old) w')
   (first|(go_split_ands;refine⟨?_,?_,?_⟩<;>assumption))
   (first|(go_at_call 168;(with_reducible refine(HAH.out _).mono ?_);rintro e w4 ⟨rfl,rfl⟩)|(go_at_call 179;refine(Q4r H2 hop hl).mono ?_;rintro e w5 ⟨rfl,rfl⟩))
  all_goals
   go_wp2_with fail
   refine(Q0r H2 (by have:=HC.out;first|exact Nat.le_trans this (by decide)|(simp[Rn.note,Rn.did,Rn.Q0h,Rn.setB,Rn.waited,Rn.goto,Rn.Q0d];omega)) 5 0).mono ?_
   rintro e w3⟨rfl,H3⟩
   go_wp2_with fail
   refine(Q1j H3 8).mono ?_
   rintro e w4⟨rfl,H4⟩
   go_wp2_with fail
   (try simp only[Exit.inBlock,Exit.then]);refine bodyPost_ret (results_none rfl _ _ _) rfl ?_
   exact⟨rfl,H4⟩
 ·rw[if_neg c1]
  have d1:decide (256<n)=false:=by simpa using c1
  clear c1
  go_enter Tryz.func145,Tryz.ntmps145
  go_wp2_with fail
  refine(Q1r HH.out 1).mono ?_
  rintro e w1⟨rfl,H1⟩
  obtain⟨x0,x2,x4,x5,x6,x7⟩:=H1.facts hop hl rfl rfl
  go_wp2_with fail
  have H2:=(H1.setB (doA s.L ⟨1,1,0,0,0⟩).1.old).drew
  have hd6:((w1.setCell ⟨r,7,none⟩ (.int .u32 (doA s.L ⟨1,1,0,0,0⟩).1.old)).drew).cell? ⟨r,6,none⟩=some (.int .u32 s.f.a):=(H2.facts hop hl rfl rfl).2.2.2.2.1
  have hd7:((w1.setCell ⟨r,7,none⟩ (.int .u32 (doA s.L ⟨1,1,0,0,0⟩).1.old)).drew).cell? ⟨r,7,none⟩=some (.int .u32 (doA s.L ⟨1,1,0,0,0⟩).1.old):=(H2.facts hop hl rfl rfl).2.2.2.2.2
  go_region_held3 (fun w'=>w'.cell? ⟨r,6,none⟩=some (.int .u32 s.f.a)∧w'.cell? ⟨r,7,none⟩=some (.int .u32 (doA s.L ⟨1,1,0,0,0⟩).1.old)∧Q0a S0 w0 m a r rs ((s.did (doA s.L ⟨1,1,0,0,0⟩)).setB (doA s.L ⟨1,1,0,0,0⟩).1.old) w')
   (first|(go_split_ands;refine⟨?_,?_,?_⟩<;>assumption))
   (first|(go_at_call 168;(with_reducible refine(HAH.out _).mono ?_);rintro e w4 ⟨rfl,rfl⟩)|(go_at_call 179;refine(Q4r H2 hop hl).mono ?_;rintro e w5 ⟨rfl,rfl⟩))
  all_goals
   go_wp2_with fail
   refine(Q1j H2 4).mono ?_
   rintro e w3⟨rfl,H3⟩
   go_wp2_with fail
   go_end0
   exact⟨rfl,H3⟩
theorem X2s{S0:List Nat}{w0 w:World}{m a r:Nat}{rs:List Res}{s:Rn}(H:Q0a S0 w0 m a r rs s w){o l:Int}(hop:s.f.op=o)(hl:s.f.line=l)(ho:o=7)(h0:l=3)(hn:I64 s.n)(ha:0≤s.f.a∧s.f.a<4294967296)(hb:0≤s.f.b∧s.f.b<4294967296)(hc:s.notes.length≤800):
 Calls Tryz.prog 101 #[.pointer (some ⟨r,0,none⟩)] w fun e w'=>e= .returned (.tuple #[])∧Q0a S0 w0 m a r rs (Q1L s) w':=by
 obtain⟨z0,z2,z4,z5,z6,z7⟩:=H.facts hop hl rfl rfl
 have HC:=Lib.hid hc
 have HA:=Lib.hid ha
 have HBB:=Lib.hid hb
 have HN:=Lib.hid hn
 have HH:=Lib.hid H
 clear hc H hn ha hb
 subst ho h0
 go_enter Tryz.func101,Tryz.ntmps101
 go_wp2_with fail
 refine(X4P HH.out hop hl HA.out HC.out).mono ?_
 rintro e w1⟨rfl,H1⟩
 go_wp2_with fail
 go_end0
 exact⟨rfl,H1⟩
def Q0P(s:Rn):Rn:=
 let s1:=s.waited (Q0t s.L s.n s.mode s.task s.f.st 1 (fun v=>v==s.f.a))
 let s2:=if(Q0t s.L s.n s.mode s.task s.f.st 1 (fun v=>v==s.f.a)).seen then s1.note 4 0 else s1
 if(Q0t s.L s.n s.mode s.task s.f.st 1 (fun v=>v==s.f.a)).done then s2.fin true else s2
theorem Y0L{S0:List Nat}{w0 w:World}{m a r:Nat}{rs:List Res}{s:Rn}(H:Q0a S0 w0 m a r rs s w){l:Int}(hop:s.f.op=6)(hl:s.f.line=l)(hn:I64 s.n)(ha:0≤s.f.a∧s.f.a<4294967296)(hc:s.notes.length≤800):
 Calls Tryz.prog 146 #[.pointer (some ⟨r,0,none⟩)] w fun e w'=>e= .returned (.tuple #[])∧Q0a S0 w0 m a r rs (Q0P s) w':=by
 obtain⟨z0,z2,z4,z5,z6,z7⟩:=H.facts hop hl rfl rfl
 have HC:=Lib.hid hc
 have HN:=Lib.hid hn
 have HH:=Lib.hid H
 clear hc H hn
 unfold Q0P
 dsimp only
 have hwt:=fun(t2:Nat) W (H:Q0a S0 w0 m a r (.blk t2 #[.int .u32 s.f.a]::rs) s W)=>Q3m H HN.out 1 180 #[] #[.pointer (some ⟨t2,0,none⟩)] (fun v=>v==s.f.a) (enters_of Tryz.func180 (by kernel_rfl) rfl) (fun W v h0 h1 H=>X1l s.f.a v W H.first)
 cases hs:(Q0t s.L s.n s.mode s.task s.f.st 1 (fun v=>v==s.f.a)).seen<;>cases hd:(Q0t s.L s.n s.mode s.task s.f.st 1 (fun v=>v==s.f.a)).done<;>rw[hs,hd]at hwt<;>simp only[if_true,Bool.false_eq_true,if_false]<;>(have HWT:=Lib.hid hwt)<;>clear hwt hs hd
 ·go_enter Tryz.func146,Tryz.ntmps146
  go_wp2_with fail
  refine Q0u 5 rfl (by kernel_rfl) (by kernel_rfl) ?_
  simp only[List.take_succ_cons,List.take_zero,List.drop_succ_cons,List.drop_zero,Q0G,probes,List.nil_append,List.cons_append,probe]
  go_wp2_with fail
  rw[Q0g]
  refine Q0W (.int .u32 0) rfl rfl (enters_of Tryz.func179 (by kernel_rfl) rfl) (by simp[Act.eval]) (fun W t=>Q4s (HH.out.drew.grow t) hop hl) ?_
  simp only[Q0G,probes,List.nil_append,List.cons_append,probe]
  go_wp2_with fail
  rw[Q0g]
  rename_i hK
  refine hK _ _ ?_
  clear hK
  refine Q1q (Facts:=fun V=>Q0a S0 w0 m a r (.blk w.heap.size #[.int .u32 s.f.a]::rs) s V) ?_ (by first|exact HH.out.drew.box rfl _ _|exact(HH.out.box rfl _ _).drew)
  clear z0 z2 z4 z5 z6 z7
  intro W HW2
  generalize w.heap.size=tb at HW2⊢
  obtain⟨z0,z2,z4,z5,z6,z7⟩:=HW2.facts hop hl rfl rfl
  go_wp2_with fail
  refine(HWT.out _ _ HW2).mono ?_
  rintro e w1⟨rfl,H1⟩
  go_wp2_with fail
  go_end0
  exact⟨rfl,H1.Q0N⟩
 ·go_enter Tryz.func146,Tryz.ntmps146
  go_wp2_with fail
  refine Q0u 5 rfl (by kernel_rfl) (by kernel_rfl) ?_
  simp only[List.take_succ_cons,List.take_zero,List.drop_succ_cons,List.drop_zero,Q0G,probes,List.nil_append,List.cons_append,probe]
  go_wp2_with fail
  rw[Q0g]
  refine Q0W (.int .u32 0) rfl rfl (enters_of Tryz.func179 (by kernel_rfl) rfl) (by simp[Act.eval]) (fun W t=>Q4s (HH.out.drew.grow t) hop hl) ?_
  simp only[Q0G,probes,List.nil_append,List.cons_append,probe]
  go_wp2_with fail
  rw[Q0g]
  rename_i hK
  refine hK _ _ ?_
  clear hK
  refine Q1q (Facts:=fun V=>Q0a S0 w0 m a r (.blk w.heap.size #[.int .u32 s.f.a]::rs) s V) ?_ (by first|exact HH.out.drew.box rfl _ _|exact(HH.out.box rfl _ _).drew)
  clear z0 z2 z4 z5 z6 z7
  intro W HW2
  generalize w.heap.size=tb at HW2⊢
  obtain⟨z0,z2,z4,z5,z6,z7⟩:=HW2.facts hop hl rfl rfl
  go_wp2_with fail
  refine(HWT.out _ _ HW2).mono ?_
  rintro e w1⟨rfl,H1⟩
  go_wp2_with fail
  refine(Q1x H1 true).mono ?_
  rintro e w2⟨rfl,H2⟩
  go_wp2_with fail
  go_end0
  exact⟨rfl,H2.Q0N⟩
 ·go_enter Tryz.func146,Tryz.ntmps146
  go_wp2_with fail
  refine Q0u 5 rfl (by kernel_rfl) (by kernel_rfl) ?_
  simp only[List.take_succ_cons,List.take_zero,List.drop_succ_cons,List.drop_zero,Q0G,probes,List.nil_append,List.cons_append,probe]
  go_wp2_with fail
  rw[Q0g]
  refine Q0W (.int .u32 0) rfl rfl (enters_of Tryz.func179 (by kernel_rfl) rfl) (by simp[Act.eval]) (fun W t=>Q4s (HH.out.drew.grow t) hop hl) ?_
  simp only[Q0G,probes,List.nil_append,List.cons_append,probe]
  go_wp2_with fail
  rw[Q0g]
  rename_i hK
  refine hK _ _ ?_
  clear hK
  refine Q1q (Facts:=fun V=>Q0a S0 w0 m a r (.blk w.heap.size #[.int .u32 s.f.a]::rs) s V) ?_ (by first|exact HH.out.drew.box rfl _ _|exact(HH.out.box rfl _ _).drew)
  clear z0 z2 z4 z5 z6 z7
  intro W HW2
  generalize w.heap.size=tb at HW2⊢
  obtain⟨z0,z2,z4,z5,z6,z7⟩:=HW2.facts hop hl rfl rfl
  go_wp2_with fail
  refine(HWT.out _ _ HW2).mono ?_
  rintro e w1⟨rfl,H1⟩
  go_wp2_with fail
  refine(Q0r H1 (by have:=HC.out;first|exact Nat.le_trans this (by decide)|(simp[Rn.note,Rn.did,Rn.Q0h,Rn.setB,Rn.waited,Rn.goto,Rn.Q0d];omega)) 4 0).mono ?_
  rintro e w2⟨rfl,H2⟩
  go_wp2_with fail
  go_end0
  exact⟨rfl,H2.Q0N⟩
 ·go_enter Tryz.func146,Tryz.ntmps146
  go_wp2_with fail
  refine Q0u 5 rfl (by kernel_rfl) (by kernel_rfl) ?_
  simp only[List.take_succ_cons,List.take_zero,List.drop_succ_cons,List.drop_zero,Q0G,probes,List.nil_append,List.cons_append,probe]
  go_wp2_with fail
  rw[Q0g]
  refine Q0W (.int .u32 0) rfl rfl (enters_of Tryz.func179 (by kernel_rfl) rfl) (by simp[Act.eval]) (fun W t=>Q4s (HH.out.drew.grow t) hop hl) ?_
  simp only[Q0G,probes,List.nil_append,List.cons_append,probe]
  go_wp2_with fail
  rw[Q0g]
  rename_i hK
  refine hK _ _ ?_
  clear hK
  refine Q1q (Facts:=fun V=>Q0a S0 w0 m a r (.blk w.heap.size #[.int .u32 s.f.a]::rs) s V) ?_ (by first|exact HH.out.drew.box rfl _ _|exact(HH.out.box rfl _ _).drew)
  clear z0 z2 z4 z5 z6 z7
  intro W HW2
  generalize w.heap.size=tb at HW2⊢
  obtain⟨z0,z2,z4,z5,z6,z7⟩:=HW2.facts hop hl rfl rfl
  go_wp2_with fail
  refine(HWT.out _ _ HW2).mono ?_
  rintro e w1⟨rfl,H1⟩
  go_wp2_with fail
  refine(Q0r H1 (by have:=HC.out;first|exact Nat.le_trans this (by decide)|(simp[Rn.note,Rn.did,Rn.Q0h,Rn.setB,Rn.waited,Rn.goto,Rn.Q0d];omega)) 4 0).mono ?_
  rintro e w2⟨rfl,H2⟩
  go_wp2_with fail
  refine(Q1x H2 true).mono ?_
  rintro e w3⟨rfl,H3⟩
  go_wp2_with fail
  go_end0
  exact⟨rfl,H3.Q0N⟩
theorem X2r{S0:List Nat}{w0 w:World}{m a r:Nat}{rs:List Res}{s:Rn}(H:Q0a S0 w0 m a r rs s w){o l:Int}(hop:s.f.op=o)(hl:s.f.line=l)(ho:o=6)(h0:l=6)(hn:I64 s.n)(ha:0≤s.f.a∧s.f.a<4294967296)(hb:0≤s.f.b∧s.f.b<4294967296)(hc:s.notes.length≤800):
 Calls Tryz.prog 101 #[.pointer (some ⟨r,0,none⟩)] w fun e w'=>e= .returned (.tuple #[])∧Q0a S0 w0 m a r rs (Q0P s) w':=by
 obtain⟨z0,z2,z4,z5,z6,z7⟩:=H.facts hop hl rfl rfl
 have HC:=Lib.hid hc
 have HA:=Lib.hid ha
 have HBB:=Lib.hid hb
 have HN:=Lib.hid hn
 have HH:=Lib.hid H
 clear hc H hn ha hb
 subst ho h0
 go_enter Tryz.func101,Tryz.ntmps101
 go_wp2_with fail
 refine(Y0L HH.out hop hl HN.out HA.out HC.out).mono ?_
 rintro e w1⟨rfl,H1⟩
 go_wp2_with fail
 go_end0
 exact⟨rfl,H1⟩
def Q0O(s:Rn):Rn:=
 let s1:=s.waited (Q0t s.L s.n s.mode s.task s.f.st 1 (fun v=>v==((s.f.a-256)%4294967296)))
 let s2:=if(Q0t s.L s.n s.mode s.task s.f.st 1 (fun v=>v==((s.f.a-256)%4294967296))).seen then s1.note 9 0 else s1
 if(Q0t s.L s.n s.mode s.task s.f.st 1 (fun v=>v==((s.f.a-256)%4294967296))).done then s2.goto 7 else s2
theorem Y0K{S0:List Nat}{w0 w:World}{m a r:Nat}{rs:List Res}{s:Rn}(H:Q0a S0 w0 m a r rs s w){l:Int}(hop:s.f.op=7)(hl:s.f.line=l)(hn:I64 s.n)(ha:0≤s.f.a∧s.f.a<4294967296)(hc:s.notes.length≤800):
 Calls Tryz.prog 146 #[.pointer (some ⟨r,0,none⟩)] w fun e w'=>e= .returned (.tuple #[])∧Q0a S0 w0 m a r rs (Q0O s) w':=by
 obtain⟨z0,z2,z4,z5,z6,z7⟩:=H.facts hop hl rfl rfl
 have HC:=Lib.hid hc
 have HN:=Lib.hid hn
 have HH:=Lib.hid H
 clear hc H hn
 unfold Q0O
 dsimp only
 have hwt:=fun(t2:Nat) W (H:Q0a S0 w0 m a r (.blk t2 #[.int .u32 ((s.f.a-256)%4294967296)]::rs) s W)=>Q3m H HN.out 1 180 #[] #[.pointer (some ⟨t2,0,none⟩)] (fun v=>v==((s.f.a-256)%4294967296)) (enters_of Tryz.func180 (by kernel_rfl) rfl) (fun W v h0 h1 H=>X1l ((s.f.a-256)%4294967296) v W H.first)
 cases hs:(Q0t s.L s.n s.mode s.task s.f.st 1 (fun v=>v==((s.f.a-256)%4294967296))).seen<;>cases hd:(Q0t s.L s.n s.mode s.task s.f.st 1 (fun v=>v==((s.f.a-256)%4294967296))).done<;>rw[hs,hd]at hwt<;>simp only[if_true,Bool.false_eq_true,if_false]<;>(have HWT:=Lib.hid hwt)<;>clear hwt hs hd
 ·go_enter Tryz.func146,Tryz.ntmps146
  go_wp2_with fail
  refine Q0u 5 rfl (by kernel_rfl) (by kernel_rfl) ?_
  simp only[List.take_succ_cons,List.take_zero,List.drop_succ_cons,List.drop_zero,Q0G,probes,List.nil_append,List.cons_append,probe]
  go_wp2_with fail
  rw[Q0g]
  refine Q0W (.int .u32 256) rfl rfl (enters_of Tryz.func179 (by kernel_rfl) rfl) (by simp[Act.eval]) (fun W t=>Q4r (HH.out.drew.grow t) hop hl) ?_
  simp only[Q0G,probes,List.nil_append,List.cons_append,probe]
  go_wp2_with fail
  rw[Q0g]
  rename_i hK
  refine hK _ _ ?_
  clear hK
  refine Q1q (Facts:=fun V=>Q0a S0 w0 m a r (.blk w.heap.size #[.int .u32 ((s.f.a-256)%4294967296)]::rs) s V) ?_ (by first|exact HH.out.drew.box rfl _ _|exact(HH.out.box rfl _ _).drew)
  clear z0 z2 z4 z5 z6 z7
  intro W HW2
  generalize w.heap.size=tb at HW2⊢
  obtain⟨z0,z2,z4,z5,z6,z7⟩:=HW2.facts hop hl rfl rfl
  go_wp2_with fail
  refine(HWT.out _ _ HW2).mono ?_
  rintro e w1⟨rfl,H1⟩
  go_wp2_with fail
  go_end0
  exact⟨rfl,H1.Q0N⟩
 ·go_enter Tryz.func146,Tryz.ntmps146
  go_wp2_with fail
  refine Q0u 5 rfl (by kernel_rfl) (by kernel_rfl) ?_
  simp only[List.take_succ_cons,List.take_zero,List.drop_succ_cons,List.drop_zero,Q0G,probes,List.nil_append,List.cons_append,probe]
  go_wp2_with fail
  rw[Q0g]
  refine Q0W (.int .u32 256) rfl rfl (enters_of Tryz.func179 (by kernel_rfl) rfl) (by simp[Act.eval]) (fun W t=>Q4r (HH.out.drew.grow t) hop hl) ?_
  simp only[Q0G,probes,List.nil_append,List.cons_append,probe]
  go_wp2_with fail
  rw[Q0g]
  rename_i hK
  refine hK _ _ ?_
  clear hK
  refine Q1q (Facts:=fun V=>Q0a S0 w0 m a r (.blk w.heap.size #[.int .u32 ((s.f.a-256)%4294967296)]::rs) s V) ?_ (by first|exact HH.out.drew.box rfl _ _|exact(HH.out.box rfl _ _).drew)
  clear z0 z2 z4 z5 z6 z7
  intro W HW2
  generalize w.heap.size=tb at HW2⊢
  obtain⟨z0,z2,z4,z5,z6,z7⟩:=HW2.facts hop hl rfl rfl
  go_wp2_with fail
  refine(HWT.out _ _ HW2).mono ?_
  rintro e w1⟨rfl,H1⟩
  go_wp2_with fail
  refine(Q1j H1 7).mono ?_
  rintro e w2⟨rfl,H2⟩
  go_wp2_with fail
  go_end0
  exact⟨rfl,H2.Q0N⟩
 ·go_enter Tryz.func146,Tryz.ntmps146
  go_wp2_with fail
  refine Q0u 5 rfl (by kernel_rfl) (by kernel_rfl) ?_
  simp only[List.take_succ_cons,List.take_zero,List.drop_succ_cons,List.drop_zero,Q0G,probes,List.nil_append,List.cons_append,probe]
  go_wp2_with fail
  rw[Q0g]
  refine Q0W (.int .u32 256) rfl rfl (enters_of Tryz.func179 (by kernel_rfl) rfl) (by simp[Act.eval]) (fun W t=>Q4r (HH.out.drew.grow t) hop hl) ?_
  simp only[Q0G,probes,List.nil_append,List.cons_append,probe]
  go_wp2_with fail
  rw[Q0g]
  rename_i hK
  refine hK _ _ ?_
  clear hK
  refine Q1q (Facts:=fun V=>Q0a S0 w0 m a r (.blk w.heap.size #[.int .u32 ((s.f.a-256)%4294967296)]::rs) s V) ?_ (by first|exact HH.out.drew.box rfl _ _|exact(HH.out.box rfl _ _).drew)
  clear z0 z2 z4 z5 z6 z7
  intro W HW2
  generalize w.heap.size=tb at HW2⊢
  obtain⟨z0,z2,z4,z5,z6,z7⟩:=HW2.facts hop hl rfl rfl
  go_wp2_with fail
  refine(HWT.out _ _ HW2).mono ?_
  rintro e w1⟨rfl,H1⟩
  go_wp2_with fail
  refine(Q0r H1 (by have:=HC.out;first|exact Nat.le_trans this (by decide)|(simp[Rn.note,Rn.did,Rn.Q0h,Rn.setB,Rn.waited,Rn.goto,Rn.Q0d];omega)) 9 0).mono ?_
  rintro e w2⟨rfl,H2⟩
  go_wp2_with fail
  go_end0
  exact⟨rfl,H2.Q0N⟩
 ·go_enter Tryz.func146,Tryz.ntmps146
  go_wp2_with fail
  refine Q0u 5 rfl (by kernel_rfl) (by kernel_rfl) ?_
  simp only[List.take_succ_cons,List.take_zero,List.drop_succ_cons,List.drop_zero,Q0G,probes,List.nil_append,List.cons_append,probe]
  go_wp2_with fail
  rw[Q0g]
  refine Q0W (.int .u32 256) rfl rfl (enters_of Tryz.func179 (by kernel_rfl) rfl) (by simp[Act.eval]) (fun W t=>Q4r (HH.out.drew.grow t) hop hl) ?_
  simp only[Q0G,probes,List.nil_append,List.cons_append,probe]
  go_wp2_with fail
  rw[Q0g]
  rename_i hK
  refine hK _ _ ?_
  clear hK
  refine Q1q (Facts:=fun V=>Q0a S0 w0 m a r (.blk w.heap.size #[.int .u32 ((s.f.a-256)%4294967296)]::rs) s V) ?_ (by first|exact HH.out.drew.box rfl _ _|exact(HH.out.box rfl _ _).drew)
  clear z0 z2 z4 z5 z6 z7
  intro W HW2
  generalize w.heap.size=tb at HW2⊢
  obtain⟨z0,z2,z4,z5,z6,z7⟩:=HW2.facts hop hl rfl rfl
  go_wp2_with fail
  refine(HWT.out _ _ HW2).mono ?_
  rintro e w1⟨rfl,H1⟩
  go_wp2_with fail
  refine(Q0r H1 (by have:=HC.out;first|exact Nat.le_trans this (by decide)|(simp[Rn.note,Rn.did,Rn.Q0h,Rn.setB,Rn.waited,Rn.goto,Rn.Q0d];omega)) 9 0).mono ?_
  rintro e w2⟨rfl,H2⟩
  go_wp2_with fail
  refine(Q1j H2 7).mono ?_
  rintro e w3⟨rfl,H3⟩
  go_wp2_with fail
  go_end0
  exact⟨rfl,H3.Q0N⟩
theorem X2q{S0:List Nat}{w0 w:World}{m a r:Nat}{rs:List Res}{s:Rn}(H:Q0a S0 w0 m a r rs s w){o l:Int}(hop:s.f.op=o)(hl:s.f.line=l)(ho:o=7)(h0:l=6)(hn:I64 s.n)(ha:0≤s.f.a∧s.f.a<4294967296)(hb:0≤s.f.b∧s.f.b<4294967296)(hc:s.notes.length≤800):
 Calls Tryz.prog 101 #[.pointer (some ⟨r,0,none⟩)] w fun e w'=>e= .returned (.tuple #[])∧Q0a S0 w0 m a r rs (Q0O s) w':=by
 obtain⟨z0,z2,z4,z5,z6,z7⟩:=H.facts hop hl rfl rfl
 have HC:=Lib.hid hc
 have HA:=Lib.hid ha
 have HBB:=Lib.hid hb
 have HN:=Lib.hid hn
 have HH:=Lib.hid H
 clear hc H hn ha hb
 subst ho h0
 go_enter Tryz.func101,Tryz.ntmps101
 go_wp2_with fail
 refine(Y0K HH.out hop hl HN.out HA.out HC.out).mono ?_
 rintro e w1⟨rfl,H1⟩
 go_wp2_with fail
 go_end0
 exact⟨rfl,H1⟩
theorem X2o{S0:List Nat}{w0 w:World}{m a r:Nat}{rs:List Res}{s:Rn}(H:Q0a S0 w0 m a r rs s w){o l:Int}(hop:s.f.op=o)(hl:s.f.line=l)(ho:o=7)(h0:l=7)(hn:I64 s.n)(ha:0≤s.f.a∧s.f.a<4294967296)(hb:0≤s.f.b∧s.f.b<4294967296)(hc:s.notes.length≤800):
 Calls Tryz.prog 101 #[.pointer (some ⟨r,0,none⟩)] w fun e w'=>e= .returned (.tuple #[])∧Q0a S0 w0 m a r rs ((s.did (doA s.L ⟨3,1,256,0,0⟩)).fin true) w':=by
 obtain⟨z0,z2,z4,z5,z6,z7⟩:=H.facts hop hl rfl rfl
 have HC:=Lib.hid hc
 have HA:=Lib.hid ha
 have HBB:=Lib.hid hb
 have HN:=Lib.hid hn
 have HH:=Lib.hid H
 clear hc H hn ha hb
 subst ho h0
 go_enter Tryz.func101,Tryz.ntmps101
 go_wp2_with fail
 refine(Q2f HH.out 1 256 (by decide)).mono ?_
 rintro e w1⟨rfl,H1⟩
 go_wp2_with fail
 refine(Q1x H1 true).mono ?_
 rintro e w2⟨rfl,H2⟩
 go_wp2_with fail
 go_end0
 exact⟨rfl,H2⟩
theorem X2p{S0:List Nat}{w0 w:World}{m a r:Nat}{rs:List Res}{s:Rn}(H:Q0a S0 w0 m a r rs s w){o l:Int}(hop:s.f.op=o)(hl:s.f.line=l)(ho:o=6)(h0:l=7)(hn:I64 s.n)(ha:0≤s.f.a∧s.f.a<4294967296)(hb:0≤s.f.b∧s.f.b<4294967296)(hc:s.notes.length≤800):
 Calls Tryz.prog 101 #[.pointer (some ⟨r,0,none⟩)] w fun e w'=>e= .returned (.tuple #[])∧Q0a S0 w0 m a r rs s w':=by
 obtain⟨z0,z2,z4,z5,z6,z7⟩:=H.facts hop hl rfl rfl
 have HC:=Lib.hid hc
 have HA:=Lib.hid ha
 have HBB:=Lib.hid hb
 have HN:=Lib.hid hn
 have HH:=Lib.hid H
 clear hc H hn ha hb
 subst ho h0
 go_enter Tryz.func101,Tryz.ntmps101
 go_wp2_with fail
 go_end0
 exact⟨rfl,HH.out⟩
theorem X4R{S0:List Nat}{w0 w:World}{m a r:Nat}{rs:List Res}{s:Rn}(H:Q0a S0 w0 m a r rs s w){o l:Int}(hop:s.f.op=o)(hl:s.f.line=l)(h2: ¬l=2)(h3: ¬l=3)(h4: ¬l=4)(h5: ¬l=5)(h6: ¬l=6)(h7: ¬l=7)(hn:I64 s.n)(ha:0≤s.f.a∧s.f.a<4294967296)(hb:0≤s.f.b∧s.f.b<4294967296)(hc:s.notes.length≤800):
 Calls Tryz.prog 101 #[.pointer (some ⟨r,0,none⟩)] w fun e w'=>e= .returned (.tuple #[])∧Q0a S0 w0 m a r rs (Q1d 8 false s) w':=by
 obtain⟨z0,z2,z4,z5,z6,z7⟩:=H.facts hop hl rfl rfl
 have HC:=Lib.hid hc
 have HA:=Lib.hid ha
 have HBB:=Lib.hid hb
 have HN:=Lib.hid hn
 have HH:=Lib.hid H
 clear hc H hn ha hb
 have j2:(l==2)=false:=by simpa using h2
 have j3:(l==3)=false:=by simpa using h3
 have j4:(l==4)=false:=by simpa using h4
 have j5:(l==5)=false:=by simpa using h5
 have j6:(l==6)=false:=by simpa using h6
 have j7:(l==7)=false:=by simpa using h7
 have he:=fun(g:Nat) W (HX:Q0a S0 w0 m a r (.blk g (Q3S [8]).toArray::rs) s W)=>X2z (c:=1) 2 8 (nl:=[8]) (nn:=1) rfl (by decide) (by have:=HC.out;simp;omega) HX HN.out HA.out
 unfold Q1d
 generalize Q0v 2 8 [8] s=R at he⊢
 obtain⟨b,s1⟩:=R
 have HE:=Lib.hid he
 clear he
 cases b with
 |true=>
  go_enter Tryz.func101,Tryz.ntmps101
  go_wp2_with fail
  refine(HE.out _ _ (HH.out.box rfl _ _)).mono ?_
  rintro e w7⟨rfl,H7⟩
  go_wp2_with fail
  refine(Q1x H7 false).mono ?_
  rintro e w8⟨rfl,H8⟩
  go_wp2_with fail
  go_end0
  exact⟨rfl,H8.Q0N⟩
 |false=>
  go_enter Tryz.func101,Tryz.ntmps101
  go_wp2_with fail
  refine(HE.out _ _ (HH.out.box rfl _ _)).mono ?_
  rintro e w7⟨rfl,H7⟩
  go_wp2_with fail
  go_end0
  exact⟨rfl,H7.Q0N⟩
def Q0y(s:Rn):Rn:=
 if s.f.line=2 then(((s.did (doA s.L ⟨1,0,0,0,0⟩)).Q0h (doA s.L ⟨1,0,0,0,0⟩).1.old).goto 3)
 else if s.f.line=3 then(if s.f.op=7 then Q1L s else Q1M s)
 else if s.f.line=4 then(((s.did (doA s.L ⟨1,3,0,0,0⟩)).setB (doA s.L ⟨1,3,0,0,0⟩).1.old).goto 5)
 else if s.f.line=5 then((((s.did (doA s.L ⟨3,0,Q6u s.f.b,0,0⟩)).Q0h (doA s.L ⟨3,0,Q6u s.f.b,0,0⟩).1.old).note 3 0).goto 6)
 else if s.f.line=6 then(if s.f.op=7 then Q0O s else Q0P s)
 else if s.f.line=7 then(if s.f.op=7 then(s.did (doA s.L ⟨3,1,256,0,0⟩)).fin true else s)
 else Q1d 8 false s
theorem X1o{S0:List Nat}{w0 w:World}{m a r:Nat}{rs:List Res}{s:Rn}(H:Q0a S0 w0 m a r rs s w)(ho:s.f.op=6∨s.f.op=7)(hn:I64 s.n)(ha:0≤s.f.a∧s.f.a<4294967296)(hb:0≤s.f.b∧s.f.b<4294967296)(hc:s.notes.length≤800):Calls Tryz.prog 101 #[.pointer (some ⟨r,0,none⟩)] w fun e w'=>e= .returned (.tuple #[])∧Q0a S0 w0 m a r rs (Q0y s) w':=by
 unfold Q0y
 split
 ·exact X4U H rfl rfl (by assumption) hn ha hb hc
 split
 ·split
  ·exact X2s H rfl rfl (by assumption) (by assumption) hn ha hb hc
  ·exact X2t H rfl rfl (by omega) (by assumption) hn ha hb hc
 split
 ·exact X4T H rfl rfl (by assumption) hn ha hb hc
 split
 ·exact X4S H rfl rfl (by assumption) hn ha hb hc
 split
 ·split
  ·exact X2q H rfl rfl (by assumption) (by assumption) hn ha hb hc
  ·exact X2r H rfl rfl (by omega) (by assumption) hn ha hb hc
 split
 ·split
  ·exact X2o H rfl rfl (by assumption) (by assumption) hn ha hb hc
  ·exact X2p H rfl rfl (by omega) (by assumption) hn ha hb hc
 ·exact X4R H rfl rfl (by assumption) (by assumption) (by assumption) (by assumption) (by assumption) (by assumption) hn ha hb hc
attribute [local go_sem↓] Go.wp_at_zero Go.wp_at_succ
theorem Q6N{S0:List Nat}{w0 w:World}{m a r:Nat}{rs:List Res}{s s2:Rn}(H:Q0a S0 w0 m a r rs s w)
 (hr: ∀W,Q0a S0 w0 m a r rs s W→Calls Tryz.prog 93 #[.pointer (some ⟨r,0,none⟩), .int .i64 0, .int .i64 1] W fun e w'=>e= .returned (.bool true)∧Q0a S0 w0 m a r rs s2 w'):
 Calls Tryz.prog 69 #[.pointer (some ⟨r,0,none⟩)] w fun e w'=>e= .returned (.tuple #[])∧Q0a S0 w0 m a r rs s2 w':=by
 have HR:=Lib.hid hr
 have HH:=Lib.hid H
 clear hr H
 go_enter Tryz.func69,Tryz.ntmps69
 go_wp2_with fail
 refine(HR.out _ HH.out).mono ?_
 rintro e w1⟨rfl,H1⟩
 go_wp2_with fail
 (try simp only[Exit.inBlock,Exit.then]);refine bodyPost_ret (results_none rfl _ _ _) rfl ?_
 exact⟨rfl,H1⟩
theorem X7V{S0:List Nat}{w0 w:World}{m a r:Nat}{rs:List Res}{s:Rn}(H:Q0a S0 w0 m a r rs s w){o l:Int}(hop:s.f.op=o)(hl:s.f.line=l)(ho:o=3)(hn:I64 s.n)(ha:0≤s.f.a∧s.f.a<4294967296)(hb:0≤s.f.b∧s.f.b<4294967296)(hc:s.notes.length≤800):
 Calls Tryz.prog 69 #[.pointer (some ⟨r,0,none⟩)] w fun e w'=>e= .returned (.tuple #[])∧Q0a S0 w0 m a r rs (Q1h s) w':=by
 obtain⟨z0,z2,z4,z5,z6,z7⟩:=H.facts hop hl rfl rfl
 have HC:=Lib.hid hc
 have HA:=Lib.hid ha
 have HBB:=Lib.hid hb
 have HN:=Lib.hid hn
 have HH:=Lib.hid H
 clear hc H hn ha hb
 subst ho
 go_enter Tryz.func69,Tryz.ntmps69
 go_wp2_with fail
 refine(Q3G HH.out hop hl (by omega) (by omega) (by omega) (by omega) (by omega)).mono ?_
 rintro e w1⟨rfl,H1⟩
 clear z0 z2 z4 z5 z6 z7
 obtain⟨z0,z2,z4,z5,z6,z7⟩:=H1.facts hop hl rfl rfl
 go_wp2_with fail
 refine(Y3K H1 HN.out HA.out HBB.out HC.out).mono ?_
 rintro e w2⟨rfl,H2⟩
 go_wp2_with fail
 go_end0
 exact⟨rfl,H2⟩
theorem X7U{S0:List Nat}{w0 w:World}{m a r:Nat}{rs:List Res}{s:Rn}(H:Q0a S0 w0 m a r rs s w){o l:Int}(hop:s.f.op=o)(hl:s.f.line=l)(ho:o=4)(hn:I64 s.n)(ha:0≤s.f.a∧s.f.a<4294967296)(hb:0≤s.f.b∧s.f.b<4294967296)(hc:s.notes.length≤800):
 Calls Tryz.prog 69 #[.pointer (some ⟨r,0,none⟩)] w fun e w'=>e= .returned (.tuple #[])∧Q0a S0 w0 m a r rs (Q0M s) w':=by
 obtain⟨z0,z2,z4,z5,z6,z7⟩:=H.facts hop hl rfl rfl
 have HC:=Lib.hid hc
 have HA:=Lib.hid ha
 have HBB:=Lib.hid hb
 have HN:=Lib.hid hn
 have HH:=Lib.hid H
 clear hc H hn ha hb
 subst ho
 go_enter Tryz.func69,Tryz.ntmps69
 go_wp2_with fail
 refine(Q3G HH.out hop hl (by omega) (by omega) (by omega) (by omega) (by omega)).mono ?_
 rintro e w1⟨rfl,H1⟩
 clear z0 z2 z4 z5 z6 z7
 obtain⟨z0,z2,z4,z5,z6,z7⟩:=H1.facts hop hl rfl rfl
 go_wp2_with fail
 refine(X3H H1 HN.out HA.out HBB.out HC.out).mono ?_
 rintro e w2⟨rfl,H2⟩
 go_wp2_with fail
 go_end0
 exact⟨rfl,H2⟩
theorem X7T{S0:List Nat}{w0 w:World}{m a r:Nat}{rs:List Res}{s:Rn}(H:Q0a S0 w0 m a r rs s w){o l:Int}(hop:s.f.op=o)(hl:s.f.line=l)(ho:o=8)(hn:I64 s.n)(ha:0≤s.f.a∧s.f.a<4294967296)(hb:0≤s.f.b∧s.f.b<4294967296)(hc:s.notes.length≤800):
 Calls Tryz.prog 69 #[.pointer (some ⟨r,0,none⟩)] w fun e w'=>e= .returned (.tuple #[])∧Q0a S0 w0 m a r rs (Q0M s) w':=by
 obtain⟨z0,z2,z4,z5,z6,z7⟩:=H.facts hop hl rfl rfl
 have HC:=Lib.hid hc
 have HA:=Lib.hid ha
 have HBB:=Lib.hid hb
 have HN:=Lib.hid hn
 have HH:=Lib.hid H
 clear hc H hn ha hb
 subst ho
 go_enter Tryz.func69,Tryz.ntmps69
 go_wp2_with fail
 refine(Q3G HH.out hop hl (by omega) (by omega) (by omega) (by omega) (by omega)).mono ?_
 rintro e w1⟨rfl,H1⟩
 clear z0 z2 z4 z5 z6 z7
 obtain⟨z0,z2,z4,z5,z6,z7⟩:=H1.facts hop hl rfl rfl
 go_wp2_with fail
 refine(X3H H1 HN.out HA.out HBB.out HC.out).mono ?_
 rintro e w2⟨rfl,H2⟩
 go_wp2_with fail
 go_end0
 exact⟨rfl,H2⟩
theorem X7S{S0:List Nat}{w0 w:World}{m a r:Nat}{rs:List Res}{s:Rn}(H:Q0a S0 w0 m a r rs s w){o l:Int}(hop:s.f.op=o)(hl:s.f.line=l)(ho:o=6)(hle:l≤1)(hn:I64 s.n)(ha:0≤s.f.a∧s.f.a<4294967296)(hb:0≤s.f.b∧s.f.b<4294967296)(hc:s.notes.length≤800):
 Calls Tryz.prog 69 #[.pointer (some ⟨r,0,none⟩)] w fun e w'=>e= .returned (.tuple #[])∧Q0a S0 w0 m a r rs (Q1H s) w':=by
 obtain⟨z0,z2,z4,z5,z6,z7⟩:=H.facts hop hl rfl rfl
 have HC:=Lib.hid hc
 have HA:=Lib.hid ha
 have HBB:=Lib.hid hb
 have HN:=Lib.hid hn
 have HH:=Lib.hid H
 clear hc H hn ha hb
 subst ho
 go_enter Tryz.func69,Tryz.ntmps69
 go_wp2_with fail
 refine(Q3G HH.out hop hl (by omega) (by omega) (by omega) (by omega) (by omega)).mono ?_
 rintro e w1⟨rfl,H1⟩
 clear z0 z2 z4 z5 z6 z7
 obtain⟨z0,z2,z4,z5,z6,z7⟩:=H1.facts hop hl rfl rfl
 go_wp2_with fail
 refine(Y2i H1 HN.out HA.out HBB.out HC.out).mono ?_
 rintro e w2⟨rfl,H2⟩
 go_wp2_with fail
 go_end0
 exact⟨rfl,H2⟩
theorem X7R{S0:List Nat}{w0 w:World}{m a r:Nat}{rs:List Res}{s:Rn}(H:Q0a S0 w0 m a r rs s w){o l:Int}(hop:s.f.op=o)(hl:s.f.line=l)(ho:o=6)(hle:1<l)(hn:I64 s.n)(ha:0≤s.f.a∧s.f.a<4294967296)(hb:0≤s.f.b∧s.f.b<4294967296)(hc:s.notes.length≤800):
 Calls Tryz.prog 69 #[.pointer (some ⟨r,0,none⟩)] w fun e w'=>e= .returned (.tuple #[])∧Q0a S0 w0 m a r rs (Q0y s) w':=by
 obtain⟨z0,z2,z4,z5,z6,z7⟩:=H.facts hop hl rfl rfl
 have HC:=Lib.hid hc
 have HA:=Lib.hid ha
 have HBB:=Lib.hid hb
 have HN:=Lib.hid hn
 have HH:=Lib.hid H
 clear hc H hn ha hb
 subst ho
 go_enter Tryz.func69,Tryz.ntmps69
 go_wp2_with fail
 refine(Q3G HH.out hop hl (by omega) (by omega) (by omega) (by omega) (by omega)).mono ?_
 rintro e w1⟨rfl,H1⟩
 clear z0 z2 z4 z5 z6 z7
 obtain⟨z0,z2,z4,z5,z6,z7⟩:=H1.facts hop hl rfl rfl
 go_wp2_with fail
 refine(X1o H1 (by rw[hop];decide) HN.out HA.out HBB.out HC.out).mono ?_
 rintro e w2⟨rfl,H2⟩
 go_wp2_with fail
 go_end0
 exact⟨rfl,H2⟩
theorem X7Q{S0:List Nat}{w0 w:World}{m a r:Nat}{rs:List Res}{s:Rn}(H:Q0a S0 w0 m a r rs s w){o l:Int}(hop:s.f.op=o)(hl:s.f.line=l)(ho:o=7)(hle:l≤1)(hn:I64 s.n)(ha:0≤s.f.a∧s.f.a<4294967296)(hb:0≤s.f.b∧s.f.b<4294967296)(hc:s.notes.length≤800):
 Calls Tryz.prog 69 #[.pointer (some ⟨r,0,none⟩)] w fun e w'=>e= .returned (.tuple #[])∧Q0a S0 w0 m a r rs (Q1H s) w':=by
 obtain⟨z0,z2,z4,z5,z6,z7⟩:=H.facts hop hl rfl rfl
 have HC:=Lib.hid hc
 have HA:=Lib.hid ha
 have HBB:=Lib.hid hb
 have HN:=Lib.hid hn
 have HH:=Lib.hid H
 clear hc H hn ha hb
 subst ho
 go_enter Tryz.func69,Tryz.ntmps69
 go_wp2_with fail
 refine(Q3G HH.out hop hl (by omega) (by omega) (by omega) (by omega) (by omega)).mono ?_
 rintro e w1⟨rfl,H1⟩
 clear z0 z2 z4 z5 z6 z7
 obtain⟨z0,z2,z4,z5,z6,z7⟩:=H1.facts hop hl rfl rfl
 go_wp2_with fail
 refine(Y2i H1 HN.out HA.out HBB.out HC.out).mono ?_
 rintro e w2⟨rfl,H2⟩
 go_wp2_with fail
 go_end0
 exact⟨rfl,H2⟩
theorem X7P{S0:List Nat}{w0 w:World}{m a r:Nat}{rs:List Res}{s:Rn}(H:Q0a S0 w0 m a r rs s w){o l:Int}(hop:s.f.op=o)(hl:s.f.line=l)(ho:o=7)(hle:1<l)(hn:I64 s.n)(ha:0≤s.f.a∧s.f.a<4294967296)(hb:0≤s.f.b∧s.f.b<4294967296)(hc:s.notes.length≤800):
 Calls Tryz.prog 69 #[.pointer (some ⟨r,0,none⟩)] w fun e w'=>e= .returned (.tuple #[])∧Q0a S0 w0 m a r rs (Q0y s) w':=by
 obtain⟨z0,z2,z4,z5,z6,z7⟩:=H.facts hop hl rfl rfl
 have HC:=Lib.hid hc
 have HA:=Lib.hid ha
 have HBB:=Lib.hid hb
 have HN:=Lib.hid hn
 have HH:=Lib.hid H
 clear hc H hn ha hb
 subst ho
 go_enter Tryz.func69,Tryz.ntmps69
 go_wp2_with fail
 refine(Q3G HH.out hop hl (by omega) (by omega) (by omega) (by omega) (by omega)).mono ?_
 rintro e w1⟨rfl,H1⟩
 clear z0 z2 z4 z5 z6 z7
 obtain⟨z0,z2,z4,z5,z6,z7⟩:=H1.facts hop hl rfl rfl
 go_wp2_with fail
 refine(X1o H1 (by rw[hop];decide) HN.out HA.out HBB.out HC.out).mono ?_
 rintro e w2⟨rfl,H2⟩
 go_wp2_with fail
 go_end0
 exact⟨rfl,H2⟩
theorem X7O{S0:List Nat}{w0 w:World}{m a r:Nat}{rs:List Res}{s:Rn}(H:Q0a S0 w0 m a r rs s w){o l:Int}(hop:s.f.op=o)(hl:s.f.line=l)(h0: ¬(o=1∧l=0))(h1: ¬(o=1∧l=1))(h2: ¬(o=2∧l=0))(h3: ¬(o=5∧l=0))(h4: ¬(o=5∧l=1))(k3: ¬o=3)(k4: ¬o=4)(k8: ¬o=8)(k6: ¬o=6)(k7: ¬o=7)(hn:I64 s.n)(ha:0≤s.f.a∧s.f.a<4294967296)(hb:0≤s.f.b∧s.f.b<4294967296)(hc:s.notes.length≤800):
 Calls Tryz.prog 69 #[.pointer (some ⟨r,0,none⟩)] w fun e w'=>e= .returned (.tuple #[])∧Q0a S0 w0 m a r rs (s) w':=by
 obtain⟨z0,z2,z4,z5,z6,z7⟩:=H.facts hop hl rfl rfl
 have HC:=Lib.hid hc
 have HA:=Lib.hid ha
 have HBB:=Lib.hid hb
 have HN:=Lib.hid hn
 have HH:=Lib.hid H
 clear hc H hn ha hb
 have j3:(o==3)=false:=by simpa using k3
 have j4:(o==4)=false:=by simpa using k4
 have j8:(o==8)=false:=by simpa using k8
 have j6:(o==6)=false:=by simpa using k6
 have j7:(o==7)=false:=by simpa using k7
 go_enter Tryz.func69,Tryz.ntmps69
 go_wp2_with fail
 refine(Q3G HH.out hop hl h0 h1 h2 h3 h4).mono ?_
 rintro e w1⟨rfl,H1⟩
 clear z0 z2 z4 z5 z6 z7
 obtain⟨z0,z2,z4,z5,z6,z7⟩:=H1.facts hop hl rfl rfl
 go_wp2_with fail
 go_end0
 exact⟨rfl,H1⟩
def pqA(s:Rn):Rn:=if s.f.op=1∧s.f.line=0 then Q1o s else if s.f.op=1∧s.f.line=1 then Q1n s else if s.f.op=2∧s.f.line=0 then Q1m s else if s.f.op=5∧s.f.line=0 then Q1l s else if s.f.op=5∧s.f.line=1 then Q1k s else if s.f.op=3 then Q1h s else if s.f.op=4 then Q0M s else if s.f.op=8 then Q0M s
 else if s.f.op=6 then(if s.f.line≤1 then Q1H s else Q0y s)else if s.f.op=7 then(if s.f.line≤1 then Q1H s else Q0y s)else s
theorem Y0J{S0:List Nat}{w0 w:World}{m a r:Nat}{rs:List Res}{s:Rn}(H:Q0a S0 w0 m a r rs s w)(hn:I64 s.n)(ha:0≤s.f.a∧s.f.a<4294967296)(hb:0≤s.f.b∧s.f.b<4294967296)(hc:s.notes.length≤800):Calls Tryz.prog 69 #[.pointer (some ⟨r,0,none⟩)] w fun e w'=>e= .returned (.tuple #[])∧Q0a S0 w0 m a r rs (pqA s) w':=by
 unfold pqA
 by_cases h10:s.f.op=1∧s.f.line=0
 ·rw[if_pos h10];exact Q6N H (fun W HW=>Y3J HW h10.1 h10.2 hn ha (by omega))
 rw[if_neg h10]
 by_cases h11:s.f.op=1∧s.f.line=1
 ·rw[if_pos h11];exact Q6N H (fun W HW=>Y3I HW h11.1 h11.2 hn ha (by omega))
 rw[if_neg h11]
 by_cases h20:s.f.op=2∧s.f.line=0
 ·rw[if_pos h20];exact Q6N H (fun W HW=>Y3H HW h20.1 h20.2 hn ha (by omega))
 rw[if_neg h20]
 by_cases h50:s.f.op=5∧s.f.line=0
 ·rw[if_pos h50];exact Q6N H (fun W HW=>Y3G HW h50.1 h50.2 hn ha (by omega))
 rw[if_neg h50]
 by_cases h51:s.f.op=5∧s.f.line=1
 ·rw[if_pos h51];exact Q6N H (fun W HW=>Y3F HW h51.1 h51.2 hn ha (by omega))
 rw[if_neg h51]
 split
 ·exact X7V H rfl rfl (by assumption) hn ha hb hc
 split
 ·exact X7U H rfl rfl (by assumption) hn ha hb hc
 split
 ·exact X7T H rfl rfl (by assumption) hn ha hb hc
 split
 ·split
  ·exact X7S H rfl rfl (by assumption) (by assumption) hn ha hb hc
  ·exact X7R H rfl rfl (by assumption) (by omega) hn ha hb hc
 split
 ·split
  ·exact X7Q H rfl rfl (by assumption) (by assumption) hn ha hb hc
  ·exact X7P H rfl rfl (by assumption) (by omega) hn ha hb hc
 ·exact X7O H rfl rfl h10 h11 h20 h50 h51 (by assumption) (by assumption) (by assumption) (by assumption) (by assumption) hn ha hb hc
section
variable {s:Rn}
section
theorem Y1f(hw:Words s.L)(h:(0≤s.f.a∧s.f.a<4294967296)∧(0≤s.f.b∧s.f.b<4294967296)):FK 2 s (Q1o s):=by
 have R:=FK.refl h
 have hold:=fun b=>Q0s s.L hw b
 unfold Q1o
 dsimp only
 split
 ·exact(((((R.did _).Q0h (hold _)).note _ _).note _ _).fin _).more (by decide)
 ·exact((((R.did _).Q0h (hold _)).note _ _).goto _).more (by decide)
theorem Y1e(hw:Words s.L)(h:(0≤s.f.a∧s.f.a<4294967296)∧(0≤s.f.b∧s.f.b<4294967296)):FK 2 s (Q1n s):=by
 have R:=FK.refl h
 have hold:=fun b=>Q0s s.L hw b
 unfold Q1n
 dsimp only
 split
 ·split
  ·exact(((R.waited _).note _ _).fin _).more (by decide)
  ·exact((R.waited _).fin _).more (by decide)
 ·split
  ·exact((R.waited _).note _ _).more (by decide)
  ·exact(R.waited _).more (by decide)
theorem Y1d(hw:Words s.L)(h:(0≤s.f.a∧s.f.a<4294967296)∧(0≤s.f.b∧s.f.b<4294967296)):FK 2 s (Q1m s):=by
 have R:=FK.refl h
 have hold:=fun b=>Q0s s.L hw b
 unfold Q1m
 exact((((R.did _).note _ _).wake _).fin _).more (by decide)
theorem Y1c(hw:Words s.L)(h:(0≤s.f.a∧s.f.a<4294967296)∧(0≤s.f.b∧s.f.b<4294967296)):FK 2 s (Q1l s):=by
 have R:=FK.refl h
 have hold:=fun b=>Q0s s.L hw b
 unfold Q1l
 dsimp only
 split
 ·exact(((R.did _).Q0h (hold _)).goto _).more (by decide)
 ·exact((((R.did _).Q0h (hold _)).note _ _).fin _).more (by decide)
theorem Y1b(hw:Words s.L)(h:(0≤s.f.a∧s.f.a<4294967296)∧(0≤s.f.b∧s.f.b<4294967296)):FK 2 s (Q1k s):=by
 have R:=FK.refl h
 have hold:=fun b=>Q0s s.L hw b
 unfold Q1k
 split
 ·exact((((R.did _).note _ _).note _ _).fin _).more (by decide)
 ·exact((R.did _).goto _).more (by decide)
theorem X4X(hw:Words s.L)(h:(0≤s.f.a∧s.f.a<4294967296)∧(0≤s.f.b∧s.f.b<4294967296)):FK 2 s (Q0S s):=by
 have R:=FK.refl h
 have hold:=fun b=>Q0s s.L hw b
 have Q:=Q9P (s:=s) 2 2 hw h
 unfold Q0S
 split
 ·exact(Q.goto _).more (by decide)
 ·exact(Q).more (by decide)
theorem X1p(q:Int)(ok:Bool)(hw:Words s.L)(h:(0≤s.f.a∧s.f.a<4294967296)∧(0≤s.f.b∧s.f.b<4294967296)):FK 2 s (Q1d q ok s):=by
 have R:=FK.refl h
 have hold:=fun b=>Q0s s.L hw b
 have Q:=X1G (s:=s) 2 q [8] hw h
 unfold Q1d
 split
 ·exact(Q.fin _).more (by decide)
 ·exact(Q).more (by decide)
theorem X3J(hw:Words s.L)(h:(0≤s.f.a∧s.f.a<4294967296)∧(0≤s.f.b∧s.f.b<4294967296)):FK 2 s (Q1H s):=by
 have R:=FK.refl h
 have hold:=fun b=>Q0s s.L hw b
 have Q:=X3Y (s:=s) 2 h
 unfold Q1H
 split
 ·split
  ·exact((Q.note _ _).goto _).more (by decide)
  ·exact((Q.note _ _).fin _).more (by decide)
 ·exact(Q).more (by decide)
theorem X7X(hw:Words s.L)(h:(0≤s.f.a∧s.f.a<4294967296)∧(0≤s.f.b∧s.f.b<4294967296)):FK 2 s (Q1h s):=by
 have R:=FK.refl h
 have hold:=fun b=>Q0s s.L hw b
 unfold Q1h
 split
 ·exact(((R.did _).setB (hold _)).goto _).more (by decide)
 split
 ·exact((((R.did _).Q0h (hold _)).note _ _).goto _).more (by decide)
 split
 ·dsimp only
  split
  ·split
   ·exact(((R.waited _).note _ _).fin _).more (by decide)
   ·exact((R.waited _).fin _).more (by decide)
  ·split
   ·exact((R.waited _).note _ _).more (by decide)
   ·exact(R.waited _).more (by decide)
 ·exact X4X hw h
theorem Q9I(hw:Words s.L)(h:(0≤s.f.a∧s.f.a<4294967296)∧(0≤s.f.b∧s.f.b<4294967296)):FK 2 s (Q0M s):=by
 have R:=FK.refl h
 have hold:=fun b=>Q0s s.L hw b
 unfold Q0M
 split
 ·exact(((R.did _).setB (hold _)).goto _).more (by decide)
 split
 ·exact(((R.did _).setB (hold _)).goto _).more (by decide)
 split
 ·exact((((R.did _).note _ _).wake _).goto _).more (by decide)
 split
 ·exact((((R.did _).note _ _).wake _).goto _).more (by decide)
 split
 ·exact((R.did _).goto _).more (by decide)
 split
 ·exact((R.did _).goto _).more (by decide)
 ·exact X1p _ _ hw h
theorem Y0P(hw:Words s.L)(h:(0≤s.f.a∧s.f.a<4294967296)∧(0≤s.f.b∧s.f.b<4294967296)):FK 2 s (Q1M s):=by
 have R:=FK.refl h
 have hold:=fun b=>Q0s s.L hw b
 unfold Q1M
 dsimp only
 split
 ·exact((((R.did _).setB (hold _)).note _ _).goto _).more (by decide)
 ·exact(((R.did _).setB (hold _)).goto _).more (by decide)
theorem X4W(hw:Words s.L)(h:(0≤s.f.a∧s.f.a<4294967296)∧(0≤s.f.b∧s.f.b<4294967296)):FK 2 s (Q0P s):=by
 have R:=FK.refl h
 have hold:=fun b=>Q0s s.L hw b
 unfold Q0P
 dsimp only
 split
 ·split
  ·exact(((R.waited _).note _ _).fin _).more (by decide)
  ·exact((R.waited _).fin _).more (by decide)
 ·split
  ·exact((R.waited _).note _ _).more (by decide)
  ·exact(R.waited _).more (by decide)
theorem Y0O(hw:Words s.L)(h:(0≤s.f.a∧s.f.a<4294967296)∧(0≤s.f.b∧s.f.b<4294967296)):FK 2 s (Q1L s):=by
 have R:=FK.refl h
 have hold:=fun b=>Q0s s.L hw b
 unfold Q1L
 dsimp only
 split
 ·exact((((R.did _).setB (hold _)).note _ _).goto _).more (by decide)
 ·exact(((R.did _).setB (hold _)).goto _).more (by decide)
theorem X4V(hw:Words s.L)(h:(0≤s.f.a∧s.f.a<4294967296)∧(0≤s.f.b∧s.f.b<4294967296)):FK 2 s (Q0O s):=by
 have R:=FK.refl h
 have hold:=fun b=>Q0s s.L hw b
 unfold Q0O
 dsimp only
 split
 ·split
  ·exact(((R.waited _).note _ _).goto _).more (by decide)
  ·exact((R.waited _).goto _).more (by decide)
 ·split
  ·exact((R.waited _).note _ _).more (by decide)
  ·exact(R.waited _).more (by decide)
theorem Q8v(hw:Words s.L)(h:(0≤s.f.a∧s.f.a<4294967296)∧(0≤s.f.b∧s.f.b<4294967296)):FK 2 s (Q0y s):=by
 have R:=FK.refl h
 have hold:=fun b=>Q0s s.L hw b
 unfold Q0y
 split
 ·exact(((R.did _).Q0h (hold _)).goto _).more (by decide)
 split
 ·split
  ·exact Y0O hw h
  ·exact Y0P hw h
 split
 ·exact(((R.did _).setB (hold _)).goto _).more (by decide)
 split
 ·exact((((R.did _).Q0h (hold _)).note _ _).goto _).more (by decide)
 split
 ·split
  ·exact X4V hw h
  ·exact X4W hw h
 split
 ·split
  ·exact((R.did _).fin _).more (by decide)
  ·exact(R).more (by decide)
 ·exact X1p _ _ hw h
theorem Y6A(hw:Words s.L)(h:(0≤s.f.a∧s.f.a<4294967296)∧(0≤s.f.b∧s.f.b<4294967296)):FK 2 s (pqA s):=by
 have R:=FK.refl h
 have hold:=fun b=>Q0s s.L hw b
 unfold pqA
 split
 ·exact Y1f hw h
 split
 ·exact Y1e hw h
 split
 ·exact Y1d hw h
 split
 ·exact Y1c hw h
 split
 ·exact Y1b hw h
 split
 ·exact X7X hw h
 split
 ·exact Q9I hw h
 split
 ·exact Q9I hw h
 split
 ·split
  ·exact X3J hw h
  ·exact Q8v hw h
 split
 ·split
  ·exact X3J hw h
  ·exact Q8v hw h
 ·exact(R).more (by decide)
end
theorem Y0Q(s:Rn)(hw:Words s.L)(h:I64 s.n∧(0≤s.f.a∧s.f.a<4294967296)∧(0≤s.f.b∧s.f.b<4294967296)):Fine s (pqA s):=by
 have F:=Y6A hw h.2
 exact Q0f ⟨⟨by rw[F.1.1];exact h.1,F.2.1⟩,by have:=F.2.2;omega⟩
end
end Go.Proofs.YthnimpkoidablaaGreat.Z
