import Derived.Test.YthnimpkoidablaaGreatZA13
set_option linter.unusedVariables false
set_option linter.unusedSimpArgs false
set_option maxHeartbeats 3200000
namespace Go.Proofs.YthnimpkoidablaaGreat.Z
open Go.RowKit
attribute [local go_sem↓] Go.wp_at_zero Go.wp_at_succ
def Q0x(s:Rn)(class_:Int):Rn:=(((s.did (doA s.L ⟨3,0,1,0,0⟩)).Q0h (doA s.L ⟨3,0,1,0,0⟩).1.old).note 2 class_).goto 1
theorem X1a{S0:List Nat}{w0 w:World}{m a r:Nat}{rs:List Res}{s:Rn}(H:Q0a S0 w0 m a r rs s w){o l:Int}(hop:s.f.op=o)(hl:s.f.line=l)(hc:s.notes.length≤900)(class_:Int):
 Calls Tryz.prog 84 #[.pointer (some ⟨r,0,none⟩), .int .i64 class_] w fun e w'=>e= .returned (.tuple #[])∧Q0a S0 w0 m a r rs (Q0x s class_) w':=by
 have HC:=Lib.hid hc
 have HH:=Lib.hid H
 clear hc H
 go_enter Tryz.func84,Tryz.ntmps84
 go_wp2_with fail
 refine(Q2f HH.out 0 1 (by decide)).mono ?_
 rintro e w1⟨rfl,H1⟩
 obtain⟨x0,x2,x4,x5,x6,x7⟩:=H1.facts hop hl rfl rfl
 go_wp2_with fail
 refine(Q0r (H1.Q0h (doA s.L ⟨3,0,1,0,0⟩).1.old) (by have:=HC.out;first|exact Nat.le_trans this (by decide)|(simp[Rn.note,Rn.did,Rn.Q0h,Rn.setB,Rn.waited,Rn.goto,Rn.Q0d];omega)) 2 class_).mono ?_
 rintro e w2⟨rfl,H2⟩
 obtain⟨x0,x2,x4,x5,x6,x7⟩:=H2.facts hop hl (x:=(doA s.L ⟨3,0,1,0,0⟩).1.old) rfl rfl
 go_wp2_with fail
 refine(Q1j H2 1).mono ?_
 rintro e w3⟨rfl,H3⟩
 go_wp2_with fail
 go_end0
 exact⟨rfl,H3⟩
def Q0J(s:Rn)(what:Int):Rn:=(((s.did (doA s.L ⟨3,1,1,0,0⟩)).note what 0).wake 1).fin true
theorem X0j{S0:List Nat}{w0 w:World}{m a r:Nat}{rs:List Res}{s:Rn}(H:Q0a S0 w0 m a r rs s w){o l:Int}(hop:s.f.op=o)(hl:s.f.line=l)(hc:s.notes.length≤900)(what:Int):
 Calls Tryz.prog 87 #[.pointer (some ⟨r,0,none⟩), .int .i64 what] w fun e w'=>e= .returned (.tuple #[])∧Q0a S0 w0 m a r rs (Q0J s what) w':=by
 have HC:=Lib.hid hc
 have HH:=Lib.hid H
 clear hc H
 go_enter Tryz.func87,Tryz.ntmps87
 go_wp2_with fail
 refine(Q2f HH.out 1 1 (by decide)).mono ?_
 rintro e w1⟨rfl,H1⟩
 obtain⟨x0,x2,x4,x5,x6,x7⟩:=H1.facts hop hl rfl rfl
 go_wp2_with fail
 refine(Q0r H1 (by have:=HC.out;first|exact Nat.le_trans this (by decide)|(simp[Rn.note,Rn.did,Rn.Q0h,Rn.setB,Rn.waited,Rn.goto,Rn.Q0d];omega)) what 0).mono ?_
 rintro e w2⟨rfl,H2⟩
 obtain⟨x0,x2,x4,x5,x6,x7⟩:=H2.facts hop hl rfl rfl
 go_wp2_with fail
 refine(Q3l H2 1).mono ?_
 rintro e w3⟨rfl,H3⟩
 go_wp2_with fail
 refine(Q1x H3 true).mono ?_
 rintro e w4⟨rfl,H4⟩
 go_wp2_with fail
 go_end0
 exact⟨rfl,H4⟩
def Q5J(s:Rn)(c may:Int):Rn:=
 let v:=(doA s.L ⟨1,c,0,0,0⟩).1.old
 let s1:=(s.did (doA s.L ⟨1,c,0,0,0⟩)).setB v
 if may<Q1s s.f.a v then(s1.note 5 0).fin false else if Q1s s.f.a v<may then s1.goto 0 else s1.goto 2
theorem X2k{S0:List Nat}{w0 w:World}{m a r:Nat}{rs:List Res}{s:Rn}(H:Q0a S0 w0 m a r rs s w){o l:Int}(hop:s.f.op=o)(hl:s.f.line=l)(ha:0≤s.f.a∧s.f.a<4294967296)(hc:s.notes.length≤900)(c may:Int):
 Calls Tryz.prog 134 #[.pointer (some ⟨r,0,none⟩), .int .i64 c, .int .i64 may] w fun e w'=>e= .returned (.tuple #[])∧Q0a S0 w0 m a r rs (Q5J s c may) w':=by
 have hld:=fun W (H:Q0a S0 w0 m a r rs s W)=>Q1r H c
 have hv:=H.old ⟨1,c,0,0,0⟩
 unfold Q5J
 dsimp only
 have hah:=fun W=>Q5k s.f.a (doA s.L ⟨1,c,0,0,0⟩).1.old W ha hv
 generalize hn:Q1s s.f.a (doA s.L ⟨1,c,0,0,0⟩).1.old=n at hah⊢
 generalize hvv:(doA s.L ⟨1,c,0,0,0⟩).1.old=v at hld hah hv⊢
 generalize hs2:s.did (doA s.L ⟨1,c,0,0,0⟩)=s2 at hld⊢
 have h2o:s2.f.op=o:=by rw[←hs2];exact hop
 have h2l:s2.f.line=l:=by rw[←hs2];exact hl
 have h2n:s2.notes=s.notes:=by rw[←hs2];rfl
 have h2a:s2.f.a=s.f.a:=by rw[←hs2];rfl
 rw[←h2a]at hah
 have HC:=Lib.hid (show s2.notes.length≤900 by rw[h2n];exact hc)
 have HH:=Lib.hid H
 have HLD:=Lib.hid hld
 have HAH:=Lib.hid hah
 clear hc H hld hah hn hvv hs2 hv h2n ha h2a hop hl
 have hop:=h2o
 have hl:=h2l
 clear h2o h2l
 by_cases c1:may<n
 ·rw[if_pos c1]
  go_enter Tryz.func134,Tryz.ntmps134
  go_wp2_with fail
  refine(HLD.out _ HH.out).mono ?_
  rintro e w1⟨rfl,H1⟩
  obtain⟨x0,x2,x4,x5,x6,x7⟩:=H1.facts hop hl rfl rfl
  go_wp2_with fail
  refine Q1a (by kernel_rfl) (by kernel_rfl) ?_
  simp only[Q0G,probes,List.nil_append]
  go_wp2_with fail
  refine(HAH.out _).mono ?_
  rintro e w2⟨rfl,rfl⟩
  go_wp2_with fail
  rw[Q0g]
  rename_i hK
  refine hK _ _ ?_
  clear hK
  have H2:=(H1.setB v).drew
  go_wp2_with fail
  refine(Q0r H2 (by have:=HC.out;first|exact Nat.le_trans this (by decide)|(simp[Rn.note,Rn.did,Rn.Q0h,Rn.setB,Rn.waited,Rn.goto,Rn.Q0d];omega)) 5 0).mono ?_
  rintro e w3⟨rfl,H3⟩
  go_wp2_with fail
  refine(Q1x H3 false).mono ?_
  rintro e w4⟨rfl,H4⟩
  go_wp2_with fail
  go_end0
  exact⟨rfl,H4⟩
 ·rw[if_neg c1]
  by_cases c2:n<may
  ·rw[if_pos c2]
   go_enter Tryz.func134,Tryz.ntmps134
   go_wp2_with fail
   refine(HLD.out _ HH.out).mono ?_
   rintro e w1⟨rfl,H1⟩
   obtain⟨x0,x2,x4,x5,x6,x7⟩:=H1.facts hop hl rfl rfl
   go_wp2_with fail
   refine Q1a (by kernel_rfl) (by kernel_rfl) ?_
   simp only[Q0G,probes,List.nil_append]
   go_wp2_with fail
   refine(HAH.out _).mono ?_
   rintro e w2⟨rfl,rfl⟩
   go_wp2_with fail
   rw[Q0g]
   rename_i hK
   refine hK _ _ ?_
   clear hK
   have H2:=(H1.setB v).drew
   go_wp2_with fail
   refine(Q1j H2 0).mono ?_
   rintro e w3⟨rfl,H3⟩
   go_wp2_with fail
   go_end0
   exact⟨rfl,H3⟩
  ·rw[if_neg c2]
   go_enter Tryz.func134,Tryz.ntmps134
   go_wp2_with fail
   refine(HLD.out _ HH.out).mono ?_
   rintro e w1⟨rfl,H1⟩
   obtain⟨x0,x2,x4,x5,x6,x7⟩:=H1.facts hop hl rfl rfl
   go_wp2_with fail
   refine Q1a (by kernel_rfl) (by kernel_rfl) ?_
   simp only[Q0G,probes,List.nil_append]
   go_wp2_with fail
   refine(HAH.out _).mono ?_
   rintro e w2⟨rfl,rfl⟩
   go_wp2_with fail
   rw[Q0g]
   rename_i hK
   refine hK _ _ ?_
   clear hK
   have H2:=(H1.setB v).drew
   go_wp2_with fail
   refine(Q1j H2 2).mono ?_
   rintro e w3⟨rfl,H3⟩
   go_wp2_with fail
   go_end0
   exact⟨rfl,H3⟩
def Q2t(s:Rn):Rn×Bool:=
 let s1:=s.did (doA s.L ⟨5,0,s.f.a,(s.f.a+1)%4294967296,0⟩)
 if Q7N s.L 0 s.f.a ((s.f.a+1)%4294967296)then(s1,true)else(s1.goto 0,false)
theorem X2j{S0:List Nat}{w0 w:World}{m a r:Nat}{rs:List Res}{s:Rn}(H:Q0a S0 w0 m a r rs s w){o l:Int}(hop:s.f.op=o)(hl:s.f.line=l)(ha:0≤s.f.a∧s.f.a<4294967296):
 Calls Tryz.prog 135 #[.pointer (some ⟨r,0,none⟩)] w fun e w'=>e= .returned (.bool (Q2t s).2)∧Q0a S0 w0 m a r rs (Q2t s).1 w':=by
 obtain⟨z0,z2,z4,z5,z6,z7⟩:=H.facts hop hl rfl rfl
 have hcas:=fun W (H:Q0a S0 w0 m a r rs s W)=>Q6m H 0 s.f.a ((s.f.a+1)%4294967296) ha (by omega)
 unfold Q2t
 have HH:=Lib.hid H
 clear H ha
 cases hb:Q7N s.L 0 s.f.a ((s.f.a+1)%4294967296)with
 |true=>
  rw[hb]at hcas
  have HCAS:=Lib.hid hcas
  clear hcas
  simp only[if_true]
  go_enter Tryz.func135,Tryz.ntmps135
  go_wp2_with fail
  refine Q1a (by kernel_rfl) (by kernel_rfl) ?_
  simp only[Q0G,probes,List.nil_append,List.cons_append,probe]
  go_wp2_with fail
  refine(HCAS.out _ HH.out.drew).mono ?_
  rintro e w1⟨rfl,H1⟩
  go_wp2_with fail
  rw[Q0g]
  rename_i hK
  refine hK _ _ ?_
  clear hK
  go_wp2_with fail
  go_ret
  exact⟨rfl,H1⟩
 |false=>
  rw[hb]at hcas
  have HCAS:=Lib.hid hcas
  clear hcas
  simp only[Bool.false_eq_true,if_false]
  go_enter Tryz.func135,Tryz.ntmps135
  go_wp2_with fail
  refine Q1a (by kernel_rfl) (by kernel_rfl) ?_
  simp only[Q0G,probes,List.nil_append,List.cons_append,probe]
  go_wp2_with fail
  refine(HCAS.out _ HH.out.drew).mono ?_
  rintro e w1⟨rfl,H1⟩
  go_wp2_with fail
  rw[Q0g]
  rename_i hK
  refine hK _ _ ?_
  clear hK
  go_wp2_with fail
  refine(Q1j H1 0).mono ?_
  rintro e w2⟨rfl,H2⟩
  go_wp2_with fail
  go_ret
  exact⟨rfl,H2⟩
theorem X6A(x v:Int){b:Nat}(w:World)(hb:Blk w b #[.int .u32 x]):
 Calls Tryz.prog 83 #[.int .u32 v, .pointer (some ⟨b,0,none⟩)] w fun e w'=>e= .returned (.bool (v==x))∧Touch [] w w':=by
 obtain⟨x0,x1,x2⟩:=hb.own
 go_enter Tryz.func83,Tryz.ntmps83
 go_wp2
 go_ret
 exact⟨rfl,Touch.refl _ _⟩
attribute [local go_sem↓] Go.wp_at_zero Go.wp_at_succ
def Y5d(s:Rn):Rn:=
 Q0x s 1
theorem tf_10{S0:List Nat}{w0 w:World}{m a r:Nat}{rs:List Res}{s:Rn}(H:Q0a S0 w0 m a r rs s w)(hop:s.f.op=1)(hl:s.f.line=0)(hn:I64 s.n)(ha:0≤s.f.a∧s.f.a<4294967296)(hc:s.notes.length≤900):
 Calls Tryz.prog 67 #[.pointer (some ⟨r,0,none⟩)] w fun e w'=>e= .returned (.tuple #[])∧Q0a S0 w0 m a r rs (Y5d s) w':=by
 obtain⟨z0,z2,z4,z5,z6,z7⟩:=H.facts hop hl rfl rfl
 have HC:=Lib.hid hc
 have HA:=Lib.hid ha
 have HN:=Lib.hid hn
 have HH:=Lib.hid (H.box rfl #[.int .u32 s.f.a] 22)
 clear hc H hn ha
 unfold Y5d
 go_enter Tryz.func67,Tryz.ntmps67
 go_wp2_with fail
 go_quiet (fail)
 have HW:=HH.out.drewN nq
 clear z0 z2 z4 z5 z6 z7
 generalize w.heap.size=tb at HW⊢
 generalize (World.drewN _ nq)=W at HW⊢
 obtain⟨z0,z2,z4,z5,z6,z7⟩:=HW.facts hop hl rfl rfl
 go_wp2_with fail
 refine(X1a HW hop hl HC.out 1).mono ?_
 rintro e w1⟨rfl,H1⟩
 go_wp2_with fail
 go_end0
 exact⟨rfl,H1.Q0N⟩
def Y5a(s:Rn):Rn:=
 Q0x s 2
theorem tf_30{S0:List Nat}{w0 w:World}{m a r:Nat}{rs:List Res}{s:Rn}(H:Q0a S0 w0 m a r rs s w)(hop:s.f.op=3)(hl:s.f.line=0)(hn:I64 s.n)(ha:0≤s.f.a∧s.f.a<4294967296)(hc:s.notes.length≤900):
 Calls Tryz.prog 67 #[.pointer (some ⟨r,0,none⟩)] w fun e w'=>e= .returned (.tuple #[])∧Q0a S0 w0 m a r rs (Y5a s) w':=by
 obtain⟨z0,z2,z4,z5,z6,z7⟩:=H.facts hop hl rfl rfl
 have HC:=Lib.hid hc
 have HA:=Lib.hid ha
 have HN:=Lib.hid hn
 have HH:=Lib.hid (H.box rfl #[.int .u32 s.f.a] 22)
 clear hc H hn ha
 unfold Y5a
 go_enter Tryz.func67,Tryz.ntmps67
 go_wp2_with fail
 go_quiet (fail)
 have HW:=HH.out.drewN nq
 clear z0 z2 z4 z5 z6 z7
 generalize w.heap.size=tb at HW⊢
 generalize (World.drewN _ nq)=W at HW⊢
 obtain⟨z0,z2,z4,z5,z6,z7⟩:=HW.facts hop hl rfl rfl
 go_wp2_with fail
 refine(X1a HW hop hl HC.out 2).mono ?_
 rintro e w1⟨rfl,H1⟩
 go_wp2_with fail
 go_end0
 exact⟨rfl,H1.Q0N⟩
def Y5c(s:Rn):Rn:=
 Q0J s 4
theorem tf_12{S0:List Nat}{w0 w:World}{m a r:Nat}{rs:List Res}{s:Rn}(H:Q0a S0 w0 m a r rs s w)(hop:s.f.op=1)(hl:s.f.line=2)(hn:I64 s.n)(ha:0≤s.f.a∧s.f.a<4294967296)(hc:s.notes.length≤900):
 Calls Tryz.prog 67 #[.pointer (some ⟨r,0,none⟩)] w fun e w'=>e= .returned (.tuple #[])∧Q0a S0 w0 m a r rs (Y5c s) w':=by
 obtain⟨z0,z2,z4,z5,z6,z7⟩:=H.facts hop hl rfl rfl
 have HC:=Lib.hid hc
 have HA:=Lib.hid ha
 have HN:=Lib.hid hn
 have HH:=Lib.hid (H.box rfl #[.int .u32 s.f.a] 22)
 clear hc H hn ha
 unfold Y5c
 go_enter Tryz.func67,Tryz.ntmps67
 go_wp2_with fail
 go_quiet (fail)
 have HW:=HH.out.drewN nq
 clear z0 z2 z4 z5 z6 z7
 generalize w.heap.size=tb at HW⊢
 generalize (World.drewN _ nq)=W at HW⊢
 obtain⟨z0,z2,z4,z5,z6,z7⟩:=HW.facts hop hl rfl rfl
 go_wp2_with fail
 refine(X0j HW hop hl HC.out 4).mono ?_
 rintro e w1⟨rfl,H1⟩
 go_wp2_with fail
 go_end0
 exact⟨rfl,H1.Q0N⟩
def Y4U(s:Rn):Rn:=
 Q0J s 4
theorem tf_53{S0:List Nat}{w0 w:World}{m a r:Nat}{rs:List Res}{s:Rn}(H:Q0a S0 w0 m a r rs s w)(hop:s.f.op=5)(hl:s.f.line=3)(hn:I64 s.n)(ha:0≤s.f.a∧s.f.a<4294967296)(hc:s.notes.length≤900):
 Calls Tryz.prog 67 #[.pointer (some ⟨r,0,none⟩)] w fun e w'=>e= .returned (.tuple #[])∧Q0a S0 w0 m a r rs (Y4U s) w':=by
 obtain⟨z0,z2,z4,z5,z6,z7⟩:=H.facts hop hl rfl rfl
 have HC:=Lib.hid hc
 have HA:=Lib.hid ha
 have HN:=Lib.hid hn
 have HH:=Lib.hid (H.box rfl #[.int .u32 s.f.a] 22)
 clear hc H hn ha
 unfold Y4U
 go_enter Tryz.func67,Tryz.ntmps67
 go_wp2_with fail
 go_quiet (fail)
 have HW:=HH.out.drewN nq
 clear z0 z2 z4 z5 z6 z7
 generalize w.heap.size=tb at HW⊢
 generalize (World.drewN _ nq)=W at HW⊢
 obtain⟨z0,z2,z4,z5,z6,z7⟩:=HW.facts hop hl rfl rfl
 go_wp2_with fail
 refine(X0j HW hop hl HC.out 4).mono ?_
 rintro e w1⟨rfl,H1⟩
 go_wp2_with fail
 go_end0
 exact⟨rfl,H1.Q0N⟩
def Y4M(s:Rn):Rn:=
 Q0J s 10
theorem tf_80{S0:List Nat}{w0 w:World}{m a r:Nat}{rs:List Res}{s:Rn}(H:Q0a S0 w0 m a r rs s w)(hop:s.f.op=8)(hl:s.f.line=0)(hn:I64 s.n)(ha:0≤s.f.a∧s.f.a<4294967296)(hc:s.notes.length≤900):
 Calls Tryz.prog 67 #[.pointer (some ⟨r,0,none⟩)] w fun e w'=>e= .returned (.tuple #[])∧Q0a S0 w0 m a r rs (Y4M s) w':=by
 obtain⟨z0,z2,z4,z5,z6,z7⟩:=H.facts hop hl rfl rfl
 have HC:=Lib.hid hc
 have HA:=Lib.hid ha
 have HN:=Lib.hid hn
 have HH:=Lib.hid (H.box rfl #[.int .u32 s.f.a] 22)
 clear hc H hn ha
 unfold Y4M
 go_enter Tryz.func67,Tryz.ntmps67
 go_wp2_with fail
 go_quiet (fail)
 have HW:=HH.out.drewN nq
 clear z0 z2 z4 z5 z6 z7
 generalize w.heap.size=tb at HW⊢
 generalize (World.drewN _ nq)=W at HW⊢
 obtain⟨z0,z2,z4,z5,z6,z7⟩:=HW.facts hop hl rfl rfl
 go_wp2_with fail
 refine(X0j HW hop hl HC.out 10).mono ?_
 rintro e w1⟨rfl,H1⟩
 go_wp2_with fail
 go_end0
 exact⟨rfl,H1.Q0N⟩
def Y5b(s:Rn):Rn:=
 (((s.did (doA s.L ⟨3,2,1,0,0⟩)).note 6 0).wake 2).fin true
theorem tf_20{S0:List Nat}{w0 w:World}{m a r:Nat}{rs:List Res}{s:Rn}(H:Q0a S0 w0 m a r rs s w)(hop:s.f.op=2)(hl:s.f.line=0)(hn:I64 s.n)(ha:0≤s.f.a∧s.f.a<4294967296)(hc:s.notes.length≤900):
 Calls Tryz.prog 67 #[.pointer (some ⟨r,0,none⟩)] w fun e w'=>e= .returned (.tuple #[])∧Q0a S0 w0 m a r rs (Y5b s) w':=by
 obtain⟨z0,z2,z4,z5,z6,z7⟩:=H.facts hop hl rfl rfl
 have HC:=Lib.hid hc
 have HA:=Lib.hid ha
 have HN:=Lib.hid hn
 have HH:=Lib.hid (H.box rfl #[.int .u32 s.f.a] 22)
 clear hc H hn ha
 unfold Y5b
 go_enter Tryz.func67,Tryz.ntmps67
 go_wp2_with fail
 go_quiet (fail)
 have HW:=HH.out.drewN nq
 clear z0 z2 z4 z5 z6 z7
 generalize w.heap.size=tb at HW⊢
 generalize (World.drewN _ nq)=W at HW⊢
 obtain⟨z0,z2,z4,z5,z6,z7⟩:=HW.facts hop hl rfl rfl
 go_wp2_with fail
 refine(Q2f HW 2 1 (by decide)).mono ?_
 rintro e w1⟨rfl,H1⟩
 go_wp2_with fail
 refine(Q0r H1 (by have:=HC.out;first|exact Nat.le_trans this (by decide)|(simp[Rn.note,Rn.did,Rn.Q0h,Rn.setB,Rn.waited,Rn.goto,Rn.Q0d];omega)) 6 0).mono ?_
 rintro e w2⟨rfl,H2⟩
 go_wp2_with fail
 refine(Q3l H2 2).mono ?_
 rintro e w3⟨rfl,H3⟩
 go_wp2_with fail
 refine(Q1x H3 true).mono ?_
 rintro e w4⟨rfl,H4⟩
 go_wp2_with fail
 go_end0
 exact⟨rfl,H4.Q0N⟩
def Y4Z(s:Rn):Rn:=
 (((s.did (doA s.L ⟨3,1,1,0,0⟩)).note 7 0).wake 1).goto 1
theorem tf_40{S0:List Nat}{w0 w:World}{m a r:Nat}{rs:List Res}{s:Rn}(H:Q0a S0 w0 m a r rs s w)(hop:s.f.op=4)(hl:s.f.line=0)(hn:I64 s.n)(ha:0≤s.f.a∧s.f.a<4294967296)(hc:s.notes.length≤900):
 Calls Tryz.prog 67 #[.pointer (some ⟨r,0,none⟩)] w fun e w'=>e= .returned (.tuple #[])∧Q0a S0 w0 m a r rs (Y4Z s) w':=by
 obtain⟨z0,z2,z4,z5,z6,z7⟩:=H.facts hop hl rfl rfl
 have HC:=Lib.hid hc
 have HA:=Lib.hid ha
 have HN:=Lib.hid hn
 have HH:=Lib.hid (H.box rfl #[.int .u32 s.f.a] 22)
 clear hc H hn ha
 unfold Y4Z
 go_enter Tryz.func67,Tryz.ntmps67
 go_wp2_with fail
 go_quiet (fail)
 have HW:=HH.out.drewN nq
 clear z0 z2 z4 z5 z6 z7
 generalize w.heap.size=tb at HW⊢
 generalize (World.drewN _ nq)=W at HW⊢
 obtain⟨z0,z2,z4,z5,z6,z7⟩:=HW.facts hop hl rfl rfl
 go_wp2_with fail
 refine(Q2f HW 1 1 (by decide)).mono ?_
 rintro e w1⟨rfl,H1⟩
 go_wp2_with fail
 refine(Q0r H1 (by have:=HC.out;first|exact Nat.le_trans this (by decide)|(simp[Rn.note,Rn.did,Rn.Q0h,Rn.setB,Rn.waited,Rn.goto,Rn.Q0d];omega)) 7 0).mono ?_
 rintro e w2⟨rfl,H2⟩
 go_wp2_with fail
 refine(Q3l H2 1).mono ?_
 rintro e w3⟨rfl,H3⟩
 go_wp2_with fail
 refine(Q1j H3 1).mono ?_
 rintro e w4⟨rfl,H4⟩
 go_wp2_with fail
 go_end0
 exact⟨rfl,H4.Q0N⟩
def Y4Y(s:Rn):Rn:=
 (((s.did (doA s.L ⟨3,2,1,0,0⟩)).note 8 0).wake 2).fin true
theorem tf_41{S0:List Nat}{w0 w:World}{m a r:Nat}{rs:List Res}{s:Rn}(H:Q0a S0 w0 m a r rs s w)(hop:s.f.op=4)(hl:s.f.line=1)(hn:I64 s.n)(ha:0≤s.f.a∧s.f.a<4294967296)(hc:s.notes.length≤900):
 Calls Tryz.prog 67 #[.pointer (some ⟨r,0,none⟩)] w fun e w'=>e= .returned (.tuple #[])∧Q0a S0 w0 m a r rs (Y4Y s) w':=by
 obtain⟨z0,z2,z4,z5,z6,z7⟩:=H.facts hop hl rfl rfl
 have HC:=Lib.hid hc
 have HA:=Lib.hid ha
 have HN:=Lib.hid hn
 have HH:=Lib.hid (H.box rfl #[.int .u32 s.f.a] 22)
 clear hc H hn ha
 unfold Y4Y
 go_enter Tryz.func67,Tryz.ntmps67
 go_wp2_with fail
 go_quiet (fail)
 have HW:=HH.out.drewN nq
 clear z0 z2 z4 z5 z6 z7
 generalize w.heap.size=tb at HW⊢
 generalize (World.drewN _ nq)=W at HW⊢
 obtain⟨z0,z2,z4,z5,z6,z7⟩:=HW.facts hop hl rfl rfl
 go_wp2_with fail
 refine(Q2f HW 2 1 (by decide)).mono ?_
 rintro e w1⟨rfl,H1⟩
 go_wp2_with fail
 refine(Q0r H1 (by have:=HC.out;first|exact Nat.le_trans this (by decide)|(simp[Rn.note,Rn.did,Rn.Q0h,Rn.setB,Rn.waited,Rn.goto,Rn.Q0d];omega)) 8 0).mono ?_
 rintro e w2⟨rfl,H2⟩
 go_wp2_with fail
 refine(Q3l H2 2).mono ?_
 rintro e w3⟨rfl,H3⟩
 go_wp2_with fail
 refine(Q1x H3 true).mono ?_
 rintro e w4⟨rfl,H4⟩
 go_wp2_with fail
 go_end0
 exact⟨rfl,H4.Q0N⟩
def Y3g(s:Rn):Rn:=
 let s1:=s.waited (Q0t s.L s.n s.mode s.task s.f.st 1 (fun v=>v==s.f.a))
 if(Q0t s.L s.n s.mode s.task s.f.st 1 (fun v=>v==s.f.a)).done then s1.goto 2 else s1
theorem tf_11{S0:List Nat}{w0 w:World}{m a r:Nat}{rs:List Res}{s:Rn}(H:Q0a S0 w0 m a r rs s w)(hop:s.f.op=1)(hl:s.f.line=1)(hn:I64 s.n)(ha:0≤s.f.a∧s.f.a<4294967296)(hc:s.notes.length≤900):
 Calls Tryz.prog 67 #[.pointer (some ⟨r,0,none⟩)] w fun e w'=>e= .returned (.tuple #[])∧Q0a S0 w0 m a r rs (Y3g s) w':=by
 obtain⟨z0,z2,z4,z5,z6,z7⟩:=H.facts hop hl rfl rfl
 have HC:=Lib.hid hc
 have HA:=Lib.hid ha
 have HN:=Lib.hid hn
 have HH:=Lib.hid (H.box rfl #[.int .u32 s.f.a] 22)
 clear hc H hn ha
 unfold Y3g
 have hwt:=fun(tb:Nat) W (H:Q0a S0 w0 m a r (.blk tb #[.int .u32 s.f.a]::rs) s W)=>Q3m H HN.out 1 83 #[] #[.pointer (some ⟨tb,0,none⟩)] (fun v=>v==s.f.a) (enters_of Tryz.func83 (by kernel_rfl) rfl) (fun W v _ _ H=>X6A s.f.a v W H.first)
 cases hs:(Q0t s.L s.n s.mode s.task s.f.st 1 (fun v=>v==s.f.a)).seen<;>cases hd:(Q0t s.L s.n s.mode s.task s.f.st 1 (fun v=>v==s.f.a)).done<;>rw[hs,hd]at hwt<;>simp only[if_true,Bool.false_eq_true,if_false]<;>(have HWT:=Lib.hid hwt)<;>clear hwt hs hd
 ·go_enter Tryz.func67,Tryz.ntmps67
  go_wp2_with fail
  go_quiet (fail)
  have HW:=HH.out.drewN nq
  clear z0 z2 z4 z5 z6 z7
  generalize w.heap.size=tb at HW⊢
  generalize (World.drewN _ nq)=W at HW⊢
  obtain⟨z0,z2,z4,z5,z6,z7⟩:=HW.facts hop hl rfl rfl
  go_wp2_with fail
  refine(HWT.out _ _ HW).mono ?_
  rintro e w1⟨rfl,H1⟩
  go_wp2_with fail
  go_end0
  exact⟨rfl,H1.Q0N⟩
 ·go_enter Tryz.func67,Tryz.ntmps67
  go_wp2_with fail
  go_quiet (fail)
  have HW:=HH.out.drewN nq
  clear z0 z2 z4 z5 z6 z7
  generalize w.heap.size=tb at HW⊢
  generalize (World.drewN _ nq)=W at HW⊢
  obtain⟨z0,z2,z4,z5,z6,z7⟩:=HW.facts hop hl rfl rfl
  go_wp2_with fail
  refine(HWT.out _ _ HW).mono ?_
  rintro e w1⟨rfl,H1⟩
  go_wp2_with fail
  refine(Q1j H1 2).mono ?_
  rintro e w2⟨rfl,H2⟩
  go_wp2_with fail
  go_end0
  exact⟨rfl,H2.Q0N⟩
 ·go_enter Tryz.func67,Tryz.ntmps67
  go_wp2_with fail
  go_quiet (fail)
  have HW:=HH.out.drewN nq
  clear z0 z2 z4 z5 z6 z7
  generalize w.heap.size=tb at HW⊢
  generalize (World.drewN _ nq)=W at HW⊢
  obtain⟨z0,z2,z4,z5,z6,z7⟩:=HW.facts hop hl rfl rfl
  go_wp2_with fail
  refine(HWT.out _ _ HW).mono ?_
  rintro e w1⟨rfl,H1⟩
  go_wp2_with fail
  go_end0
  exact⟨rfl,H1.Q0N⟩
 ·go_enter Tryz.func67,Tryz.ntmps67
  go_wp2_with fail
  go_quiet (fail)
  have HW:=HH.out.drewN nq
  clear z0 z2 z4 z5 z6 z7
  generalize w.heap.size=tb at HW⊢
  generalize (World.drewN _ nq)=W at HW⊢
  obtain⟨z0,z2,z4,z5,z6,z7⟩:=HW.facts hop hl rfl rfl
  go_wp2_with fail
  refine(HWT.out _ _ HW).mono ?_
  rintro e w1⟨rfl,H1⟩
  go_wp2_with fail
  refine(Q1j H1 2).mono ?_
  rintro e w2⟨rfl,H2⟩
  go_wp2_with fail
  go_end0
  exact⟨rfl,H2.Q0N⟩
def Y3f(s:Rn):Rn:=
 let s1:=s.waited (Q0t s.L s.n s.mode s.task s.f.st 2 (fun v=>v==s.f.a))
 let s2:=if(Q0t s.L s.n s.mode s.task s.f.st 2 (fun v=>v==s.f.a)).seen then s1.note 4 0 else s1
 if(Q0t s.L s.n s.mode s.task s.f.st 2 (fun v=>v==s.f.a)).done then s2.fin true else s2
theorem tf_31{S0:List Nat}{w0 w:World}{m a r:Nat}{rs:List Res}{s:Rn}(H:Q0a S0 w0 m a r rs s w)(hop:s.f.op=3)(hl:s.f.line=1)(hn:I64 s.n)(ha:0≤s.f.a∧s.f.a<4294967296)(hc:s.notes.length≤900):
 Calls Tryz.prog 67 #[.pointer (some ⟨r,0,none⟩)] w fun e w'=>e= .returned (.tuple #[])∧Q0a S0 w0 m a r rs (Y3f s) w':=by
 obtain⟨z0,z2,z4,z5,z6,z7⟩:=H.facts hop hl rfl rfl
 have HC:=Lib.hid hc
 have HA:=Lib.hid ha
 have HN:=Lib.hid hn
 have HH:=Lib.hid (H.box rfl #[.int .u32 s.f.a] 22)
 clear hc H hn ha
 unfold Y3f
 have hwt:=fun(tb:Nat) W (H:Q0a S0 w0 m a r (.blk tb #[.int .u32 s.f.a]::rs) s W)=>Q3m H HN.out 2 83 #[] #[.pointer (some ⟨tb,0,none⟩)] (fun v=>v==s.f.a) (enters_of Tryz.func83 (by kernel_rfl) rfl) (fun W v _ _ H=>X6A s.f.a v W H.first)
 cases hs:(Q0t s.L s.n s.mode s.task s.f.st 2 (fun v=>v==s.f.a)).seen<;>cases hd:(Q0t s.L s.n s.mode s.task s.f.st 2 (fun v=>v==s.f.a)).done<;>rw[hs,hd]at hwt<;>simp only[if_true,Bool.false_eq_true,if_false]<;>(have HWT:=Lib.hid hwt)<;>clear hwt hs hd
 ·go_enter Tryz.func67,Tryz.ntmps67
  go_wp2_with fail
  go_quiet (fail)
  have HW:=HH.out.drewN nq
  clear z0 z2 z4 z5 z6 z7
  generalize w.heap.size=tb at HW⊢
  generalize (World.drewN _ nq)=W at HW⊢
  obtain⟨z0,z2,z4,z5,z6,z7⟩:=HW.facts hop hl rfl rfl
  go_wp2_with fail
  refine(HWT.out _ _ HW).mono ?_
  rintro e w1⟨rfl,H1⟩
  go_wp2_with fail
  go_end0
  exact⟨rfl,H1.Q0N⟩
 ·go_enter Tryz.func67,Tryz.ntmps67
  go_wp2_with fail
  go_quiet (fail)
  have HW:=HH.out.drewN nq
  clear z0 z2 z4 z5 z6 z7
  generalize w.heap.size=tb at HW⊢
  generalize (World.drewN _ nq)=W at HW⊢
  obtain⟨z0,z2,z4,z5,z6,z7⟩:=HW.facts hop hl rfl rfl
  go_wp2_with fail
  refine(HWT.out _ _ HW).mono ?_
  rintro e w1⟨rfl,H1⟩
  go_wp2_with fail
  refine(Q1x H1 true).mono ?_
  rintro e w2⟨rfl,H2⟩
  go_wp2_with fail
  go_end0
  exact⟨rfl,H2.Q0N⟩
 ·go_enter Tryz.func67,Tryz.ntmps67
  go_wp2_with fail
  go_quiet (fail)
  have HW:=HH.out.drewN nq
  clear z0 z2 z4 z5 z6 z7
  generalize w.heap.size=tb at HW⊢
  generalize (World.drewN _ nq)=W at HW⊢
  obtain⟨z0,z2,z4,z5,z6,z7⟩:=HW.facts hop hl rfl rfl
  go_wp2_with fail
  refine(HWT.out _ _ HW).mono ?_
  rintro e w1⟨rfl,H1⟩
  go_wp2_with fail
  refine(Q0r H1 (by have:=HC.out;first|exact Nat.le_trans this (by decide)|(simp[Rn.note,Rn.did,Rn.Q0h,Rn.setB,Rn.waited,Rn.goto,Rn.Q0d];omega)) 4 0).mono ?_
  rintro e w2⟨rfl,H2⟩
  go_wp2_with fail
  go_end0
  exact⟨rfl,H2.Q0N⟩
 ·go_enter Tryz.func67,Tryz.ntmps67
  go_wp2_with fail
  go_quiet (fail)
  have HW:=HH.out.drewN nq
  clear z0 z2 z4 z5 z6 z7
  generalize w.heap.size=tb at HW⊢
  generalize (World.drewN _ nq)=W at HW⊢
  obtain⟨z0,z2,z4,z5,z6,z7⟩:=HW.facts hop hl rfl rfl
  go_wp2_with fail
  refine(HWT.out _ _ HW).mono ?_
  rintro e w1⟨rfl,H1⟩
  go_wp2_with fail
  refine(Q0r H1 (by have:=HC.out;first|exact Nat.le_trans this (by decide)|(simp[Rn.note,Rn.did,Rn.Q0h,Rn.setB,Rn.waited,Rn.goto,Rn.Q0d];omega)) 4 0).mono ?_
  rintro e w2⟨rfl,H2⟩
  go_wp2_with fail
  refine(Q1x H2 true).mono ?_
  rintro e w3⟨rfl,H3⟩
  go_wp2_with fail
  go_end0
  exact⟨rfl,H3.Q0N⟩
attribute [local go_sem↓] Go.wp_at_zero Go.wp_at_succ
def Y4X(s:Rn):Rn:=
 ((s.did (doA s.L ⟨1,0,0,0,0⟩)).Q0h (doA s.L ⟨1,0,0,0,0⟩).1.old).goto 1
theorem tf_50{S0:List Nat}{w0 w:World}{m a r:Nat}{rs:List Res}{s:Rn}(H:Q0a S0 w0 m a r rs s w)(hop:s.f.op=5)(hl:s.f.line=0)(hn:I64 s.n)(ha:0≤s.f.a∧s.f.a<4294967296)(hc:s.notes.length≤900):
 Calls Tryz.prog 92 #[.pointer (some ⟨r,0,none⟩)] w fun e w'=>e= .returned (.tuple #[])∧Q0a S0 w0 m a r rs (Y4X s) w':=by
 obtain⟨z0,z2,z4,z5,z6,z7⟩:=H.facts hop hl rfl rfl
 have HC:=Lib.hid hc
 have HA:=Lib.hid ha
 have HN:=Lib.hid hn
 have HH:=Lib.hid H
 clear hc H hn ha
 unfold Y4X
 go_enter Tryz.func92,Tryz.ntmps92
 go_wp2_with fail
 go_quiet (fail)
 have HW:=HH.out.drewN nq
 clear z0 z2 z4 z5 z6 z7
 generalize w.drewN nq=W at HW⊢
 obtain⟨z0,z2,z4,z5,z6,z7⟩:=HW.facts hop hl rfl rfl
 go_wp2_with fail
 refine(Q1r HW 0).mono ?_
 rintro e w1⟨rfl,H1⟩
 obtain⟨x0,x2,x4,x5,x6,x7⟩:=H1.facts hop hl rfl rfl
 go_wp2_with fail
 refine(Q1j (H1.Q0h (doA s.L ⟨1,0,0,0,0⟩).1.old) 1).mono ?_
 rintro e w2⟨rfl,H2⟩
 go_wp2_with fail
 go_end0
 exact⟨rfl,H2⟩
def Y4T(s:Rn):Rn:=
 ((s.did (doA s.L ⟨1,0,0,0,0⟩)).Q0h (doA s.L ⟨1,0,0,0,0⟩).1.old).goto 1
theorem tf_60{S0:List Nat}{w0 w:World}{m a r:Nat}{rs:List Res}{s:Rn}(H:Q0a S0 w0 m a r rs s w)(hop:s.f.op=6)(hl:s.f.line=0)(hn:I64 s.n)(ha:0≤s.f.a∧s.f.a<4294967296)(hc:s.notes.length≤900):
 Calls Tryz.prog 92 #[.pointer (some ⟨r,0,none⟩)] w fun e w'=>e= .returned (.tuple #[])∧Q0a S0 w0 m a r rs (Y4T s) w':=by
 obtain⟨z0,z2,z4,z5,z6,z7⟩:=H.facts hop hl rfl rfl
 have HC:=Lib.hid hc
 have HA:=Lib.hid ha
 have HN:=Lib.hid hn
 have HH:=Lib.hid H
 clear hc H hn ha
 unfold Y4T
 go_enter Tryz.func92,Tryz.ntmps92
 go_wp2_with fail
 go_quiet (fail)
 have HW:=HH.out.drewN nq
 clear z0 z2 z4 z5 z6 z7
 generalize w.drewN nq=W at HW⊢
 obtain⟨z0,z2,z4,z5,z6,z7⟩:=HW.facts hop hl rfl rfl
 go_wp2_with fail
 refine(Q1r HW 0).mono ?_
 rintro e w1⟨rfl,H1⟩
 obtain⟨x0,x2,x4,x5,x6,x7⟩:=H1.facts hop hl rfl rfl
 go_wp2_with fail
 refine(Q1j (H1.Q0h (doA s.L ⟨1,0,0,0,0⟩).1.old) 1).mono ?_
 rintro e w2⟨rfl,H2⟩
 go_wp2_with fail
 go_end0
 exact⟨rfl,H2⟩
def Y4Q(s:Rn):Rn:=
 ((s.did (doA s.L ⟨1,0,0,0,0⟩)).Q0h (doA s.L ⟨1,0,0,0,0⟩).1.old).goto 1
theorem tf_70{S0:List Nat}{w0 w:World}{m a r:Nat}{rs:List Res}{s:Rn}(H:Q0a S0 w0 m a r rs s w)(hop:s.f.op=7)(hl:s.f.line=0)(hn:I64 s.n)(ha:0≤s.f.a∧s.f.a<4294967296)(hc:s.notes.length≤900):
 Calls Tryz.prog 92 #[.pointer (some ⟨r,0,none⟩)] w fun e w'=>e= .returned (.tuple #[])∧Q0a S0 w0 m a r rs (Y4Q s) w':=by
 obtain⟨z0,z2,z4,z5,z6,z7⟩:=H.facts hop hl rfl rfl
 have HC:=Lib.hid hc
 have HA:=Lib.hid ha
 have HN:=Lib.hid hn
 have HH:=Lib.hid H
 clear hc H hn ha
 unfold Y4Q
 go_enter Tryz.func92,Tryz.ntmps92
 go_wp2_with fail
 go_quiet (fail)
 have HW:=HH.out.drewN nq
 clear z0 z2 z4 z5 z6 z7
 generalize w.drewN nq=W at HW⊢
 obtain⟨z0,z2,z4,z5,z6,z7⟩:=HW.facts hop hl rfl rfl
 go_wp2_with fail
 refine(Q1r HW 0).mono ?_
 rintro e w1⟨rfl,H1⟩
 obtain⟨x0,x2,x4,x5,x6,x7⟩:=H1.facts hop hl rfl rfl
 go_wp2_with fail
 refine(Q1j (H1.Q0h (doA s.L ⟨1,0,0,0,0⟩).1.old) 1).mono ?_
 rintro e w2⟨rfl,H2⟩
 go_wp2_with fail
 go_end0
 exact⟨rfl,H2⟩
def Y4W(s:Rn):Rn:=
 Q5J s 1 0
theorem tf_51{S0:List Nat}{w0 w:World}{m a r:Nat}{rs:List Res}{s:Rn}(H:Q0a S0 w0 m a r rs s w)(hop:s.f.op=5)(hl:s.f.line=1)(hn:I64 s.n)(ha:0≤s.f.a∧s.f.a<4294967296)(hc:s.notes.length≤900):
 Calls Tryz.prog 92 #[.pointer (some ⟨r,0,none⟩)] w fun e w'=>e= .returned (.tuple #[])∧Q0a S0 w0 m a r rs (Y4W s) w':=by
 obtain⟨z0,z2,z4,z5,z6,z7⟩:=H.facts hop hl rfl rfl
 have HC:=Lib.hid hc
 have HA:=Lib.hid ha
 have HN:=Lib.hid hn
 have HH:=Lib.hid H
 clear hc H hn ha
 unfold Y4W
 go_enter Tryz.func92,Tryz.ntmps92
 go_wp2_with fail
 go_quiet (fail)
 have HW:=HH.out.drewN nq
 clear z0 z2 z4 z5 z6 z7
 generalize w.drewN nq=W at HW⊢
 obtain⟨z0,z2,z4,z5,z6,z7⟩:=HW.facts hop hl rfl rfl
 go_wp2_with fail
 refine(X2k HW hop hl HA.out HC.out 1 0).mono ?_
 rintro e w1⟨rfl,H1⟩
 go_wp2_with fail
 go_end0
 exact⟨rfl,H1⟩
def Y4S(s:Rn):Rn:=
 Q5J s 2 0
theorem tf_61{S0:List Nat}{w0 w:World}{m a r:Nat}{rs:List Res}{s:Rn}(H:Q0a S0 w0 m a r rs s w)(hop:s.f.op=6)(hl:s.f.line=1)(hn:I64 s.n)(ha:0≤s.f.a∧s.f.a<4294967296)(hc:s.notes.length≤900):
 Calls Tryz.prog 92 #[.pointer (some ⟨r,0,none⟩)] w fun e w'=>e= .returned (.tuple #[])∧Q0a S0 w0 m a r rs (Y4S s) w':=by
 obtain⟨z0,z2,z4,z5,z6,z7⟩:=H.facts hop hl rfl rfl
 have HC:=Lib.hid hc
 have HA:=Lib.hid ha
 have HN:=Lib.hid hn
 have HH:=Lib.hid H
 clear hc H hn ha
 unfold Y4S
 go_enter Tryz.func92,Tryz.ntmps92
 go_wp2_with fail
 go_quiet (fail)
 have HW:=HH.out.drewN nq
 clear z0 z2 z4 z5 z6 z7
 generalize w.drewN nq=W at HW⊢
 obtain⟨z0,z2,z4,z5,z6,z7⟩:=HW.facts hop hl rfl rfl
 go_wp2_with fail
 refine(X2k HW hop hl HA.out HC.out 2 0).mono ?_
 rintro e w1⟨rfl,H1⟩
 go_wp2_with fail
 go_end0
 exact⟨rfl,H1⟩
def Y4P(s:Rn):Rn:=
 Q5J s 2 1
theorem tf_71{S0:List Nat}{w0 w:World}{m a r:Nat}{rs:List Res}{s:Rn}(H:Q0a S0 w0 m a r rs s w)(hop:s.f.op=7)(hl:s.f.line=1)(hn:I64 s.n)(ha:0≤s.f.a∧s.f.a<4294967296)(hc:s.notes.length≤900):
 Calls Tryz.prog 92 #[.pointer (some ⟨r,0,none⟩)] w fun e w'=>e= .returned (.tuple #[])∧Q0a S0 w0 m a r rs (Y4P s) w':=by
 obtain⟨z0,z2,z4,z5,z6,z7⟩:=H.facts hop hl rfl rfl
 have HC:=Lib.hid hc
 have HA:=Lib.hid ha
 have HN:=Lib.hid hn
 have HH:=Lib.hid H
 clear hc H hn ha
 unfold Y4P
 go_enter Tryz.func92,Tryz.ntmps92
 go_wp2_with fail
 go_quiet (fail)
 have HW:=HH.out.drewN nq
 clear z0 z2 z4 z5 z6 z7
 generalize w.drewN nq=W at HW⊢
 obtain⟨z0,z2,z4,z5,z6,z7⟩:=HW.facts hop hl rfl rfl
 go_wp2_with fail
 refine(X2k HW hop hl HA.out HC.out 2 1).mono ?_
 rintro e w1⟨rfl,H1⟩
 go_wp2_with fail
 go_end0
 exact⟨rfl,H1⟩
def Y4V(s:Rn):Rn:=
 if(Q2t s).2 then((Q2t s).1.note 2 1).goto 3 else(Q2t s).1
theorem tf_52{S0:List Nat}{w0 w:World}{m a r:Nat}{rs:List Res}{s:Rn}(H:Q0a S0 w0 m a r rs s w)(hop:s.f.op=5)(hl:s.f.line=2)(hn:I64 s.n)(ha:0≤s.f.a∧s.f.a<4294967296)(hc:s.notes.length≤900):
 Calls Tryz.prog 92 #[.pointer (some ⟨r,0,none⟩)] w fun e w'=>e= .returned (.tuple #[])∧Q0a S0 w0 m a r rs (Y4V s) w':=by
 obtain⟨z0,z2,z4,z5,z6,z7⟩:=H.facts hop hl rfl rfl
 have HC:=Lib.hid hc
 have HA:=Lib.hid ha
 have HN:=Lib.hid hn
 have HH:=Lib.hid H
 clear hc H hn ha
 unfold Y4V
 have htk:=fun W (H:Q0a S0 w0 m a r rs s W)=>X2j H hop hl HA.out
 have hnt:(Q2t s).1.notes=s.notes:=by unfold Q2t;dsimp only;split<;>rfl
 cases hb:(Q2t s).2 with
 |true=>
  rw[hb]at htk
  have HTK:=Lib.hid htk
  clear htk hb
  simp only[if_true]
  generalize (Q2t s).1=s1 at HTK hnt⊢
  have HC:=Lib.hid (show s1.notes.length≤900 by rw[hnt];exact HC.out)
  clear hnt
  go_enter Tryz.func92,Tryz.ntmps92
  go_wp2_with fail
  go_quiet (fail)
  have HW:=HH.out.drewN nq
  clear z0 z2 z4 z5 z6 z7
  generalize w.drewN nq=W at HW⊢
  obtain⟨z0,z2,z4,z5,z6,z7⟩:=HW.facts hop hl rfl rfl
  go_wp2_with fail
  refine(HTK.out _ HW).mono ?_
  rintro e w1⟨rfl,H1⟩
  go_wp2_with fail
  refine(Q0r H1 (by have:=HC.out;first|exact Nat.le_trans this (by decide)|(simp[Rn.note,Rn.did,Rn.Q0h,Rn.setB,Rn.waited,Rn.goto,Rn.Q0d];omega)) 2 1).mono ?_
  rintro e w2⟨rfl,H2⟩
  go_wp2_with fail
  refine(Q1j H2 3).mono ?_
  rintro e w3⟨rfl,H3⟩
  go_wp2_with fail
  go_end0
  exact⟨rfl,H3⟩
 |false=>
  rw[hb]at htk
  have HTK:=Lib.hid htk
  clear htk hb
  simp only[Bool.false_eq_true,if_false]
  generalize (Q2t s).1=s1 at HTK hnt⊢
  have HC:=Lib.hid (show s1.notes.length≤900 by rw[hnt];exact HC.out)
  clear hnt
  go_enter Tryz.func92,Tryz.ntmps92
  go_wp2_with fail
  go_quiet (fail)
  have HW:=HH.out.drewN nq
  clear z0 z2 z4 z5 z6 z7
  generalize w.drewN nq=W at HW⊢
  obtain⟨z0,z2,z4,z5,z6,z7⟩:=HW.facts hop hl rfl rfl
  go_wp2_with fail
  refine(HTK.out _ HW).mono ?_
  rintro e w1⟨rfl,H1⟩
  go_wp2_with fail
  go_end0
  exact⟨rfl,H1⟩
def Y4R(s:Rn):Rn:=
 if(Q2t s).2 then(((Q2t s).1.note 2 2).note 4 0).fin true else(Q2t s).1
theorem tf_62{S0:List Nat}{w0 w:World}{m a r:Nat}{rs:List Res}{s:Rn}(H:Q0a S0 w0 m a r rs s w)(hop:s.f.op=6)(hl:s.f.line=2)(hn:I64 s.n)(ha:0≤s.f.a∧s.f.a<4294967296)(hc:s.notes.length≤900):
 Calls Tryz.prog 92 #[.pointer (some ⟨r,0,none⟩)] w fun e w'=>e= .returned (.tuple #[])∧Q0a S0 w0 m a r rs (Y4R s) w':=by
 obtain⟨z0,z2,z4,z5,z6,z7⟩:=H.facts hop hl rfl rfl
 have HC:=Lib.hid hc
 have HA:=Lib.hid ha
 have HN:=Lib.hid hn
 have HH:=Lib.hid H
 clear hc H hn ha
 unfold Y4R
 have htk:=fun W (H:Q0a S0 w0 m a r rs s W)=>X2j H hop hl HA.out
 have hnt:(Q2t s).1.notes=s.notes:=by unfold Q2t;dsimp only;split<;>rfl
 cases hb:(Q2t s).2 with
 |true=>
  rw[hb]at htk
  have HTK:=Lib.hid htk
  clear htk hb
  simp only[if_true]
  generalize (Q2t s).1=s1 at HTK hnt⊢
  have HC:=Lib.hid (show s1.notes.length≤900 by rw[hnt];exact HC.out)
  clear hnt
  go_enter Tryz.func92,Tryz.ntmps92
  go_wp2_with fail
  go_quiet (fail)
  have HW:=HH.out.drewN nq
  clear z0 z2 z4 z5 z6 z7
  generalize w.drewN nq=W at HW⊢
  obtain⟨z0,z2,z4,z5,z6,z7⟩:=HW.facts hop hl rfl rfl
  go_wp2_with fail
  refine(HTK.out _ HW).mono ?_
  rintro e w1⟨rfl,H1⟩
  go_wp2_with fail
  refine(Q0r H1 (by have:=HC.out;first|exact Nat.le_trans this (by decide)|(simp[Rn.note,Rn.did,Rn.Q0h,Rn.setB,Rn.waited,Rn.goto,Rn.Q0d];omega)) 2 2).mono ?_
  rintro e w2⟨rfl,H2⟩
  go_wp2_with fail
  refine(Q0r H2 (by have:=HC.out;first|exact Nat.le_trans this (by decide)|(simp[Rn.note,Rn.did,Rn.Q0h,Rn.setB,Rn.waited,Rn.goto,Rn.Q0d];omega)) 4 0).mono ?_
  rintro e w3⟨rfl,H3⟩
  go_wp2_with fail
  refine(Q1x H3 true).mono ?_
  rintro e w4⟨rfl,H4⟩
  go_wp2_with fail
  go_end0
  exact⟨rfl,H4⟩
 |false=>
  rw[hb]at htk
  have HTK:=Lib.hid htk
  clear htk hb
  simp only[Bool.false_eq_true,if_false]
  generalize (Q2t s).1=s1 at HTK hnt⊢
  have HC:=Lib.hid (show s1.notes.length≤900 by rw[hnt];exact HC.out)
  clear hnt
  go_enter Tryz.func92,Tryz.ntmps92
  go_wp2_with fail
  go_quiet (fail)
  have HW:=HH.out.drewN nq
  clear z0 z2 z4 z5 z6 z7
  generalize w.drewN nq=W at HW⊢
  obtain⟨z0,z2,z4,z5,z6,z7⟩:=HW.facts hop hl rfl rfl
  go_wp2_with fail
  refine(HTK.out _ HW).mono ?_
  rintro e w1⟨rfl,H1⟩
  go_wp2_with fail
  go_end0
  exact⟨rfl,H1⟩
def Y4O(s:Rn):Rn:=
 if(Q2t s).2 then((Q2t s).1.note 9 0).goto 3 else(Q2t s).1
theorem tf_72{S0:List Nat}{w0 w:World}{m a r:Nat}{rs:List Res}{s:Rn}(H:Q0a S0 w0 m a r rs s w)(hop:s.f.op=7)(hl:s.f.line=2)(hn:I64 s.n)(ha:0≤s.f.a∧s.f.a<4294967296)(hc:s.notes.length≤900):
 Calls Tryz.prog 92 #[.pointer (some ⟨r,0,none⟩)] w fun e w'=>e= .returned (.tuple #[])∧Q0a S0 w0 m a r rs (Y4O s) w':=by
 obtain⟨z0,z2,z4,z5,z6,z7⟩:=H.facts hop hl rfl rfl
 have HC:=Lib.hid hc
 have HA:=Lib.hid ha
 have HN:=Lib.hid hn
 have HH:=Lib.hid H
 clear hc H hn ha
 unfold Y4O
 have htk:=fun W (H:Q0a S0 w0 m a r rs s W)=>X2j H hop hl HA.out
 have hnt:(Q2t s).1.notes=s.notes:=by unfold Q2t;dsimp only;split<;>rfl
 cases hb:(Q2t s).2 with
 |true=>
  rw[hb]at htk
  have HTK:=Lib.hid htk
  clear htk hb
  simp only[if_true]
  generalize (Q2t s).1=s1 at HTK hnt⊢
  have HC:=Lib.hid (show s1.notes.length≤900 by rw[hnt];exact HC.out)
  clear hnt
  go_enter Tryz.func92,Tryz.ntmps92
  go_wp2_with fail
  go_quiet (fail)
  have HW:=HH.out.drewN nq
  clear z0 z2 z4 z5 z6 z7
  generalize w.drewN nq=W at HW⊢
  obtain⟨z0,z2,z4,z5,z6,z7⟩:=HW.facts hop hl rfl rfl
  go_wp2_with fail
  refine(HTK.out _ HW).mono ?_
  rintro e w1⟨rfl,H1⟩
  go_wp2_with fail
  refine(Q0r H1 (by have:=HC.out;first|exact Nat.le_trans this (by decide)|(simp[Rn.note,Rn.did,Rn.Q0h,Rn.setB,Rn.waited,Rn.goto,Rn.Q0d];omega)) 9 0).mono ?_
  rintro e w2⟨rfl,H2⟩
  go_wp2_with fail
  refine(Q1j H2 3).mono ?_
  rintro e w3⟨rfl,H3⟩
  go_wp2_with fail
  go_end0
  exact⟨rfl,H3⟩
 |false=>
  rw[hb]at htk
  have HTK:=Lib.hid htk
  clear htk hb
  simp only[Bool.false_eq_true,if_false]
  generalize (Q2t s).1=s1 at HTK hnt⊢
  have HC:=Lib.hid (show s1.notes.length≤900 by rw[hnt];exact HC.out)
  clear hnt
  go_enter Tryz.func92,Tryz.ntmps92
  go_wp2_with fail
  go_quiet (fail)
  have HW:=HH.out.drewN nq
  clear z0 z2 z4 z5 z6 z7
  generalize w.drewN nq=W at HW⊢
  obtain⟨z0,z2,z4,z5,z6,z7⟩:=HW.facts hop hl rfl rfl
  go_wp2_with fail
  refine(HTK.out _ HW).mono ?_
  rintro e w1⟨rfl,H1⟩
  go_wp2_with fail
  go_end0
  exact⟨rfl,H1⟩
def Y4N(s:Rn):Rn:=
 (s.did (doA s.L ⟨3,2,1,0,0⟩)).fin true
theorem tf_73{S0:List Nat}{w0 w:World}{m a r:Nat}{rs:List Res}{s:Rn}(H:Q0a S0 w0 m a r rs s w)(hop:s.f.op=7)(hl:s.f.line=3)(hn:I64 s.n)(ha:0≤s.f.a∧s.f.a<4294967296)(hc:s.notes.length≤900):
 Calls Tryz.prog 92 #[.pointer (some ⟨r,0,none⟩)] w fun e w'=>e= .returned (.tuple #[])∧Q0a S0 w0 m a r rs (Y4N s) w':=by
 obtain⟨z0,z2,z4,z5,z6,z7⟩:=H.facts hop hl rfl rfl
 have HC:=Lib.hid hc
 have HA:=Lib.hid ha
 have HN:=Lib.hid hn
 have HH:=Lib.hid H
 clear hc H hn ha
 unfold Y4N
 go_enter Tryz.func92,Tryz.ntmps92
 go_wp2_with fail
 go_quiet (fail)
 have HW:=HH.out.drewN nq
 clear z0 z2 z4 z5 z6 z7
 generalize w.drewN nq=W at HW⊢
 obtain⟨z0,z2,z4,z5,z6,z7⟩:=HW.facts hop hl rfl rfl
 go_wp2_with fail
 refine(Q2f HW 2 1 (by decide)).mono ?_
 rintro e w1⟨rfl,H1⟩
 go_wp2_with fail
 refine(Q1x H1 true).mono ?_
 rintro e w2⟨rfl,H2⟩
 go_wp2_with fail
 go_end0
 exact⟨rfl,H2⟩
theorem X4z{S0:List Nat}{w0 w:World}{m a r:Nat}{rs:List Res}{s s2:Rn}(H:Q0a S0 w0 m a r rs s w){o l:Int}(hop:s.f.op=o)(hl:s.f.line=l)
 (h0: ¬(o=1∧l=0)) (h1: ¬(o=1∧l=1)) (h2: ¬(o=1∧l=2)) (h3: ¬(o=5∧l=3)) (h4: ¬(o=8∧l=0)) (h5: ¬(o=2∧l=0)) (h6: ¬(o=3∧l=0)) (h7: ¬(o=3∧l=1)) (h8: ¬(o=4∧l=0)) (h9: ¬(o=4∧l=1))
 (ht: ∀rs W,Q0a S0 w0 m a r rs s W→Calls Tryz.prog 92 #[.pointer (some ⟨r,0,none⟩)] W fun e w'=>e= .returned (.tuple #[])∧Q0a S0 w0 m a r rs s2 w'):
 Calls Tryz.prog 67 #[.pointer (some ⟨r,0,none⟩)] w fun e w'=>e= .returned (.tuple #[])∧Q0a S0 w0 m a r rs s2 w':=by
 have HT:=Lib.hid ht
 obtain⟨z0,z2,z4,z5,z6,z7⟩:=H.facts hop hl rfl rfl
 have HH:=Lib.hid (H.box rfl #[.int .u32 s.f.a] 22)
 clear H ht
 go_enter Tryz.func67,Tryz.ntmps67
 go_wp2_with fail
 go_quiet (fail)
 have HW:=HH.out.drewN nq
 clear z0 z2 z4 z5 z6 z7
 generalize w.heap.size=tb at HW⊢
 generalize (World.drewN _ nq)=W at HW⊢
 obtain⟨z0,z2,z4,z5,z6,z7⟩:=HW.facts hop hl rfl rfl
 go_wp2_with fail
 all_goals
  refine(HT.out _ _ HW).mono ?_
  rintro e w1⟨rfl,H1⟩
  go_wp2_with fail
  go_end0
  exact⟨rfl,H1.Q0N⟩
theorem Y2Z{S0:List Nat}{w0 w:World}{m a r:Nat}{rs:List Res}{s:Rn}(H:Q0a S0 w0 m a r rs s w){o l:Int}(hop:s.f.op=o)(hl:s.f.line=l)(h0: ¬(o=5∧l=0))(h1: ¬(o=6∧l=0))(h2: ¬(o=7∧l=0))(h3: ¬(o=5∧l=1))(h4: ¬(o=6∧l=1))(h5: ¬(o=7∧l=1))(h6: ¬(o=5∧l=2))(h7: ¬(o=6∧l=2))(h8: ¬(o=7∧l=2))(h9: ¬(o=7∧l=3)):
 Calls Tryz.prog 92 #[.pointer (some ⟨r,0,none⟩)] w fun e w'=>e= .returned (.tuple #[])∧Q0a S0 w0 m a r rs s w':=by
 obtain⟨z0,z2,z4,z5,z6,z7⟩:=H.facts hop hl rfl rfl
 have HH:=Lib.hid H
 clear H
 go_enter Tryz.func92,Tryz.ntmps92
 go_wp2_with fail
 go_quiet (fail)
 have HW:=HH.out.drewN nq
 clear z0 z2 z4 z5 z6 z7
 generalize w.drewN nq=W at HW⊢
 obtain⟨z0,z2,z4,z5,z6,z7⟩:=HW.facts hop hl rfl rfl
 go_wp2_with fail
 all_goals
  go_end0
  exact⟨rfl,HW⟩
def tfA(s:Rn):Rn:=if s.f.op=1∧s.f.line=0 then Y5d s else if s.f.op=1∧s.f.line=1 then Y3g s else if s.f.op=1∧s.f.line=2 then Y5c s else if s.f.op=5∧s.f.line=3 then Y4U s else if s.f.op=8∧s.f.line=0 then Y4M s else if s.f.op=2∧s.f.line=0 then Y5b s else if s.f.op=3∧s.f.line=0 then Y5a s else if s.f.op=3∧s.f.line=1 then Y3f s else if s.f.op=4∧s.f.line=0 then Y4Z s else if s.f.op=4∧s.f.line=1 then Y4Y s else if s.f.op=5∧s.f.line=0 then Y4X s else if s.f.op=6∧s.f.line=0 then Y4T s else if s.f.op=7∧s.f.line=0 then Y4Q s else if s.f.op=5∧s.f.line=1 then Y4W s else if s.f.op=6∧s.f.line=1 then Y4S s else if s.f.op=7∧s.f.line=1 then Y4P s else if s.f.op=5∧s.f.line=2 then Y4V s else if s.f.op=6∧s.f.line=2 then Y4R s else if s.f.op=7∧s.f.line=2 then Y4O s else if s.f.op=7∧s.f.line=3 then Y4N s else s
theorem Y0a{S0:List Nat}{w0 w:World}{m a r:Nat}{rs:List Res}{s:Rn}(H:Q0a S0 w0 m a r rs s w)(hn:I64 s.n)(ha:0≤s.f.a∧s.f.a<4294967296)(hc:s.notes.length≤900):
 Calls Tryz.prog 67 #[.pointer (some ⟨r,0,none⟩)] w fun e w'=>e= .returned (.tuple #[])∧Q0a S0 w0 m a r rs (tfA s) w':=by
 unfold tfA
 by_cases h10:s.f.op=1∧s.f.line=0
 ·rw[if_pos h10];exact tf_10 H h10.1 h10.2 hn ha hc
 rw[if_neg h10]
 by_cases h11:s.f.op=1∧s.f.line=1
 ·rw[if_pos h11];exact tf_11 H h11.1 h11.2 hn ha hc
 rw[if_neg h11]
 by_cases h12:s.f.op=1∧s.f.line=2
 ·rw[if_pos h12];exact tf_12 H h12.1 h12.2 hn ha hc
 rw[if_neg h12]
 by_cases h53:s.f.op=5∧s.f.line=3
 ·rw[if_pos h53];exact tf_53 H h53.1 h53.2 hn ha hc
 rw[if_neg h53]
 by_cases h80:s.f.op=8∧s.f.line=0
 ·rw[if_pos h80];exact tf_80 H h80.1 h80.2 hn ha hc
 rw[if_neg h80]
 by_cases h20:s.f.op=2∧s.f.line=0
 ·rw[if_pos h20];exact tf_20 H h20.1 h20.2 hn ha hc
 rw[if_neg h20]
 by_cases h30:s.f.op=3∧s.f.line=0
 ·rw[if_pos h30];exact tf_30 H h30.1 h30.2 hn ha hc
 rw[if_neg h30]
 by_cases h31:s.f.op=3∧s.f.line=1
 ·rw[if_pos h31];exact tf_31 H h31.1 h31.2 hn ha hc
 rw[if_neg h31]
 by_cases h40:s.f.op=4∧s.f.line=0
 ·rw[if_pos h40];exact tf_40 H h40.1 h40.2 hn ha hc
 rw[if_neg h40]
 by_cases h41:s.f.op=4∧s.f.line=1
 ·rw[if_pos h41];exact tf_41 H h41.1 h41.2 hn ha hc
 rw[if_neg h41]
 refine X4z H rfl rfl h10 h11 h12 h53 h80 h20 h30 h31 h40 h41 (fun rs W HW=> ?_)
 by_cases h50:s.f.op=5∧s.f.line=0
 ·rw[if_pos h50];exact tf_50 HW h50.1 h50.2 hn ha hc
 rw[if_neg h50]
 by_cases h60:s.f.op=6∧s.f.line=0
 ·rw[if_pos h60];exact tf_60 HW h60.1 h60.2 hn ha hc
 rw[if_neg h60]
 by_cases h70:s.f.op=7∧s.f.line=0
 ·rw[if_pos h70];exact tf_70 HW h70.1 h70.2 hn ha hc
 rw[if_neg h70]
 by_cases h51:s.f.op=5∧s.f.line=1
 ·rw[if_pos h51];exact tf_51 HW h51.1 h51.2 hn ha hc
 rw[if_neg h51]
 by_cases h61:s.f.op=6∧s.f.line=1
 ·rw[if_pos h61];exact tf_61 HW h61.1 h61.2 hn ha hc
 rw[if_neg h61]
 by_cases h71:s.f.op=7∧s.f.line=1
 ·rw[if_pos h71];exact tf_71 HW h71.1 h71.2 hn ha hc
 rw[if_neg h71]
 by_cases h52:s.f.op=5∧s.f.line=2
 ·rw[if_pos h52];exact tf_52 HW h52.1 h52.2 hn ha hc
 rw[if_neg h52]
 by_cases h62:s.f.op=6∧s.f.line=2
 ·rw[if_pos h62];exact tf_62 HW h62.1 h62.2 hn ha hc
 rw[if_neg h62]
 by_cases h72:s.f.op=7∧s.f.line=2
 ·rw[if_pos h72];exact tf_72 HW h72.1 h72.2 hn ha hc
 rw[if_neg h72]
 by_cases h73:s.f.op=7∧s.f.line=3
 ·rw[if_pos h73];exact tf_73 HW h73.1 h73.2 hn ha hc
 rw[if_neg h73]
 exact Y2Z HW rfl rfl h50 h60 h70 h51 h61 h71 h52 h62 h72 h73
theorem X6V(s:Rn)(hw:Words s.L)(h:I64 s.n∧(0≤s.f.a∧s.f.a<4294967296)∧(0≤s.f.b∧s.f.b<4294967296)):Fine s (Y5d s):=by
 have hold:=fun b=>Q0s s.L hw b
 obtain⟨h1,h2,h3⟩:=h
 unfold Y5d Q0x
 (try dsimp only)
 (repeat' split)<;>first
  |exact Q0f ⟨⟨h1,h2,h3⟩,by simp[Q0x,Q0J,Rn.Q0d,Rn.did,Rn.Q0h,Rn.setB,Rn.note,Rn.goto,Rn.fin,Rn.wake,Rn.waited]⟩
  |exact Q0f ⟨⟨h1,hold _,h3⟩,by simp[Q0x,Q0J,Rn.Q0d,Rn.did,Rn.Q0h,Rn.setB,Rn.note,Rn.goto,Rn.fin,Rn.wake,Rn.waited]⟩
  |exact Q0f ⟨⟨h1,h2,hold _⟩,by simp[Q0x,Q0J,Rn.Q0d,Rn.did,Rn.Q0h,Rn.setB,Rn.note,Rn.goto,Rn.fin,Rn.wake,Rn.waited]⟩
theorem X6U(s:Rn)(hw:Words s.L)(h:I64 s.n∧(0≤s.f.a∧s.f.a<4294967296)∧(0≤s.f.b∧s.f.b<4294967296)):Fine s (Y3g s):=by
 have hold:=fun b=>Q0s s.L hw b
 obtain⟨h1,h2,h3⟩:=h
 unfold Y3g
 (try dsimp only)
 (repeat' split)<;>first
  |exact Q0f ⟨⟨h1,h2,h3⟩,by simp[Q0x,Q0J,Rn.Q0d,Rn.did,Rn.Q0h,Rn.setB,Rn.note,Rn.goto,Rn.fin,Rn.wake,Rn.waited]⟩
  |exact Q0f ⟨⟨h1,hold _,h3⟩,by simp[Q0x,Q0J,Rn.Q0d,Rn.did,Rn.Q0h,Rn.setB,Rn.note,Rn.goto,Rn.fin,Rn.wake,Rn.waited]⟩
  |exact Q0f ⟨⟨h1,h2,hold _⟩,by simp[Q0x,Q0J,Rn.Q0d,Rn.did,Rn.Q0h,Rn.setB,Rn.note,Rn.goto,Rn.fin,Rn.wake,Rn.waited]⟩
theorem X6T(s:Rn)(hw:Words s.L)(h:I64 s.n∧(0≤s.f.a∧s.f.a<4294967296)∧(0≤s.f.b∧s.f.b<4294967296)):Fine s (Y5c s):=by
 have hold:=fun b=>Q0s s.L hw b
 obtain⟨h1,h2,h3⟩:=h
 unfold Y5c Q0J
 (try dsimp only)
 (repeat' split)<;>first
  |exact Q0f ⟨⟨h1,h2,h3⟩,by simp[Q0x,Q0J,Rn.Q0d,Rn.did,Rn.Q0h,Rn.setB,Rn.note,Rn.goto,Rn.fin,Rn.wake,Rn.waited]⟩
  |exact Q0f ⟨⟨h1,hold _,h3⟩,by simp[Q0x,Q0J,Rn.Q0d,Rn.did,Rn.Q0h,Rn.setB,Rn.note,Rn.goto,Rn.fin,Rn.wake,Rn.waited]⟩
  |exact Q0f ⟨⟨h1,h2,hold _⟩,by simp[Q0x,Q0J,Rn.Q0d,Rn.did,Rn.Q0h,Rn.setB,Rn.note,Rn.goto,Rn.fin,Rn.wake,Rn.waited]⟩
theorem X6K(s:Rn)(hw:Words s.L)(h:I64 s.n∧(0≤s.f.a∧s.f.a<4294967296)∧(0≤s.f.b∧s.f.b<4294967296)):Fine s (Y4U s):=by
 have hold:=fun b=>Q0s s.L hw b
 obtain⟨h1,h2,h3⟩:=h
 unfold Y4U Q0J
 (try dsimp only)
 (repeat' split)<;>first
  |exact Q0f ⟨⟨h1,h2,h3⟩,by simp[Q0x,Q0J,Rn.Q0d,Rn.did,Rn.Q0h,Rn.setB,Rn.note,Rn.goto,Rn.fin,Rn.wake,Rn.waited]⟩
  |exact Q0f ⟨⟨h1,hold _,h3⟩,by simp[Q0x,Q0J,Rn.Q0d,Rn.did,Rn.Q0h,Rn.setB,Rn.note,Rn.goto,Rn.fin,Rn.wake,Rn.waited]⟩
  |exact Q0f ⟨⟨h1,h2,hold _⟩,by simp[Q0x,Q0J,Rn.Q0d,Rn.did,Rn.Q0h,Rn.setB,Rn.note,Rn.goto,Rn.fin,Rn.wake,Rn.waited]⟩
theorem X6C(s:Rn)(hw:Words s.L)(h:I64 s.n∧(0≤s.f.a∧s.f.a<4294967296)∧(0≤s.f.b∧s.f.b<4294967296)):Fine s (Y4M s):=by
 have hold:=fun b=>Q0s s.L hw b
 obtain⟨h1,h2,h3⟩:=h
 unfold Y4M Q0J
 (try dsimp only)
 (repeat' split)<;>first
  |exact Q0f ⟨⟨h1,h2,h3⟩,by simp[Q0x,Q0J,Rn.Q0d,Rn.did,Rn.Q0h,Rn.setB,Rn.note,Rn.goto,Rn.fin,Rn.wake,Rn.waited]⟩
  |exact Q0f ⟨⟨h1,hold _,h3⟩,by simp[Q0x,Q0J,Rn.Q0d,Rn.did,Rn.Q0h,Rn.setB,Rn.note,Rn.goto,Rn.fin,Rn.wake,Rn.waited]⟩
  |exact Q0f ⟨⟨h1,h2,hold _⟩,by simp[Q0x,Q0J,Rn.Q0d,Rn.did,Rn.Q0h,Rn.setB,Rn.note,Rn.goto,Rn.fin,Rn.wake,Rn.waited]⟩
theorem X6S(s:Rn)(hw:Words s.L)(h:I64 s.n∧(0≤s.f.a∧s.f.a<4294967296)∧(0≤s.f.b∧s.f.b<4294967296)):Fine s (Y5b s):=by
 have hold:=fun b=>Q0s s.L hw b
 obtain⟨h1,h2,h3⟩:=h
 unfold Y5b
 (try dsimp only)
 (repeat' split)<;>first
  |exact Q0f ⟨⟨h1,h2,h3⟩,by simp[Q0x,Q0J,Rn.Q0d,Rn.did,Rn.Q0h,Rn.setB,Rn.note,Rn.goto,Rn.fin,Rn.wake,Rn.waited]⟩
  |exact Q0f ⟨⟨h1,hold _,h3⟩,by simp[Q0x,Q0J,Rn.Q0d,Rn.did,Rn.Q0h,Rn.setB,Rn.note,Rn.goto,Rn.fin,Rn.wake,Rn.waited]⟩
  |exact Q0f ⟨⟨h1,h2,hold _⟩,by simp[Q0x,Q0J,Rn.Q0d,Rn.did,Rn.Q0h,Rn.setB,Rn.note,Rn.goto,Rn.fin,Rn.wake,Rn.waited]⟩
theorem X6R(s:Rn)(hw:Words s.L)(h:I64 s.n∧(0≤s.f.a∧s.f.a<4294967296)∧(0≤s.f.b∧s.f.b<4294967296)):Fine s (Y5a s):=by
 have hold:=fun b=>Q0s s.L hw b
 obtain⟨h1,h2,h3⟩:=h
 unfold Y5a Q0x
 (try dsimp only)
 (repeat' split)<;>first
  |exact Q0f ⟨⟨h1,h2,h3⟩,by simp[Q0x,Q0J,Rn.Q0d,Rn.did,Rn.Q0h,Rn.setB,Rn.note,Rn.goto,Rn.fin,Rn.wake,Rn.waited]⟩
  |exact Q0f ⟨⟨h1,hold _,h3⟩,by simp[Q0x,Q0J,Rn.Q0d,Rn.did,Rn.Q0h,Rn.setB,Rn.note,Rn.goto,Rn.fin,Rn.wake,Rn.waited]⟩
  |exact Q0f ⟨⟨h1,h2,hold _⟩,by simp[Q0x,Q0J,Rn.Q0d,Rn.did,Rn.Q0h,Rn.setB,Rn.note,Rn.goto,Rn.fin,Rn.wake,Rn.waited]⟩
theorem X6Q(s:Rn)(hw:Words s.L)(h:I64 s.n∧(0≤s.f.a∧s.f.a<4294967296)∧(0≤s.f.b∧s.f.b<4294967296)):Fine s (Y3f s):=by
 have hold:=fun b=>Q0s s.L hw b
 obtain⟨h1,h2,h3⟩:=h
 unfold Y3f
 (try dsimp only)
 (repeat' split)<;>first
  |exact Q0f ⟨⟨h1,h2,h3⟩,by simp[Q0x,Q0J,Rn.Q0d,Rn.did,Rn.Q0h,Rn.setB,Rn.note,Rn.goto,Rn.fin,Rn.wake,Rn.waited]⟩
  |exact Q0f ⟨⟨h1,hold _,h3⟩,by simp[Q0x,Q0J,Rn.Q0d,Rn.did,Rn.Q0h,Rn.setB,Rn.note,Rn.goto,Rn.fin,Rn.wake,Rn.waited]⟩
  |exact Q0f ⟨⟨h1,h2,hold _⟩,by simp[Q0x,Q0J,Rn.Q0d,Rn.did,Rn.Q0h,Rn.setB,Rn.note,Rn.goto,Rn.fin,Rn.wake,Rn.waited]⟩
theorem X6P(s:Rn)(hw:Words s.L)(h:I64 s.n∧(0≤s.f.a∧s.f.a<4294967296)∧(0≤s.f.b∧s.f.b<4294967296)):Fine s (Y4Z s):=by
 have hold:=fun b=>Q0s s.L hw b
 obtain⟨h1,h2,h3⟩:=h
 unfold Y4Z
 (try dsimp only)
 (repeat' split)<;>first
  |exact Q0f ⟨⟨h1,h2,h3⟩,by simp[Q0x,Q0J,Rn.Q0d,Rn.did,Rn.Q0h,Rn.setB,Rn.note,Rn.goto,Rn.fin,Rn.wake,Rn.waited]⟩
  |exact Q0f ⟨⟨h1,hold _,h3⟩,by simp[Q0x,Q0J,Rn.Q0d,Rn.did,Rn.Q0h,Rn.setB,Rn.note,Rn.goto,Rn.fin,Rn.wake,Rn.waited]⟩
  |exact Q0f ⟨⟨h1,h2,hold _⟩,by simp[Q0x,Q0J,Rn.Q0d,Rn.did,Rn.Q0h,Rn.setB,Rn.note,Rn.goto,Rn.fin,Rn.wake,Rn.waited]⟩
theorem X6O(s:Rn)(hw:Words s.L)(h:I64 s.n∧(0≤s.f.a∧s.f.a<4294967296)∧(0≤s.f.b∧s.f.b<4294967296)):Fine s (Y4Y s):=by
 have hold:=fun b=>Q0s s.L hw b
 obtain⟨h1,h2,h3⟩:=h
 unfold Y4Y
 (try dsimp only)
 (repeat' split)<;>first
  |exact Q0f ⟨⟨h1,h2,h3⟩,by simp[Q0x,Q0J,Rn.Q0d,Rn.did,Rn.Q0h,Rn.setB,Rn.note,Rn.goto,Rn.fin,Rn.wake,Rn.waited]⟩
  |exact Q0f ⟨⟨h1,hold _,h3⟩,by simp[Q0x,Q0J,Rn.Q0d,Rn.did,Rn.Q0h,Rn.setB,Rn.note,Rn.goto,Rn.fin,Rn.wake,Rn.waited]⟩
  |exact Q0f ⟨⟨h1,h2,hold _⟩,by simp[Q0x,Q0J,Rn.Q0d,Rn.did,Rn.Q0h,Rn.setB,Rn.note,Rn.goto,Rn.fin,Rn.wake,Rn.waited]⟩
theorem X6N(s:Rn)(hw:Words s.L)(h:I64 s.n∧(0≤s.f.a∧s.f.a<4294967296)∧(0≤s.f.b∧s.f.b<4294967296)):Fine s (Y4X s):=by
 have hold:=fun b=>Q0s s.L hw b
 obtain⟨h1,h2,h3⟩:=h
 unfold Y4X
 (try dsimp only)
 (repeat' split)<;>first
  |exact Q0f ⟨⟨h1,h2,h3⟩,by simp[Q0x,Q0J,Rn.Q0d,Rn.did,Rn.Q0h,Rn.setB,Rn.note,Rn.goto,Rn.fin,Rn.wake,Rn.waited]⟩
  |exact Q0f ⟨⟨h1,hold _,h3⟩,by simp[Q0x,Q0J,Rn.Q0d,Rn.did,Rn.Q0h,Rn.setB,Rn.note,Rn.goto,Rn.fin,Rn.wake,Rn.waited]⟩
  |exact Q0f ⟨⟨h1,h2,hold _⟩,by simp[Q0x,Q0J,Rn.Q0d,Rn.did,Rn.Q0h,Rn.setB,Rn.note,Rn.goto,Rn.fin,Rn.wake,Rn.waited]⟩
theorem X6J(s:Rn)(hw:Words s.L)(h:I64 s.n∧(0≤s.f.a∧s.f.a<4294967296)∧(0≤s.f.b∧s.f.b<4294967296)):Fine s (Y4T s):=by
 have hold:=fun b=>Q0s s.L hw b
 obtain⟨h1,h2,h3⟩:=h
 unfold Y4T
 (try dsimp only)
 (repeat' split)<;>first
  |exact Q0f ⟨⟨h1,h2,h3⟩,by simp[Q0x,Q0J,Rn.Q0d,Rn.did,Rn.Q0h,Rn.setB,Rn.note,Rn.goto,Rn.fin,Rn.wake,Rn.waited]⟩
  |exact Q0f ⟨⟨h1,hold _,h3⟩,by simp[Q0x,Q0J,Rn.Q0d,Rn.did,Rn.Q0h,Rn.setB,Rn.note,Rn.goto,Rn.fin,Rn.wake,Rn.waited]⟩
  |exact Q0f ⟨⟨h1,h2,hold _⟩,by simp[Q0x,Q0J,Rn.Q0d,Rn.did,Rn.Q0h,Rn.setB,Rn.note,Rn.goto,Rn.fin,Rn.wake,Rn.waited]⟩
theorem X6G(s:Rn)(hw:Words s.L)(h:I64 s.n∧(0≤s.f.a∧s.f.a<4294967296)∧(0≤s.f.b∧s.f.b<4294967296)):Fine s (Y4Q s):=by
 have hold:=fun b=>Q0s s.L hw b
 obtain⟨h1,h2,h3⟩:=h
 unfold Y4Q
 (try dsimp only)
 (repeat' split)<;>first
  |exact Q0f ⟨⟨h1,h2,h3⟩,by simp[Q0x,Q0J,Rn.Q0d,Rn.did,Rn.Q0h,Rn.setB,Rn.note,Rn.goto,Rn.fin,Rn.wake,Rn.waited]⟩
  |exact Q0f ⟨⟨h1,hold _,h3⟩,by simp[Q0x,Q0J,Rn.Q0d,Rn.did,Rn.Q0h,Rn.setB,Rn.note,Rn.goto,Rn.fin,Rn.wake,Rn.waited]⟩
  |exact Q0f ⟨⟨h1,h2,hold _⟩,by simp[Q0x,Q0J,Rn.Q0d,Rn.did,Rn.Q0h,Rn.setB,Rn.note,Rn.goto,Rn.fin,Rn.wake,Rn.waited]⟩
theorem X6M(s:Rn)(hw:Words s.L)(h:I64 s.n∧(0≤s.f.a∧s.f.a<4294967296)∧(0≤s.f.b∧s.f.b<4294967296)):Fine s (Y4W s):=by
 have hold:=fun b=>Q0s s.L hw b
 obtain⟨h1,h2,h3⟩:=h
 unfold Y4W Q5J
 (try dsimp only)
 (repeat' split)<;>first
  |exact Q0f ⟨⟨h1,h2,h3⟩,by simp[Q0x,Q0J,Rn.Q0d,Rn.did,Rn.Q0h,Rn.setB,Rn.note,Rn.goto,Rn.fin,Rn.wake,Rn.waited]⟩
  |exact Q0f ⟨⟨h1,hold _,h3⟩,by simp[Q0x,Q0J,Rn.Q0d,Rn.did,Rn.Q0h,Rn.setB,Rn.note,Rn.goto,Rn.fin,Rn.wake,Rn.waited]⟩
  |exact Q0f ⟨⟨h1,h2,hold _⟩,by simp[Q0x,Q0J,Rn.Q0d,Rn.did,Rn.Q0h,Rn.setB,Rn.note,Rn.goto,Rn.fin,Rn.wake,Rn.waited]⟩
theorem X6I(s:Rn)(hw:Words s.L)(h:I64 s.n∧(0≤s.f.a∧s.f.a<4294967296)∧(0≤s.f.b∧s.f.b<4294967296)):Fine s (Y4S s):=by
 have hold:=fun b=>Q0s s.L hw b
 obtain⟨h1,h2,h3⟩:=h
 unfold Y4S Q5J
 (try dsimp only)
 (repeat' split)<;>first
  |exact Q0f ⟨⟨h1,h2,h3⟩,by simp[Q0x,Q0J,Rn.Q0d,Rn.did,Rn.Q0h,Rn.setB,Rn.note,Rn.goto,Rn.fin,Rn.wake,Rn.waited]⟩
  |exact Q0f ⟨⟨h1,hold _,h3⟩,by simp[Q0x,Q0J,Rn.Q0d,Rn.did,Rn.Q0h,Rn.setB,Rn.note,Rn.goto,Rn.fin,Rn.wake,Rn.waited]⟩
  |exact Q0f ⟨⟨h1,h2,hold _⟩,by simp[Q0x,Q0J,Rn.Q0d,Rn.did,Rn.Q0h,Rn.setB,Rn.note,Rn.goto,Rn.fin,Rn.wake,Rn.waited]⟩
theorem X6F(s:Rn)(hw:Words s.L)(h:I64 s.n∧(0≤s.f.a∧s.f.a<4294967296)∧(0≤s.f.b∧s.f.b<4294967296)):Fine s (Y4P s):=by
 have hold:=fun b=>Q0s s.L hw b
 obtain⟨h1,h2,h3⟩:=h
 unfold Y4P Q5J
 (try dsimp only)
 (repeat' split)<;>first
  |exact Q0f ⟨⟨h1,h2,h3⟩,by simp[Q0x,Q0J,Rn.Q0d,Rn.did,Rn.Q0h,Rn.setB,Rn.note,Rn.goto,Rn.fin,Rn.wake,Rn.waited]⟩
  |exact Q0f ⟨⟨h1,hold _,h3⟩,by simp[Q0x,Q0J,Rn.Q0d,Rn.did,Rn.Q0h,Rn.setB,Rn.note,Rn.goto,Rn.fin,Rn.wake,Rn.waited]⟩
  |exact Q0f ⟨⟨h1,h2,hold _⟩,by simp[Q0x,Q0J,Rn.Q0d,Rn.did,Rn.Q0h,Rn.setB,Rn.note,Rn.goto,Rn.fin,Rn.wake,Rn.waited]⟩
theorem X6L(s:Rn)(hw:Words s.L)(h:I64 s.n∧(0≤s.f.a∧s.f.a<4294967296)∧(0≤s.f.b∧s.f.b<4294967296)):Fine s (Y4V s):=by
 have hold:=fun b=>Q0s s.L hw b
 obtain⟨h1,h2,h3⟩:=h
 unfold Y4V Q2t
 (try dsimp only)
 (repeat' split)<;>first
  |exact Q0f ⟨⟨h1,h2,h3⟩,by simp[Q0x,Q0J,Rn.Q0d,Rn.did,Rn.Q0h,Rn.setB,Rn.note,Rn.goto,Rn.fin,Rn.wake,Rn.waited]⟩
  |exact Q0f ⟨⟨h1,hold _,h3⟩,by simp[Q0x,Q0J,Rn.Q0d,Rn.did,Rn.Q0h,Rn.setB,Rn.note,Rn.goto,Rn.fin,Rn.wake,Rn.waited]⟩
  |exact Q0f ⟨⟨h1,h2,hold _⟩,by simp[Q0x,Q0J,Rn.Q0d,Rn.did,Rn.Q0h,Rn.setB,Rn.note,Rn.goto,Rn.fin,Rn.wake,Rn.waited]⟩
theorem X6H(s:Rn)(hw:Words s.L)(h:I64 s.n∧(0≤s.f.a∧s.f.a<4294967296)∧(0≤s.f.b∧s.f.b<4294967296)):Fine s (Y4R s):=by
 have hold:=fun b=>Q0s s.L hw b
 obtain⟨h1,h2,h3⟩:=h
 unfold Y4R Q2t
 (try dsimp only)
 (repeat' split)<;>first
  |exact Q0f ⟨⟨h1,h2,h3⟩,by simp[Q0x,Q0J,Rn.Q0d,Rn.did,Rn.Q0h,Rn.setB,Rn.note,Rn.goto,Rn.fin,Rn.wake,Rn.waited]⟩
  |exact Q0f ⟨⟨h1,hold _,h3⟩,by simp[Q0x,Q0J,Rn.Q0d,Rn.did,Rn.Q0h,Rn.setB,Rn.note,Rn.goto,Rn.fin,Rn.wake,Rn.waited]⟩
  |exact Q0f ⟨⟨h1,h2,hold _⟩,by simp[Q0x,Q0J,Rn.Q0d,Rn.did,Rn.Q0h,Rn.setB,Rn.note,Rn.goto,Rn.fin,Rn.wake,Rn.waited]⟩
theorem X6E(s:Rn)(hw:Words s.L)(h:I64 s.n∧(0≤s.f.a∧s.f.a<4294967296)∧(0≤s.f.b∧s.f.b<4294967296)):Fine s (Y4O s):=by
 have hold:=fun b=>Q0s s.L hw b
 obtain⟨h1,h2,h3⟩:=h
 unfold Y4O Q2t
 (try dsimp only)
 (repeat' split)<;>first
  |exact Q0f ⟨⟨h1,h2,h3⟩,by simp[Q0x,Q0J,Rn.Q0d,Rn.did,Rn.Q0h,Rn.setB,Rn.note,Rn.goto,Rn.fin,Rn.wake,Rn.waited]⟩
  |exact Q0f ⟨⟨h1,hold _,h3⟩,by simp[Q0x,Q0J,Rn.Q0d,Rn.did,Rn.Q0h,Rn.setB,Rn.note,Rn.goto,Rn.fin,Rn.wake,Rn.waited]⟩
  |exact Q0f ⟨⟨h1,h2,hold _⟩,by simp[Q0x,Q0J,Rn.Q0d,Rn.did,Rn.Q0h,Rn.setB,Rn.note,Rn.goto,Rn.fin,Rn.wake,Rn.waited]⟩
theorem X6D(s:Rn)(hw:Words s.L)(h:I64 s.n∧(0≤s.f.a∧s.f.a<4294967296)∧(0≤s.f.b∧s.f.b<4294967296)):Fine s (Y4N s):=by
 have hold:=fun b=>Q0s s.L hw b
 obtain⟨h1,h2,h3⟩:=h
 unfold Y4N
 (try dsimp only)
 (repeat' split)<;>first
  |exact Q0f ⟨⟨h1,h2,h3⟩,by simp[Q0x,Q0J,Rn.Q0d,Rn.did,Rn.Q0h,Rn.setB,Rn.note,Rn.goto,Rn.fin,Rn.wake,Rn.waited]⟩
  |exact Q0f ⟨⟨h1,hold _,h3⟩,by simp[Q0x,Q0J,Rn.Q0d,Rn.did,Rn.Q0h,Rn.setB,Rn.note,Rn.goto,Rn.fin,Rn.wake,Rn.waited]⟩
  |exact Q0f ⟨⟨h1,h2,hold _⟩,by simp[Q0x,Q0J,Rn.Q0d,Rn.did,Rn.Q0h,Rn.setB,Rn.note,Rn.goto,Rn.fin,Rn.wake,Rn.waited]⟩
theorem Y0c(s:Rn)(hw:Words s.L)(h:I64 s.n∧(0≤s.f.a∧s.f.a<4294967296)∧(0≤s.f.b∧s.f.b<4294967296)):(I64 (tfA s).n∧(0≤(tfA s).f.a∧(tfA s).f.a<4294967296)∧(0≤(tfA s).f.b∧(tfA s).f.b<4294967296))∧(tfA s).notes.length≤s.notes.length+10:=by
 suffices h0:Fine s (tfA s)from h0
 unfold tfA
 by_cases h10:s.f.op=1∧s.f.line=0
 ·rw[if_pos h10];exact X6V s hw h
 rw[if_neg h10]
 by_cases h11:s.f.op=1∧s.f.line=1
 ·rw[if_pos h11];exact X6U s hw h
 rw[if_neg h11]
 by_cases h12:s.f.op=1∧s.f.line=2
 ·rw[if_pos h12];exact X6T s hw h
 rw[if_neg h12]
 by_cases h53:s.f.op=5∧s.f.line=3
 ·rw[if_pos h53];exact X6K s hw h
 rw[if_neg h53]
 by_cases h80:s.f.op=8∧s.f.line=0
 ·rw[if_pos h80];exact X6C s hw h
 rw[if_neg h80]
 by_cases h20:s.f.op=2∧s.f.line=0
 ·rw[if_pos h20];exact X6S s hw h
 rw[if_neg h20]
 by_cases h30:s.f.op=3∧s.f.line=0
 ·rw[if_pos h30];exact X6R s hw h
 rw[if_neg h30]
 by_cases h31:s.f.op=3∧s.f.line=1
 ·rw[if_pos h31];exact X6Q s hw h
 rw[if_neg h31]
 by_cases h40:s.f.op=4∧s.f.line=0
 ·rw[if_pos h40];exact X6P s hw h
 rw[if_neg h40]
 by_cases h41:s.f.op=4∧s.f.line=1
 ·rw[if_pos h41];exact X6O s hw h
 rw[if_neg h41]
 by_cases h50:s.f.op=5∧s.f.line=0
 ·rw[if_pos h50];exact X6N s hw h
 rw[if_neg h50]
 by_cases h60:s.f.op=6∧s.f.line=0
 ·rw[if_pos h60];exact X6J s hw h
 rw[if_neg h60]
 by_cases h70:s.f.op=7∧s.f.line=0
 ·rw[if_pos h70];exact X6G s hw h
 rw[if_neg h70]
 by_cases h51:s.f.op=5∧s.f.line=1
 ·rw[if_pos h51];exact X6M s hw h
 rw[if_neg h51]
 by_cases h61:s.f.op=6∧s.f.line=1
 ·rw[if_pos h61];exact X6I s hw h
 rw[if_neg h61]
 by_cases h71:s.f.op=7∧s.f.line=1
 ·rw[if_pos h71];exact X6F s hw h
 rw[if_neg h71]
 by_cases h52:s.f.op=5∧s.f.line=2
 ·rw[if_pos h52];exact X6L s hw h
 rw[if_neg h52]
 by_cases h62:s.f.op=6∧s.f.line=2
 ·rw[if_pos h62];exact X6H s hw h
 rw[if_neg h62]
 by_cases h72:s.f.op=7∧s.f.line=2
 ·rw[if_pos h72];exact X6E s hw h
 rw[if_neg h72]
 by_cases h73:s.f.op=7∧s.f.line=3
 ·rw[if_pos h73];exact X6D s hw h
 rw[if_neg h73]
 exact Q0f ⟨h,by simp⟩
end Go.Proofs.YthnimpkoidablaaGreat.Z
