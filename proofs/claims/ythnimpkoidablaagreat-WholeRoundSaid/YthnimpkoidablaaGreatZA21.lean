import Derived.Test.YthnimpkoidablaaGreatZA17
set_option linter.unusedVariables false
set_option linter.unusedSimpArgs false
set_option maxHeartbeats 800000
namespace Go.Proofs.YthnimpkoidablaaGreat.Z
open Go.RowKit
attribute [local go_sem↓] Go.wp_at_zero Go.wp_at_succ
def Q0Q(cls:Int)(s:Rn):Rn:=if(Q0n 0 cls s).1 then(Q0n 0 cls s).2.goto 5 else(Q0n 0 cls s).2
theorem X4d{S0:List Nat}{w0 w:World}{m a r:Nat}{rs:List Res}{s:Rn}(H:Q0a S0 w0 m a r rs s w)(cls:Int)(hn:I64 s.n)(ha:0≤s.f.a∧s.f.a<4294967296)(hc:s.notes.length≤800):
 Calls Tryz.prog 102 #[.pointer (some ⟨r,0,none⟩), .int .i64 cls] w fun e w'=>e= .returned (.tuple #[])∧Q0a S0 w0 m a r rs (Q0Q cls s) w':=by
 have he:=X3X H 0 cls hn ha (by omega)
 unfold Q0Q
 generalize Q0n 0 cls s=R at he⊢
 obtain⟨b,s1⟩:=R
 have HE:=Lib.hid he
 clear he H hn ha hc
 cases b with
 |true=>
  go_enter Tryz.func102,Tryz.ntmps102
  go_wp2_with fail
  refine HE.out.mono ?_
  rintro e w1⟨rfl,H1⟩
  go_wp2_with fail
  refine(Q1j H1 5).mono ?_
  rintro e w2⟨rfl,H2⟩
  go_wp2_with fail
  go_end0
  exact⟨rfl,H2⟩
 |false=>
  go_enter Tryz.func102,Tryz.ntmps102
  go_wp2_with fail
  refine HE.out.mono ?_
  rintro e w1⟨rfl,H1⟩
  go_wp2_with fail
  go_end0
  exact⟨rfl,H1⟩
def Q1c(q:Int)(ok:Bool)(nl:List Int)(s:Rn):Rn:=if(Q0v 0 q nl s).1 then(Q0v 0 q nl s).2.fin ok else(Q0v 0 q nl s).2
theorem X0E{S0:List Nat}{w0 w:World}{m a r:Nat}{rs:List Res}{s:Rn}(q:Int)(ok:Bool){g nn c:Nat}{nl:List Int}(hnl:nl.length=nn)(hq:0≤q∧q≤100)(hl:nl.length≤10)(H:Q0a S0 w0 m a r (.blk g (Q3S nl).toArray::rs) s w)(hn:I64 s.n)(ha:0≤s.f.a∧s.f.a<4294967296)(hc:s.notes.length≤800):
 Calls Tryz.prog 106 #[.pointer (some ⟨r,0,none⟩), .int .i64 q, .bool ok, .slice (some ⟨g,0,none⟩) nn c] w fun e w'=>e= .returned (.tuple #[])∧Q0a S0 w0 m a r (.blk g (Q3S nl).toArray::rs) (Q1c q ok nl s) w':=by
 have he:=X2z (c:=c) 0 q hnl hq (by omega) H hn ha
 unfold Q1c
 generalize Q0v 0 q nl s=R at he⊢
 obtain⟨b,s1⟩:=R
 have HE:=Lib.hid he
 clear he H hn ha hc
 cases b with
 |true=>
  go_enter Tryz.func106,Tryz.ntmps106
  go_wp2_with fail
  refine HE.out.mono ?_
  rintro e w1⟨rfl,H1⟩
  go_wp2_with fail
  refine(Q1x H1 ok).mono ?_
  rintro e w2⟨rfl,H2⟩
  go_wp2_with fail
  go_end0
  exact⟨rfl,H2⟩
 |false=>
  go_enter Tryz.func106,Tryz.ntmps106
  go_wp2_with fail
  refine HE.out.mono ?_
  rintro e w1⟨rfl,H1⟩
  go_wp2_with fail
  go_end0
  exact⟨rfl,H1⟩
def Q1I(cls next:Int)(s:Rn):Rn:=
 if(Q0L 0 s).1 then(if(Q0L 0 s).2.1 then((Q0L 0 s).2.2.note 2 cls).goto next else((Q0L 0 s).2.2.note 5 0).fin false)else(Q0L 0 s).2.2
theorem X2A(tail:Int)(s:Rn):(Q0L tail s).2.2.notes=s.notes:=by
 unfold Q0L
 split
 ·rfl
 split<;>rfl
theorem X8V{S0:List Nat}{w0 w:World}{m a r:Nat}{rs:List Res}{s:Rn}(H:Q0a S0 w0 m a r rs s w)(cls next:Int)(hn:I64 s.n)(ha:0≤s.f.a∧s.f.a<4294967296)(hc:s.notes.length≤800):
 Calls Tryz.prog 104 #[.pointer (some ⟨r,0,none⟩), .int .i64 cls, .int .i64 next] w fun e w'=>e= .returned (.tuple #[])∧Q0a S0 w0 m a r rs (Q1I cls next s) w':=by
 have he:=Y2u H 0 hn
 have hnt:=X2A 0 s
 unfold Q1I
 generalize Q0L 0 s=R at he hnt⊢
 obtain⟨d,i,s1⟩:=R
 have hc1:s1.notes.length≤800:=by rw[show s1.notes=s.notes from hnt];exact hc
 have HC:=Lib.hid hc1
 have HE:=Lib.hid he
 clear he H hn ha hc hnt hc1
 cases d with
 |true=>
  cases i with
  |true=>
   go_enter Tryz.func104,Tryz.ntmps104
   go_wp2_with fail
   refine HE.out.mono ?_
   rintro e w1⟨rfl,H1⟩
   go_wp2_with fail
   refine(Q0r H1 (by have:=HC.out;first|exact Nat.le_trans this (by decide)|(simp[Rn.note,Rn.did,Rn.Q0h,Rn.setB,Rn.waited,Rn.goto,Rn.Q0d];omega)) 2 cls).mono ?_
   rintro e w2⟨rfl,H2⟩
   go_wp2_with fail
   refine(Q1j H2 next).mono ?_
   rintro e w3⟨rfl,H3⟩
   go_wp2_with fail
   go_end0
   exact⟨rfl,H3⟩
  |false=>
   go_enter Tryz.func104,Tryz.ntmps104
   go_wp2_with fail
   refine HE.out.mono ?_
   rintro e w1⟨rfl,H1⟩
   go_wp2_with fail
   refine(Q0r H1 (by have:=HC.out;first|exact Nat.le_trans this (by decide)|(simp[Rn.note,Rn.did,Rn.Q0h,Rn.setB,Rn.waited,Rn.goto,Rn.Q0d];omega)) 5 0).mono ?_
   rintro e w2⟨rfl,H2⟩
   go_wp2_with fail
   refine(Q1x H2 false).mono ?_
   rintro e w3⟨rfl,H3⟩
   go_wp2_with fail
   go_end0
   exact⟨rfl,H3⟩
 |false=>
  go_enter Tryz.func104,Tryz.ntmps104
  go_wp2_with fail
  refine HE.out.mono ?_
  rintro e w1⟨rfl,H1⟩
  go_wp2_with fail
  go_end0
  exact⟨rfl,H1⟩
theorem X5E{S0:List Nat}{w0 w:World}{m a r:Nat}{rs:List Res}{s:Rn}(H:Q0a S0 w0 m a r rs s w){o l:Int}(hop:s.f.op=o)(hl:s.f.line=l)(h5:l=5)(hn:I64 s.n)(ha:0≤s.f.a∧s.f.a<4294967296)(hc:s.notes.length≤800):
 Calls Tryz.prog 103 #[.pointer (some ⟨r,0,none⟩)] w fun e w'=>e= .returned (.tuple #[])∧Q0a S0 w0 m a r rs ((s.did (doA s.L ⟨3,1,1,0,0⟩)).goto 6) w':=by
 obtain⟨z0,z2,z4,z5,z6,z7⟩:=H.facts hop hl rfl rfl
 have HC:=Lib.hid hc
 have HA:=Lib.hid ha
 have HN:=Lib.hid hn
 have HH:=Lib.hid H
 clear hc H hn ha
 subst h5
 go_enter Tryz.func103,Tryz.ntmps103
 go_wp2_with fail
 refine(Q2f HH.out 1 1 (by decide)).mono ?_
 rintro e w1⟨rfl,H1⟩
 go_wp2_with fail
 refine(Q1j H1 6).mono ?_
 rintro e w2⟨rfl,H2⟩
 go_wp2_with fail
 (try simp only[Exit.inBlock,Exit.then]);refine bodyPost_ret (results_none rfl _ _ _) rfl ?_
 exact⟨rfl,H2⟩
theorem X5D{S0:List Nat}{w0 w:World}{m a r:Nat}{rs:List Res}{s:Rn}(H:Q0a S0 w0 m a r rs s w){o l:Int}(hop:s.f.op=o)(hl:s.f.line=l)(h5: ¬l=5)(hn:I64 s.n)(ha:0≤s.f.a∧s.f.a<4294967296)(hc:s.notes.length≤800):
 Calls Tryz.prog 103 #[.pointer (some ⟨r,0,none⟩)] w fun e w'=>e= .returned (.tuple #[])∧Q0a S0 w0 m a r rs (Q1c 6 true [4] s) w':=by
 obtain⟨z0,z2,z4,z5,z6,z7⟩:=H.facts hop hl rfl rfl
 have HC:=Lib.hid hc
 have HA:=Lib.hid ha
 have HN:=Lib.hid hn
 have HH:=Lib.hid H
 clear hc H hn ha
 go_enter Tryz.func103,Tryz.ntmps103
 go_wp2_with fail
 refine(X0E 6 true (nl:=[4]) rfl (by decide) (by decide) (HH.out.box rfl _ _) HN.out HA.out HC.out).mono ?_
 rintro e w7⟨rfl,H7⟩
 go_wp2_with fail
 go_end0
 exact⟨rfl,H7.Q0N⟩
def Q0z(s:Rn):Rn:=if s.f.line=5 then(s.did (doA s.L ⟨3,1,1,0,0⟩)).goto 6 else Q1c 6 true [4] s
theorem X1Q{S0:List Nat}{w0 w:World}{m a r:Nat}{rs:List Res}{s:Rn}(H:Q0a S0 w0 m a r rs s w)(hn:I64 s.n)(ha:0≤s.f.a∧s.f.a<4294967296)(hc:s.notes.length≤800):Calls Tryz.prog 103 #[.pointer (some ⟨r,0,none⟩)] w fun e w'=>e= .returned (.tuple #[])∧Q0a S0 w0 m a r rs (Q0z s) w':=by
 unfold Q0z
 split
 ·exact X5E H rfl rfl (by assumption) hn ha hc
 ·exact X5D H rfl rfl (by assumption) hn ha hc
theorem Y4h(v:Int)(w:World)(hv:0≤v∧v<4294967296):
 Calls Tryz.prog 147 #[.int .u32 v] w fun e w'=>e= .returned (.bool (v==0))∧Touch [] w w':=by
 go_enter Tryz.func147,Tryz.ntmps147
 go_wp2
 go_ret
 exact⟨rfl,Touch.refl _ _⟩
theorem X5C{S0:List Nat}{w0 w:World}{m a r:Nat}{rs:List Res}{s:Rn}(H:Q0a S0 w0 m a r rs s w){o l:Int}(hop:s.f.op=o)(hl:s.f.line=l)(h5:l=5)(hn:I64 s.n)(ha:0≤s.f.a∧s.f.a<4294967296)(hc:s.notes.length≤800):
 Calls Tryz.prog 105 #[.pointer (some ⟨r,0,none⟩)] w fun e w'=>e= .returned (.tuple #[])∧Q0a S0 w0 m a r rs (let s1:=s.waited (Q0t s.L s.n s.mode s.task s.f.st 1 (fun v=>v==0));let s2:=if(Q0t s.L s.n s.mode s.task s.f.st 1 (fun v=>v==0)).seen then s1.note 4 0 else s1;if(Q0t s.L s.n s.mode s.task s.f.st 1 (fun v=>v==0)).done then s2.fin true else s2) w':=by
 obtain⟨z0,z2,z4,z5,z6,z7⟩:=H.facts hop hl rfl rfl
 have HC:=Lib.hid hc
 have HA:=Lib.hid ha
 have HN:=Lib.hid hn
 have HH:=Lib.hid H
 clear hc H hn ha
 subst h5
 have hwt:=fun W (H:Q0a S0 w0 m a r rs s W)=>Q3m H HN.out 1 147 #[] #[] (fun v=>v==0) (enters_of Tryz.func147 (by kernel_rfl) rfl) (fun W v h0 h1 H=>Y4h v W ⟨h0,h1⟩)
 cases hs:(Q0t s.L s.n s.mode s.task s.f.st 1 (fun v=>v==0)).seen<;>cases hd:(Q0t s.L s.n s.mode s.task s.f.st 1 (fun v=>v==0)).done<;>rw[hs,hd]at hwt<;>simp only[if_true,Bool.false_eq_true,if_false]<;>(have HWT:=Lib.hid hwt)<;>clear hwt hs hd
 ·go_enter Tryz.func105,Tryz.ntmps105
  go_wp2_with fail
  refine(HWT.out _ HH.out).mono ?_
  rintro e w1⟨rfl,H1⟩
  go_wp2_with fail
  go_end0
  exact⟨rfl,H1⟩
 ·go_enter Tryz.func105,Tryz.ntmps105
  go_wp2_with fail
  refine(HWT.out _ HH.out).mono ?_
  rintro e w1⟨rfl,H1⟩
  go_wp2_with fail
  refine(Q1x H1 true).mono ?_
  rintro e w2⟨rfl,H2⟩
  go_wp2_with fail
  go_end0
  exact⟨rfl,H2⟩
 ·go_enter Tryz.func105,Tryz.ntmps105
  go_wp2_with fail
  refine(HWT.out _ HH.out).mono ?_
  rintro e w1⟨rfl,H1⟩
  go_wp2_with fail
  refine(Q0r H1 (by have:=HC.out;first|exact Nat.le_trans this (by decide)|(simp[Rn.note,Rn.did,Rn.Q0h,Rn.setB,Rn.waited,Rn.goto,Rn.Q0d];omega)) 4 0).mono ?_
  rintro e w2⟨rfl,H2⟩
  go_wp2_with fail
  go_end0
  exact⟨rfl,H2⟩
 ·go_enter Tryz.func105,Tryz.ntmps105
  go_wp2_with fail
  refine(HWT.out _ HH.out).mono ?_
  rintro e w1⟨rfl,H1⟩
  go_wp2_with fail
  refine(Q0r H1 (by have:=HC.out;first|exact Nat.le_trans this (by decide)|(simp[Rn.note,Rn.did,Rn.Q0h,Rn.setB,Rn.waited,Rn.goto,Rn.Q0d];omega)) 4 0).mono ?_
  rintro e w2⟨rfl,H2⟩
  go_wp2_with fail
  refine(Q1x H2 true).mono ?_
  rintro e w3⟨rfl,H3⟩
  go_wp2_with fail
  go_end0
  exact⟨rfl,H3⟩
theorem X5B{S0:List Nat}{w0 w:World}{m a r:Nat}{rs:List Res}{s:Rn}(H:Q0a S0 w0 m a r rs s w){o l:Int}(hop:s.f.op=o)(hl:s.f.line=l)(h5: ¬l=5)(hn:I64 s.n)(ha:0≤s.f.a∧s.f.a<4294967296)(hc:s.notes.length≤800):
 Calls Tryz.prog 105 #[.pointer (some ⟨r,0,none⟩)] w fun e w'=>e= .returned (.tuple #[])∧Q0a S0 w0 m a r rs s w':=by
 obtain⟨z0,z2,z4,z5,z6,z7⟩:=H.facts hop hl rfl rfl
 have HC:=Lib.hid hc
 have HA:=Lib.hid ha
 have HN:=Lib.hid hn
 have HH:=Lib.hid H
 clear hc H hn ha
 go_enter Tryz.func105,Tryz.ntmps105
 go_wp2_with fail
 (try simp only[Exit.inBlock,Exit.then]);refine bodyPost_ret (results_none rfl _ _ _) rfl ?_
 exact⟨rfl,HH.out⟩
def Q0B(s:Rn):Rn:=
 if s.f.line=5 then(let s1:=s.waited (Q0t s.L s.n s.mode s.task s.f.st 1 (fun v=>v==0));let s2:=if(Q0t s.L s.n s.mode s.task s.f.st 1 (fun v=>v==0)).seen then s1.note 4 0 else s1;if(Q0t s.L s.n s.mode s.task s.f.st 1 (fun v=>v==0)).done then s2.fin true else s2)else s
theorem X8U{S0:List Nat}{w0 w:World}{m a r:Nat}{rs:List Res}{s:Rn}(H:Q0a S0 w0 m a r rs s w)(hn:I64 s.n)(ha:0≤s.f.a∧s.f.a<4294967296)(hc:s.notes.length≤800):Calls Tryz.prog 105 #[.pointer (some ⟨r,0,none⟩)] w fun e w'=>e= .returned (.tuple #[])∧Q0a S0 w0 m a r rs (Q0B s) w':=by
 unfold Q0B
 split
 ·exact X5C H rfl rfl (by assumption) hn ha hc
 ·exact X5B H rfl rfl (by assumption) hn ha hc
theorem X2O{S0:List Nat}{w0 w:World}{m a r:Nat}{rs:List Res}{s:Rn}(H:Q0a S0 w0 m a r rs s w){o l:Int}(hop:s.f.op=o)(hl:s.f.line=l)(ho:o=6)(h2:l=2)(hn:I64 s.n)(ha:0≤s.f.a∧s.f.a<4294967296)(hc:s.notes.length≤800):
 Calls Tryz.prog 107 #[.pointer (some ⟨r,0,none⟩)] w fun e w'=>e= .returned (.tuple #[])∧Q0a S0 w0 m a r rs (if(doA s.L ⟨1,1,0,0,0⟩).1.old=0 then(((s.did (doA s.L ⟨1,1,0,0,0⟩)).Q0h (doA s.L ⟨1,1,0,0,0⟩).1.old).note 4 0).fin true else(((s.did (doA s.L ⟨1,1,0,0,0⟩)).Q0h (doA s.L ⟨1,1,0,0,0⟩).1.old).note 5 0).goto 6) w':=by
 obtain⟨z0,z2,z4,z5,z6,z7⟩:=H.facts hop hl rfl rfl
 have HC:=Lib.hid hc
 have HA:=Lib.hid ha
 have HN:=Lib.hid hn
 have HH:=Lib.hid H
 clear hc H hn ha
 subst ho h2
 by_cases hq:(doA s.L ⟨1,1,0,0,0⟩).1.old=0
 ·simp only[if_pos hq]
  have hz:((doA s.L ⟨1,1,0,0,0⟩).1.old==0)=true:=by simpa using hq
  clear hq
  go_enter Tryz.func107,Tryz.ntmps107
  go_wp2_with fail
  go_quiet (fail)
  have HW:=HH.out.drewN nq
  clear z0 z2 z4 z5 z6 z7
  generalize w.drewN nq=W at HW⊢
  obtain⟨z0,z2,z4,z5,z6,z7⟩:=HW.facts hop hl rfl rfl
  go_wp2_with fail
  refine(Q1r HW 1).mono ?_
  rintro e w1⟨rfl,H1⟩
  obtain⟨x0,x2,x4,x5,x6,x7⟩:=H1.facts hop hl rfl rfl
  go_wp2_with fail
  refine(Q0r ((H1.Q0h (doA s.L ⟨1,1,0,0,0⟩).1.old)) (by have:=HC.out;first|exact Nat.le_trans this (by decide)|(simp[Rn.note,Rn.did,Rn.Q0h,Rn.setB,Rn.waited,Rn.goto,Rn.Q0d];omega)) 4 0).mono ?_
  rintro e w2⟨rfl,H2⟩
  go_wp2_with fail
  refine(Q1x H2 true).mono ?_
  rintro e w3⟨rfl,H3⟩
  go_wp2_with fail
  (try simp only[Exit.inBlock,Exit.then]);refine bodyPost_ret (results_none rfl _ _ _) rfl ?_
  exact⟨rfl,H3⟩
 ·simp only[if_neg hq]
  have hz:((doA s.L ⟨1,1,0,0,0⟩).1.old==0)=false:=by simpa using hq
  clear hq
  go_enter Tryz.func107,Tryz.ntmps107
  go_wp2_with fail
  go_quiet (fail)
  have HW:=HH.out.drewN nq
  clear z0 z2 z4 z5 z6 z7
  generalize w.drewN nq=W at HW⊢
  obtain⟨z0,z2,z4,z5,z6,z7⟩:=HW.facts hop hl rfl rfl
  go_wp2_with fail
  refine(Q1r HW 1).mono ?_
  rintro e w1⟨rfl,H1⟩
  obtain⟨x0,x2,x4,x5,x6,x7⟩:=H1.facts hop hl rfl rfl
  go_wp2_with fail
  refine(Q0r ((H1.Q0h (doA s.L ⟨1,1,0,0,0⟩).1.old)) (by have:=HC.out;first|exact Nat.le_trans this (by decide)|(simp[Rn.note,Rn.did,Rn.Q0h,Rn.setB,Rn.waited,Rn.goto,Rn.Q0d];omega)) 5 0).mono ?_
  rintro e w2⟨rfl,H2⟩
  go_wp2_with fail
  refine(Q1j H2 6).mono ?_
  rintro e w3⟨rfl,H3⟩
  go_wp2_with fail
  go_end0
  exact⟨rfl,H3⟩
theorem X2N{S0:List Nat}{w0 w:World}{m a r:Nat}{rs:List Res}{s:Rn}(H:Q0a S0 w0 m a r rs s w){o l:Int}(hop:s.f.op=o)(hl:s.f.line=l)(ho:o=7)(h2:l=2)(hn:I64 s.n)(ha:0≤s.f.a∧s.f.a<4294967296)(hc:s.notes.length≤800):
 Calls Tryz.prog 107 #[.pointer (some ⟨r,0,none⟩)] w fun e w'=>e= .returned (.tuple #[])∧Q0a S0 w0 m a r rs (if(doA s.L ⟨1,1,0,0,0⟩).1.old=1 then((s.did (doA s.L ⟨1,1,0,0,0⟩)).Q0h (doA s.L ⟨1,1,0,0,0⟩).1.old).goto 3 else(((s.did (doA s.L ⟨1,1,0,0,0⟩)).Q0h (doA s.L ⟨1,1,0,0,0⟩).1.old).note 5 0).goto 6) w':=by
 obtain⟨z0,z2,z4,z5,z6,z7⟩:=H.facts hop hl rfl rfl
 have HC:=Lib.hid hc
 have HA:=Lib.hid ha
 have HN:=Lib.hid hn
 have HH:=Lib.hid H
 clear hc H hn ha
 subst ho h2
 by_cases hq:(doA s.L ⟨1,1,0,0,0⟩).1.old=1
 ·simp only[if_pos hq]
  have hz:((doA s.L ⟨1,1,0,0,0⟩).1.old==1)=true:=by simpa using hq
  clear hq
  go_enter Tryz.func107,Tryz.ntmps107
  go_wp2_with fail
  go_quiet (fail)
  have HW:=HH.out.drewN nq
  clear z0 z2 z4 z5 z6 z7
  generalize w.drewN nq=W at HW⊢
  obtain⟨z0,z2,z4,z5,z6,z7⟩:=HW.facts hop hl rfl rfl
  go_wp2_with fail
  refine(Q1r HW 1).mono ?_
  rintro e w1⟨rfl,H1⟩
  obtain⟨x0,x2,x4,x5,x6,x7⟩:=H1.facts hop hl rfl rfl
  go_wp2_with fail
  refine(Q1j ((H1.Q0h (doA s.L ⟨1,1,0,0,0⟩).1.old)) 3).mono ?_
  rintro e w2⟨rfl,H2⟩
  go_wp2_with fail
  (try simp only[Exit.inBlock,Exit.then]);refine bodyPost_ret (results_none rfl _ _ _) rfl ?_
  exact⟨rfl,H2⟩
 ·simp only[if_neg hq]
  have hz:((doA s.L ⟨1,1,0,0,0⟩).1.old==1)=false:=by simpa using hq
  clear hq
  go_enter Tryz.func107,Tryz.ntmps107
  go_wp2_with fail
  go_quiet (fail)
  have HW:=HH.out.drewN nq
  clear z0 z2 z4 z5 z6 z7
  generalize w.drewN nq=W at HW⊢
  obtain⟨z0,z2,z4,z5,z6,z7⟩:=HW.facts hop hl rfl rfl
  go_wp2_with fail
  refine(Q1r HW 1).mono ?_
  rintro e w1⟨rfl,H1⟩
  obtain⟨x0,x2,x4,x5,x6,x7⟩:=H1.facts hop hl rfl rfl
  go_wp2_with fail
  refine(Q0r ((H1.Q0h (doA s.L ⟨1,1,0,0,0⟩).1.old)) (by have:=HC.out;first|exact Nat.le_trans this (by decide)|(simp[Rn.note,Rn.did,Rn.Q0h,Rn.setB,Rn.waited,Rn.goto,Rn.Q0d];omega)) 5 0).mono ?_
  rintro e w2⟨rfl,H2⟩
  go_wp2_with fail
  refine(Q1j H2 6).mono ?_
  rintro e w3⟨rfl,H3⟩
  go_wp2_with fail
  go_end0
  exact⟨rfl,H3⟩
theorem X2M{S0:List Nat}{w0 w:World}{m a r:Nat}{rs:List Res}{s:Rn}(H:Q0a S0 w0 m a r rs s w){o l:Int}(hop:s.f.op=o)(hl:s.f.line=l)(ho:o=7)(h3:l=3)(hn:I64 s.n)(ha:0≤s.f.a∧s.f.a<4294967296)(hc:s.notes.length≤800):
 Calls Tryz.prog 107 #[.pointer (some ⟨r,0,none⟩)] w fun e w'=>e= .returned (.tuple #[])∧Q0a S0 w0 m a r rs (((s.did (doA s.L ⟨3,1,4294967295,0,0⟩)).note 9 0).fin true) w':=by
 obtain⟨z0,z2,z4,z5,z6,z7⟩:=H.facts hop hl rfl rfl
 have HC:=Lib.hid hc
 have HA:=Lib.hid ha
 have HN:=Lib.hid hn
 have HH:=Lib.hid H
 clear hc H hn ha
 subst ho h3
 go_enter Tryz.func107,Tryz.ntmps107
 go_wp2_with fail
 go_quiet (fail)
 have HW:=HH.out.drewN nq
 clear z0 z2 z4 z5 z6 z7
 generalize w.drewN nq=W at HW⊢
 obtain⟨z0,z2,z4,z5,z6,z7⟩:=HW.facts hop hl rfl rfl
 go_wp2_with fail
 refine(Q2f HW 1 4294967295 (by decide)).mono ?_
 rintro e w1⟨rfl,H1⟩
 go_wp2_with fail
 refine(Q0r H1 (by have:=HC.out;first|exact Nat.le_trans this (by decide)|(simp[Rn.note,Rn.did,Rn.Q0h,Rn.setB,Rn.waited,Rn.goto,Rn.Q0d];omega)) 9 0).mono ?_
 rintro e w2⟨rfl,H2⟩
 go_wp2_with fail
 refine(Q1x H2 true).mono ?_
 rintro e w3⟨rfl,H3⟩
 go_wp2_with fail
 go_end0
 exact⟨rfl,H3⟩
theorem X5J{S0:List Nat}{w0 w:World}{m a r:Nat}{rs:List Res}{s:Rn}(H:Q0a S0 w0 m a r rs s w){o l:Int}(hop:s.f.op=o)(hl:s.f.line=l)(h0: ¬(o=6∧l=2))(h1: ¬(o=7∧l=2))(h2: ¬(o=7∧l=3))(hn:I64 s.n)(ha:0≤s.f.a∧s.f.a<4294967296)(hc:s.notes.length≤800):
 Calls Tryz.prog 107 #[.pointer (some ⟨r,0,none⟩)] w fun e w'=>e= .returned (.tuple #[])∧Q0a S0 w0 m a r rs (Q1c 6 false [8] s) w':=by
 obtain⟨z0,z2,z4,z5,z6,z7⟩:=H.facts hop hl rfl rfl
 have HC:=Lib.hid hc
 have HA:=Lib.hid ha
 have HN:=Lib.hid hn
 have HH:=Lib.hid H
 clear hc H hn ha
 go_enter Tryz.func107,Tryz.ntmps107
 go_wp2_with fail
 go_quiet (fail)
 have HW:=HH.out.drewN nq
 clear z0 z2 z4 z5 z6 z7
 generalize w.drewN nq=W at HW⊢
 obtain⟨z0,z2,z4,z5,z6,z7⟩:=HW.facts hop hl rfl rfl
 go_wp2_with fail
 all_goals
  refine(X0E 6 false (nl:=[8]) rfl (by decide) (by decide) (HW.box rfl _ _) HN.out HA.out HC.out).mono ?_
  rintro e w7⟨rfl,H7⟩
  go_wp2_with fail
  go_end0
  exact⟨rfl,H7.Q0N⟩
def Q0A(s:Rn):Rn:=
 if s.f.op=6∧s.f.line=2 then(if(doA s.L ⟨1,1,0,0,0⟩).1.old=0 then(((s.did (doA s.L ⟨1,1,0,0,0⟩)).Q0h (doA s.L ⟨1,1,0,0,0⟩).1.old).note 4 0).fin true else(((s.did (doA s.L ⟨1,1,0,0,0⟩)).Q0h (doA s.L ⟨1,1,0,0,0⟩).1.old).note 5 0).goto 6)
 else if s.f.op=7∧s.f.line=2 then(if(doA s.L ⟨1,1,0,0,0⟩).1.old=1 then((s.did (doA s.L ⟨1,1,0,0,0⟩)).Q0h (doA s.L ⟨1,1,0,0,0⟩).1.old).goto 3 else(((s.did (doA s.L ⟨1,1,0,0,0⟩)).Q0h (doA s.L ⟨1,1,0,0,0⟩).1.old).note 5 0).goto 6)
 else if s.f.op=7∧s.f.line=3 then((s.did (doA s.L ⟨3,1,4294967295,0,0⟩)).note 9 0).fin true
 else Q1c 6 false [8] s
theorem X1R{S0:List Nat}{w0 w:World}{m a r:Nat}{rs:List Res}{s:Rn}(H:Q0a S0 w0 m a r rs s w)(hn:I64 s.n)(ha:0≤s.f.a∧s.f.a<4294967296)(hc:s.notes.length≤800):Calls Tryz.prog 107 #[.pointer (some ⟨r,0,none⟩)] w fun e w'=>e= .returned (.tuple #[])∧Q0a S0 w0 m a r rs (Q0A s) w':=by
 unfold Q0A
 split
 ·exact X2O H rfl rfl (by omega) (by omega) hn ha hc
 split
 ·exact X2N H rfl rfl (by omega) (by omega) hn ha hc
 split
 ·exact X2M H rfl rfl (by omega) (by omega) hn ha hc
 ·exact X5J H rfl rfl (by assumption) (by assumption) (by assumption) hn ha hc
theorem X2L{S0:List Nat}{w0 w:World}{m a r:Nat}{rs:List Res}{s:Rn}(H:Q0a S0 w0 m a r rs s w){o l:Int}(hop:s.f.op=o)(hl:s.f.line=l)(ho:o=2)(h3:l=0)(hn:I64 s.n)(ha:0≤s.f.a∧s.f.a<4294967296)(hc:s.notes.length≤800):
 Calls Tryz.prog 108 #[.pointer (some ⟨r,0,none⟩)] w fun e w'=>e= .returned (.tuple #[])∧Q0a S0 w0 m a r rs ((((s.did (doA s.L ⟨3,1,4294967295,0,0⟩)).note 6 0).wake 1).fin true) w':=by
 obtain⟨z0,z2,z4,z5,z6,z7⟩:=H.facts hop hl rfl rfl
 have HC:=Lib.hid hc
 have HA:=Lib.hid ha
 have HN:=Lib.hid hn
 have HH:=Lib.hid H
 clear hc H hn ha
 subst ho h3
 go_enter Tryz.func108,Tryz.ntmps108
 go_wp2_with fail
 refine(Q2f HH.out 1 4294967295 (by decide)).mono ?_
 rintro e w1⟨rfl,H1⟩
 go_wp2_with fail
 refine(Q0r H1 (by have:=HC.out;first|exact Nat.le_trans this (by decide)|(simp[Rn.note,Rn.did,Rn.Q0h,Rn.setB,Rn.waited,Rn.goto,Rn.Q0d];omega)) 6 0).mono ?_
 rintro e w2⟨rfl,H2⟩
 go_wp2_with fail
 refine(Q3l H2 1).mono ?_
 rintro e w3⟨rfl,H3⟩
 go_wp2_with fail
 refine(Q1x H3 true).mono ?_
 rintro e w4⟨rfl,H4⟩
 go_wp2_with fail
 go_end0
 exact⟨rfl,H4⟩
theorem X2K{S0:List Nat}{w0 w:World}{m a r:Nat}{rs:List Res}{s:Rn}(H:Q0a S0 w0 m a r rs s w){o l:Int}(hop:s.f.op=o)(hl:s.f.line=l)(ho:o=8)(h3:l=0)(hn:I64 s.n)(ha:0≤s.f.a∧s.f.a<4294967296)(hc:s.notes.length≤800):
 Calls Tryz.prog 108 #[.pointer (some ⟨r,0,none⟩)] w fun e w'=>e= .returned (.tuple #[])∧Q0a S0 w0 m a r rs ((s.did (doA s.L ⟨3,1,1,0,0⟩)).goto 1) w':=by
 obtain⟨z0,z2,z4,z5,z6,z7⟩:=H.facts hop hl rfl rfl
 have HC:=Lib.hid hc
 have HA:=Lib.hid ha
 have HN:=Lib.hid hn
 have HH:=Lib.hid H
 clear hc H hn ha
 subst ho h3
 go_enter Tryz.func108,Tryz.ntmps108
 go_wp2_with fail
 refine(Q2f HH.out 1 1 (by decide)).mono ?_
 rintro e w1⟨rfl,H1⟩
 go_wp2_with fail
 refine(Q1j H1 1).mono ?_
 rintro e w2⟨rfl,H2⟩
 go_wp2_with fail
 go_end0
 exact⟨rfl,H2⟩
theorem X5G{S0:List Nat}{w0 w:World}{m a r:Nat}{rs:List Res}{s:Rn}(H:Q0a S0 w0 m a r rs s w){o l:Int}(hop:s.f.op=o)(hl:s.f.line=l)(ho:o=8)(h3: ¬l=0)(hn:I64 s.n)(ha:0≤s.f.a∧s.f.a<4294967296)(hc:s.notes.length≤800):
 Calls Tryz.prog 108 #[.pointer (some ⟨r,0,none⟩)] w fun e w'=>e= .returned (.tuple #[])∧Q0a S0 w0 m a r rs (Q1c 1 true [10] s) w':=by
 obtain⟨z0,z2,z4,z5,z6,z7⟩:=H.facts hop hl rfl rfl
 have HC:=Lib.hid hc
 have HA:=Lib.hid ha
 have HN:=Lib.hid hn
 have HH:=Lib.hid H
 clear hc H hn ha
 subst ho
 go_enter Tryz.func108,Tryz.ntmps108
 go_wp2_with fail
 refine(X0E 1 true (nl:=[10]) rfl (by decide) (by decide) (HH.out.box rfl _ _) HN.out HA.out HC.out).mono ?_
 rintro e w7⟨rfl,H7⟩
 go_wp2_with fail
 go_end0
 exact⟨rfl,H7.Q0N⟩
theorem X2J{S0:List Nat}{w0 w:World}{m a r:Nat}{rs:List Res}{s:Rn}(H:Q0a S0 w0 m a r rs s w){o l:Int}(hop:s.f.op=o)(hl:s.f.line=l)(ho:o=2)(h3: ¬l=0)(hn:I64 s.n)(ha:0≤s.f.a∧s.f.a<4294967296)(hc:s.notes.length≤800):
 Calls Tryz.prog 108 #[.pointer (some ⟨r,0,none⟩)] w fun e w'=>e= .returned (.tuple #[])∧Q0a S0 w0 m a r rs s w':=by
 obtain⟨z0,z2,z4,z5,z6,z7⟩:=H.facts hop hl rfl rfl
 have HC:=Lib.hid hc
 have HA:=Lib.hid ha
 have HN:=Lib.hid hn
 have HH:=Lib.hid H
 clear hc H hn ha
 subst ho
 go_enter Tryz.func108,Tryz.ntmps108
 go_wp2_with fail
 go_end0
 exact⟨rfl,HH.out⟩
theorem X5F{S0:List Nat}{w0 w:World}{m a r:Nat}{rs:List Res}{s:Rn}(H:Q0a S0 w0 m a r rs s w){o l:Int}(hop:s.f.op=o)(hl:s.f.line=l)(ho: ¬o=2)(h8: ¬o=8)(hn:I64 s.n)(ha:0≤s.f.a∧s.f.a<4294967296)(hc:s.notes.length≤800):
 Calls Tryz.prog 108 #[.pointer (some ⟨r,0,none⟩)] w fun e w'=>e= .returned (.tuple #[])∧Q0a S0 w0 m a r rs s w':=by
 obtain⟨z0,z2,z4,z5,z6,z7⟩:=H.facts hop hl rfl rfl
 have HC:=Lib.hid hc
 have HA:=Lib.hid ha
 have HN:=Lib.hid hn
 have HH:=Lib.hid H
 clear hc H hn ha
 go_enter Tryz.func108,Tryz.ntmps108
 go_wp2_with fail
 go_end0
 exact⟨rfl,HH.out⟩
def Q0C(s:Rn):Rn:=
 if s.f.op=2 then(if s.f.line=0 then(((s.did (doA s.L ⟨3,1,4294967295,0,0⟩)).note 6 0).wake 1).fin true else s)
 else if s.f.op=8 then(if s.f.line=0 then(s.did (doA s.L ⟨3,1,1,0,0⟩)).goto 1 else Q1c 1 true [10] s)else s
theorem X8X{S0:List Nat}{w0 w:World}{m a r:Nat}{rs:List Res}{s:Rn}(H:Q0a S0 w0 m a r rs s w)(hn:I64 s.n)(ha:0≤s.f.a∧s.f.a<4294967296)(hc:s.notes.length≤800):Calls Tryz.prog 108 #[.pointer (some ⟨r,0,none⟩)] w fun e w'=>e= .returned (.tuple #[])∧Q0a S0 w0 m a r rs (Q0C s) w':=by
 unfold Q0C
 split
 ·split
  ·exact X2L H rfl rfl (by assumption) (by assumption) hn ha hc
  ·exact X2J H rfl rfl (by assumption) (by assumption) hn ha hc
 split
 ·split
  ·exact X2K H rfl rfl (by assumption) (by assumption) hn ha hc
  ·exact X5G H rfl rfl (by assumption) (by assumption) hn ha hc
 ·exact X5F H rfl rfl (by assumption) (by assumption) hn ha hc
attribute [local go_sem↓] Go.wp_at_zero Go.wp_at_succ
theorem X9i{S0:List Nat}{w0 w:World}{m a r:Nat}{rs:List Res}{s:Rn}(H:Q0a S0 w0 m a r rs s w){o l:Int}(hop:s.f.op=o)(hl:s.f.line=l)(ho:o=1)(hle:l≤4)(hn:I64 s.n)(ha:0≤s.f.a∧s.f.a<4294967296)(hc:s.notes.length≤800):
 Calls Tryz.prog 70 #[.pointer (some ⟨r,0,none⟩)] w fun e w'=>e= .returned (.tuple #[])∧Q0a S0 w0 m a r rs (Q0Q 1 s) w':=by
 obtain⟨z0,z2,z4,z5,z6,z7⟩:=H.facts hop hl rfl rfl
 have HC:=Lib.hid hc
 have HA:=Lib.hid ha
 have HN:=Lib.hid hn
 have HH:=Lib.hid H
 clear hc H hn ha
 subst ho
 go_enter Tryz.func70,Tryz.ntmps70
 go_wp2_with fail
 refine(X4d HH.out 1 HN.out HA.out HC.out).mono ?_
 rintro e w1⟨rfl,H1⟩
 go_wp2_with fail
 go_end0
 exact⟨rfl,H1⟩
theorem X9h{S0:List Nat}{w0 w:World}{m a r:Nat}{rs:List Res}{s:Rn}(H:Q0a S0 w0 m a r rs s w){o l:Int}(hop:s.f.op=o)(hl:s.f.line=l)(ho:o=1)(hle:4<l)(hn:I64 s.n)(ha:0≤s.f.a∧s.f.a<4294967296)(hc:s.notes.length≤800):
 Calls Tryz.prog 70 #[.pointer (some ⟨r,0,none⟩)] w fun e w'=>e= .returned (.tuple #[])∧Q0a S0 w0 m a r rs (Q0z s) w':=by
 obtain⟨z0,z2,z4,z5,z6,z7⟩:=H.facts hop hl rfl rfl
 have HC:=Lib.hid hc
 have HA:=Lib.hid ha
 have HN:=Lib.hid hn
 have HH:=Lib.hid H
 clear hc H hn ha
 subst ho
 go_enter Tryz.func70,Tryz.ntmps70
 go_wp2_with fail
 refine(X1Q HH.out HN.out HA.out HC.out).mono ?_
 rintro e w1⟨rfl,H1⟩
 go_wp2_with fail
 go_end0
 exact⟨rfl,H1⟩
theorem X9g{S0:List Nat}{w0 w:World}{m a r:Nat}{rs:List Res}{s:Rn}(H:Q0a S0 w0 m a r rs s w){o l:Int}(hop:s.f.op=o)(hl:s.f.line=l)(ho:o=5)(hle:l≤1)(hn:I64 s.n)(ha:0≤s.f.a∧s.f.a<4294967296)(hc:s.notes.length≤800):
 Calls Tryz.prog 70 #[.pointer (some ⟨r,0,none⟩)] w fun e w'=>e= .returned (.tuple #[])∧Q0a S0 w0 m a r rs (Q1I 1 5 s) w':=by
 obtain⟨z0,z2,z4,z5,z6,z7⟩:=H.facts hop hl rfl rfl
 have HC:=Lib.hid hc
 have HA:=Lib.hid ha
 have HN:=Lib.hid hn
 have HH:=Lib.hid H
 clear hc H hn ha
 subst ho
 go_enter Tryz.func70,Tryz.ntmps70
 go_wp2_with fail
 refine(X8V HH.out 1 5 HN.out HA.out HC.out).mono ?_
 rintro e w1⟨rfl,H1⟩
 go_wp2_with fail
 go_end0
 exact⟨rfl,H1⟩
theorem X9f{S0:List Nat}{w0 w:World}{m a r:Nat}{rs:List Res}{s:Rn}(H:Q0a S0 w0 m a r rs s w){o l:Int}(hop:s.f.op=o)(hl:s.f.line=l)(ho:o=5)(hle:1<l)(hn:I64 s.n)(ha:0≤s.f.a∧s.f.a<4294967296)(hc:s.notes.length≤800):
 Calls Tryz.prog 70 #[.pointer (some ⟨r,0,none⟩)] w fun e w'=>e= .returned (.tuple #[])∧Q0a S0 w0 m a r rs (Q0z s) w':=by
 obtain⟨z0,z2,z4,z5,z6,z7⟩:=H.facts hop hl rfl rfl
 have HC:=Lib.hid hc
 have HA:=Lib.hid ha
 have HN:=Lib.hid hn
 have HH:=Lib.hid H
 clear hc H hn ha
 subst ho
 go_enter Tryz.func70,Tryz.ntmps70
 go_wp2_with fail
 refine(X1Q HH.out HN.out HA.out HC.out).mono ?_
 rintro e w1⟨rfl,H1⟩
 go_wp2_with fail
 go_end0
 exact⟨rfl,H1⟩
theorem X9e{S0:List Nat}{w0 w:World}{m a r:Nat}{rs:List Res}{s:Rn}(H:Q0a S0 w0 m a r rs s w){o l:Int}(hop:s.f.op=o)(hl:s.f.line=l)(ho:o=3)(hle:l≤4)(hn:I64 s.n)(ha:0≤s.f.a∧s.f.a<4294967296)(hc:s.notes.length≤800):
 Calls Tryz.prog 70 #[.pointer (some ⟨r,0,none⟩)] w fun e w'=>e= .returned (.tuple #[])∧Q0a S0 w0 m a r rs (Q0Q 2 s) w':=by
 obtain⟨z0,z2,z4,z5,z6,z7⟩:=H.facts hop hl rfl rfl
 have HC:=Lib.hid hc
 have HA:=Lib.hid ha
 have HN:=Lib.hid hn
 have HH:=Lib.hid H
 clear hc H hn ha
 subst ho
 go_enter Tryz.func70,Tryz.ntmps70
 go_wp2_with fail
 refine(X4d HH.out 2 HN.out HA.out HC.out).mono ?_
 rintro e w1⟨rfl,H1⟩
 go_wp2_with fail
 go_end0
 exact⟨rfl,H1⟩
theorem X9d{S0:List Nat}{w0 w:World}{m a r:Nat}{rs:List Res}{s:Rn}(H:Q0a S0 w0 m a r rs s w){o l:Int}(hop:s.f.op=o)(hl:s.f.line=l)(ho:o=3)(hle:4<l)(hn:I64 s.n)(ha:0≤s.f.a∧s.f.a<4294967296)(hc:s.notes.length≤800):
 Calls Tryz.prog 70 #[.pointer (some ⟨r,0,none⟩)] w fun e w'=>e= .returned (.tuple #[])∧Q0a S0 w0 m a r rs (Q0B s) w':=by
 obtain⟨z0,z2,z4,z5,z6,z7⟩:=H.facts hop hl rfl rfl
 have HC:=Lib.hid hc
 have HA:=Lib.hid ha
 have HN:=Lib.hid hn
 have HH:=Lib.hid H
 clear hc H hn ha
 subst ho
 go_enter Tryz.func70,Tryz.ntmps70
 go_wp2_with fail
 refine(X8U HH.out HN.out HA.out HC.out).mono ?_
 rintro e w1⟨rfl,H1⟩
 go_wp2_with fail
 go_end0
 exact⟨rfl,H1⟩
theorem X9c{S0:List Nat}{w0 w:World}{m a r:Nat}{rs:List Res}{s:Rn}(H:Q0a S0 w0 m a r rs s w){o l:Int}(hop:s.f.op=o)(hl:s.f.line=l)(ho:o=4)(hn:I64 s.n)(ha:0≤s.f.a∧s.f.a<4294967296)(hc:s.notes.length≤800):
 Calls Tryz.prog 70 #[.pointer (some ⟨r,0,none⟩)] w fun e w'=>e= .returned (.tuple #[])∧Q0a S0 w0 m a r rs (Q1c 0 true [7,8] s) w':=by
 obtain⟨z0,z2,z4,z5,z6,z7⟩:=H.facts hop hl rfl rfl
 have HC:=Lib.hid hc
 have HA:=Lib.hid ha
 have HN:=Lib.hid hn
 have HH:=Lib.hid H
 clear hc H hn ha
 subst ho
 go_enter Tryz.func70,Tryz.ntmps70
 go_wp2_with fail
 refine(X0E 0 true (nl:=[7,8]) rfl (by decide) (by decide) (HH.out.box rfl _ _) HN.out HA.out HC.out).mono ?_
 rintro e w7⟨rfl,H7⟩
 go_wp2_with fail
 go_end0
 exact⟨rfl,H7.Q0N⟩
theorem X9b{S0:List Nat}{w0 w:World}{m a r:Nat}{rs:List Res}{s:Rn}(H:Q0a S0 w0 m a r rs s w){o l:Int}(hop:s.f.op=o)(hl:s.f.line=l)(ho:o=6)(hle:l≤1)(hn:I64 s.n)(ha:0≤s.f.a∧s.f.a<4294967296)(hc:s.notes.length≤800):
 Calls Tryz.prog 70 #[.pointer (some ⟨r,0,none⟩)] w fun e w'=>e= .returned (.tuple #[])∧Q0a S0 w0 m a r rs (Q1I 2 2 s) w':=by
 obtain⟨z0,z2,z4,z5,z6,z7⟩:=H.facts hop hl rfl rfl
 have HC:=Lib.hid hc
 have HA:=Lib.hid ha
 have HN:=Lib.hid hn
 have HH:=Lib.hid H
 clear hc H hn ha
 subst ho
 go_enter Tryz.func70,Tryz.ntmps70
 go_wp2_with fail
 refine(X8V HH.out 2 2 HN.out HA.out HC.out).mono ?_
 rintro e w1⟨rfl,H1⟩
 go_wp2_with fail
 go_end0
 exact⟨rfl,H1⟩
theorem X9a{S0:List Nat}{w0 w:World}{m a r:Nat}{rs:List Res}{s:Rn}(H:Q0a S0 w0 m a r rs s w){o l:Int}(hop:s.f.op=o)(hl:s.f.line=l)(ho:o=6)(hle:1<l)(hn:I64 s.n)(ha:0≤s.f.a∧s.f.a<4294967296)(hc:s.notes.length≤800):
 Calls Tryz.prog 70 #[.pointer (some ⟨r,0,none⟩)] w fun e w'=>e= .returned (.tuple #[])∧Q0a S0 w0 m a r rs (Q0A s) w':=by
 obtain⟨z0,z2,z4,z5,z6,z7⟩:=H.facts hop hl rfl rfl
 have HC:=Lib.hid hc
 have HA:=Lib.hid ha
 have HN:=Lib.hid hn
 have HH:=Lib.hid H
 clear hc H hn ha
 subst ho
 go_enter Tryz.func70,Tryz.ntmps70
 go_wp2_with fail
 refine(X1R HH.out HN.out HA.out HC.out).mono ?_
 rintro e w1⟨rfl,H1⟩
 go_wp2_with fail
 go_end0
 exact⟨rfl,H1⟩
theorem X8Z{S0:List Nat}{w0 w:World}{m a r:Nat}{rs:List Res}{s:Rn}(H:Q0a S0 w0 m a r rs s w){o l:Int}(hop:s.f.op=o)(hl:s.f.line=l)(ho:o=7)(hle:l≤1)(hn:I64 s.n)(ha:0≤s.f.a∧s.f.a<4294967296)(hc:s.notes.length≤800):
 Calls Tryz.prog 70 #[.pointer (some ⟨r,0,none⟩)] w fun e w'=>e= .returned (.tuple #[])∧Q0a S0 w0 m a r rs (Q1I 2 2 s) w':=by
 obtain⟨z0,z2,z4,z5,z6,z7⟩:=H.facts hop hl rfl rfl
 have HC:=Lib.hid hc
 have HA:=Lib.hid ha
 have HN:=Lib.hid hn
 have HH:=Lib.hid H
 clear hc H hn ha
 subst ho
 go_enter Tryz.func70,Tryz.ntmps70
 go_wp2_with fail
 refine(X8V HH.out 2 2 HN.out HA.out HC.out).mono ?_
 rintro e w1⟨rfl,H1⟩
 go_wp2_with fail
 go_end0
 exact⟨rfl,H1⟩
theorem X5I{S0:List Nat}{w0 w:World}{m a r:Nat}{rs:List Res}{s:Rn}(H:Q0a S0 w0 m a r rs s w){o l:Int}(hop:s.f.op=o)(hl:s.f.line=l)(ho:o=7)(hle:1<l)(hn:I64 s.n)(ha:0≤s.f.a∧s.f.a<4294967296)(hc:s.notes.length≤800):
 Calls Tryz.prog 70 #[.pointer (some ⟨r,0,none⟩)] w fun e w'=>e= .returned (.tuple #[])∧Q0a S0 w0 m a r rs (Q0A s) w':=by
 obtain⟨z0,z2,z4,z5,z6,z7⟩:=H.facts hop hl rfl rfl
 have HC:=Lib.hid hc
 have HA:=Lib.hid ha
 have HN:=Lib.hid hn
 have HH:=Lib.hid H
 clear hc H hn ha
 subst ho
 go_enter Tryz.func70,Tryz.ntmps70
 go_wp2_with fail
 refine(X1R HH.out HN.out HA.out HC.out).mono ?_
 rintro e w1⟨rfl,H1⟩
 go_wp2_with fail
 go_end0
 exact⟨rfl,H1⟩
theorem X5H{S0:List Nat}{w0 w:World}{m a r:Nat}{rs:List Res}{s:Rn}(H:Q0a S0 w0 m a r rs s w){o l:Int}(hop:s.f.op=o)(hl:s.f.line=l)(k1: ¬o=1)(k5: ¬o=5)(k3: ¬o=3)(k4: ¬o=4)(k6: ¬o=6)(k7: ¬o=7)(hn:I64 s.n)(ha:0≤s.f.a∧s.f.a<4294967296)(hc:s.notes.length≤800):
 Calls Tryz.prog 70 #[.pointer (some ⟨r,0,none⟩)] w fun e w'=>e= .returned (.tuple #[])∧Q0a S0 w0 m a r rs (Q0C s) w':=by
 obtain⟨z0,z2,z4,z5,z6,z7⟩:=H.facts hop hl rfl rfl
 have HC:=Lib.hid hc
 have HA:=Lib.hid ha
 have HN:=Lib.hid hn
 have HH:=Lib.hid H
 clear hc H hn ha
 go_enter Tryz.func70,Tryz.ntmps70
 go_wp2_with fail
 refine(X8X HH.out HN.out HA.out HC.out).mono ?_
 rintro e w1⟨rfl,H1⟩
 go_wp2_with fail
 go_end0
 exact⟨rfl,H1⟩
def fqA(s:Rn):Rn:=
 if s.f.op=1 then(if s.f.line≤4 then Q0Q 1 s else Q0z s)
 else if s.f.op=5 then(if s.f.line≤1 then Q1I 1 5 s else Q0z s)
 else if s.f.op=3 then(if s.f.line≤4 then Q0Q 2 s else Q0B s)
 else if s.f.op=4 then Q1c 0 true [7,8] s
 else if s.f.op=6 then(if s.f.line≤1 then Q1I 2 2 s else Q0A s)
 else if s.f.op=7 then(if s.f.line≤1 then Q1I 2 2 s else Q0A s)
 else Q0C s
theorem Y1B{S0:List Nat}{w0 w:World}{m a r:Nat}{rs:List Res}{s:Rn}(H:Q0a S0 w0 m a r rs s w)(hn:I64 s.n)(ha:0≤s.f.a∧s.f.a<4294967296)(hc:s.notes.length≤800):Calls Tryz.prog 70 #[.pointer (some ⟨r,0,none⟩)] w fun e w'=>e= .returned (.tuple #[])∧Q0a S0 w0 m a r rs (fqA s) w':=by
 unfold fqA
 split
 ·split
  ·exact X9i H rfl rfl (by assumption) (by assumption) hn ha hc
  ·exact X9h H rfl rfl (by assumption) (by omega) hn ha hc
 split
 ·split
  ·exact X9g H rfl rfl (by assumption) (by assumption) hn ha hc
  ·exact X9f H rfl rfl (by assumption) (by omega) hn ha hc
 split
 ·split
  ·exact X9e H rfl rfl (by assumption) (by assumption) hn ha hc
  ·exact X9d H rfl rfl (by assumption) (by omega) hn ha hc
 split
 ·exact X9c H rfl rfl (by assumption) hn ha hc
 split
 ·split
  ·exact X9b H rfl rfl (by assumption) (by assumption) hn ha hc
  ·exact X9a H rfl rfl (by assumption) (by omega) hn ha hc
 split
 ·split
  ·exact X8Z H rfl rfl (by assumption) (by assumption) hn ha hc
  ·exact X5I H rfl rfl (by assumption) (by omega) hn ha hc
 ·exact X5H H rfl rfl (by assumption) (by assumption) (by assumption) (by assumption) (by assumption) (by assumption) hn ha hc
section
variable {s:Rn}
section
theorem X0F(h:(0≤s.f.a∧s.f.a<4294967296)∧(0≤s.f.b∧s.f.b<4294967296))(cls next:Int):FK 2 s (Q1I cls next s):=by
 have R:=X3Y (s:=s) 0 h
 unfold Q1I
 split
 ·split
  ·exact((R.note _ _).goto _).more (by decide)
  ·exact((R.note _ _).fin _).more (by decide)
 ·exact R.more (by decide)
theorem Q9U(hw:Words s.L)(h:(0≤s.f.a∧s.f.a<4294967296)∧(0≤s.f.b∧s.f.b<4294967296))(cls:Int):FK 2 s (Q0Q cls s):=by
 have R:=Q9P (s:=s) 0 cls hw h
 unfold Q0Q
 split
 ·exact(R.goto _).more (by decide)
 ·exact R.more (by decide)
theorem Q7a(hw:Words s.L)(h:(0≤s.f.a∧s.f.a<4294967296)∧(0≤s.f.b∧s.f.b<4294967296))(q:Int)(ok:Bool)(nl:List Int)(hl:nl.length≤2):FK 2 s (Q1c q ok nl s):=by
 have R:=X1G (s:=s) 0 q nl hw h
 unfold Q1c
 split
 ·exact(R.fin _).more hl
 ·exact R.more hl
theorem Q8K(hw:Words s.L)(h:(0≤s.f.a∧s.f.a<4294967296)∧(0≤s.f.b∧s.f.b<4294967296)):FK 2 s (Q0z s):=by
 unfold Q0z
 split
 ·exact(((FK.refl h).did _).goto _).more (by decide)
 ·exact Q7a hw h _ _ _ (by decide)
theorem X2P(h:(0≤s.f.a∧s.f.a<4294967296)∧(0≤s.f.b∧s.f.b<4294967296)):FK 2 s (Q0B s):=by
 have R:=(FK.refl h)
 unfold Q0B
 split
 ·dsimp only
  split
  ·split
   ·exact(((R.waited _).note _ _).fin _).more (by decide)
   ·exact((R.waited _).fin _).more (by decide)
  ·split
   ·exact((R.waited _).note _ _).more (by decide)
   ·exact(R.waited _).more (by decide)
 ·exact R.more (by decide)
theorem Q8M(hw:Words s.L)(h:(0≤s.f.a∧s.f.a<4294967296)∧(0≤s.f.b∧s.f.b<4294967296)):FK 2 s (Q0A s):=by
 have R:=(FK.refl h)
 have hold:=fun b=>Q0s s.L hw b
 unfold Q0A
 split
 ·split
  ·exact((((R.did _).Q0h (hold _)).note _ _).fin _).more (by decide)
  ·exact((((R.did _).Q0h (hold _)).note _ _).goto _).more (by decide)
 split
 ·split
  ·exact(((R.did _).Q0h (hold _)).goto _).more (by decide)
  ·exact((((R.did _).Q0h (hold _)).note _ _).goto _).more (by decide)
 split
 ·exact(((R.did _).note _ _).fin _).more (by decide)
 ·exact Q7a hw h _ _ _ (by decide)
theorem X2Q(hw:Words s.L)(h:(0≤s.f.a∧s.f.a<4294967296)∧(0≤s.f.b∧s.f.b<4294967296)):FK 2 s (Q0C s):=by
 have R:=(FK.refl h)
 unfold Q0C
 split
 ·split
  ·exact((((R.did _).note _ _).wake _).fin _).more (by decide)
  ·exact R.more (by decide)
 split
 ·split
  ·exact((R.did _).goto _).more (by decide)
  ·exact Q7a hw h _ _ _ (by decide)
 ·exact R.more (by decide)
theorem Y7f(hw:Words s.L)(h:(0≤s.f.a∧s.f.a<4294967296)∧(0≤s.f.b∧s.f.b<4294967296)):FK 2 s (fqA s):=by
 unfold fqA
 split
 ·split
  ·exact Q9U hw h _
  ·exact Q8K hw h
 split
 ·split
  ·exact X0F h _ _
  ·exact Q8K hw h
 split
 ·split
  ·exact Q9U hw h _
  ·exact X2P h
 split
 ·exact Q7a hw h _ _ _ (by decide)
 split
 ·split
  ·exact X0F h _ _
  ·exact Q8M hw h
 split
 ·split
  ·exact X0F h _ _
  ·exact Q8M hw h
 ·exact X2Q hw h
end
theorem Y1D(s:Rn)(hw:Words s.L)(h:I64 s.n∧(0≤s.f.a∧s.f.a<4294967296)∧(0≤s.f.b∧s.f.b<4294967296)):Fine s (fqA s):=by
 have F:=Y7f hw h.2
 exact Q0f ⟨⟨by rw[F.1.1];exact h.1,F.2.1⟩,by have:=F.2.2;omega⟩
end
end Go.Proofs.YthnimpkoidablaaGreat.Z
