import Derived.Test.YthnimpkoidablaaGreatZA10
set_option linter.unusedVariables false
set_option linter.unusedSimpArgs false
set_option maxHeartbeats 1600000
namespace Go.Proofs.YthnimpkoidablaaGreat.Z
open Go.RowKit
attribute [local go_sem↓] Go.wp_at_zero Go.wp_at_succ
def Q4U(v:Int):Bool:=bits .and .u32 v 65536 !=0
theorem Y0w(v:Int)(w:World):Calls Tryz.prog 109 #[.int .u32 v] w fun e w'=>e= .returned (.bool (Q4U v))∧w=w':=by
 unfold Q4U
 go_enter Tryz.func109,Tryz.ntmps109
 go_wp2
 go_ret
 exact⟨rfl,rfl⟩
def Rn.ends(s:Rn)(wake:Bool)(l:List Int):Rn:=(if wake then(s.Q0d l).wake 0 else s.Q0d l).fin true
theorem Q9F{S0:List Nat}{w0 w:World}{m a r g n c:Nat}{l:List Int}{rs:List Res}{s:Rn}(H:Q0a S0 w0 m a r (.blk g (Q3S l).toArray::rs) s w)(hn:l.length=n)(hc:s.notes.length+l.length≤1000)(wake:Bool):
 Calls Tryz.prog 110 #[.pointer (some ⟨r,0,none⟩), .bool wake, .slice (some ⟨g,0,none⟩) n c] w fun e w'=>e= .returned (.tuple #[])∧Q0a S0 w0 m a r (.blk g (Q3S l).toArray::rs) (s.ends wake l) w':=by
 subst hn
 have hll:l.length≤1000:=by omega
 have HC:=Lib.hid hc
 have HH:=Lib.hid H
 clear hc H
 go_enter Tryz.func110,Tryz.ntmps110
 go_wp2_with fail
 go_loopw [10] (fun i wr=> ∃k:Nat,k≤l.length∧i= .int .i64 k∧Q0a S0 w0 m a r (.blk g (Q3S l).toArray::rs) (s.Q0d (l.take k)) wr) (fun i _=>l.length-(intOf i).toNat)
 case atStart=>exact⟨0,Nat.zero_le _,rfl,HH.out⟩
 case round=>
  obtain⟨k,hk,rfl,hH⟩:=hrel
  have HK:=Lib.hid hH
  clear hH
  by_cases hlt:k<l.length
  ·obtain⟨b,off,hb,hbl,hcell⟩:=X2G (X7F HK.out.first) hlt
   simp only[Option.some.injEq,Addr.mk.injEq]at hb
   obtain⟨rfl,rfl,_⟩:=hb
   obtain⟨x,hx⟩: ∃x,l.getD k 0=x:=⟨_,rfl⟩
   rw[hx,Nat.zero_add]at hcell
   have HX:=Lib.hid hx
   clear hx
   have hi:(k:Int)<(l.length:Int):=by omega
   go_wp2_with fail
   refine(Q0r HK.out (by rw[Q6w];have:=HC.out;simp only[List.length_take];omega) x 0).mono ?_
   rintro e w1⟨rfl,H1⟩
   go_wp2
   go_roundw
   case rel=>exact⟨k+1,by omega,by go_num,by rw[Q7s s l k hlt,HX.out];exact H1⟩
   case measure=>simp[intOf];omega
  ·have hkn:k=l.length:=by omega
   subst hkn
   have hi:(l.length:Int)≤(l.length:Int):=Int.le_refl _
   have H2:=HK.out
   rw[List.take_length]at H2
   clear HK hlt hk
   cases wake with
   |true=>
    go_wp2_with fail
    refine(Q3l H2 0).mono ?_
    rintro e w1⟨rfl,H3⟩
    go_wp2_with fail
    refine(Q1x H3 true).mono ?_
    rintro e w2⟨rfl,H4⟩
    go_wp2_with fail
    go_end0
    exact⟨rfl,H4⟩
   |false=>
    go_wp2_with fail
    refine(Q1x H2 true).mono ?_
    rintro e w2⟨rfl,H4⟩
    go_wp2_with fail
    go_end0
    exact⟨rfl,H4⟩
def Rn.refused(s:Rn):Rn:=(s.note 5 0).fin false
theorem X7h{S0:List Nat}{w0 w:World}{m a r:Nat}{rs:List Res}{s:Rn}(H:Q0a S0 w0 m a r rs s w)(hc:s.notes.length≤1000):
 Calls Tryz.prog 181 #[.pointer (some ⟨r,0,none⟩)] w fun e w'=>e= .returned (.tuple #[])∧Q0a S0 w0 m a r rs s.refused w':=by
 go_enter Tryz.func181,Tryz.ntmps181
 go_wp2_with fail
 refine(Q0r H hc 5 0).mono ?_
 rintro e w1⟨rfl,H1⟩
 go_wp2_with fail
 refine(Q1x H1 false).mono ?_
 rintro e w2⟨rfl,H2⟩
 go_wp2_with fail
 go_end0
 exact⟨rfl,H2⟩
theorem X4G(x:Int)(w:World):
 Calls Tryz.prog 113 #[.int .u32 x] w fun e w'=>e= .returned (.func (.func 148) #[] #[.pointer (some ⟨w.heap.size,0,none⟩)])∧w.alloc (.cells #[.int .u32 x] 22)=w':=by
 go_enter Tryz.func113,Tryz.ntmps113
 go_wp2
 go_ret
 exact⟨rfl,rfl⟩
theorem X7j(x v:Int){b:Nat}(w:World)(hb:Blk w b #[.int .u32 x]):
 Calls Tryz.prog 148 #[.int .u32 v, .pointer (some ⟨b,0,none⟩)] w fun e w'=>e= .returned (.bool (v==x))∧Touch [] w w':=by
 obtain⟨x0,x1,x2⟩:=hb.own
 go_enter Tryz.func148,Tryz.ntmps148
 go_wp2
 go_ret
 exact⟨rfl,Touch.refl _ _⟩
theorem Y3z(v:Int)(w:World):
 Calls Tryz.prog 111 #[.int .u32 v] w fun e w'=>e= .returned (.bool (!Q4U v))∧Touch [] w w':=by
 go_enter Tryz.func111,Tryz.ntmps111
 go_wp2_with fail
 refine(Y0w v _).mono ?_
 rintro e w1⟨rfl,rfl⟩
 go_wp2
 go_ret
 exact⟨rfl,Touch.refl _ _⟩
theorem Y0x(v:Int)(w:World):
 Calls Tryz.prog 150 #[.int .u32 v] w fun e w'=>e= .returned (.bool (!Q4U v))∧Touch [] w w':=by
 go_enter Tryz.func150,Tryz.ntmps150
 go_wp2_with fail
 refine(Y0w v _).mono ?_
 rintro e w1⟨rfl,rfl⟩
 go_wp2
 go_ret
 exact⟨rfl,Touch.refl _ _⟩
def Rn.chosen(s:Rn)(p:Int→Bool):Rn:=
 let R:=doA s.L ⟨1,0,0,0,0⟩
 if p R.1.old then((s.did R).Q0h R.1.old).goto 1 else((s.did R).Q0h R.1.old).refused
theorem Q8o{S0:List Nat}{w0 w:World}{m a r:Nat}{rs:List Res}{s:Rn}(H:Q0a S0 w0 m a r rs s w)(hc:s.notes.length≤900){o l:Int}(hop:s.f.op=o)(hl:s.f.line=l)(fid:FuncId)(first cap:Array Value)(p:Int→Bool)(eg: ∀args w,(callFunc fid args).run Tryz.prog w= .ok (.enter fid args) w)
 (hF: ∀W v s',Q0a S0 w0 m a r rs s' W→Calls Tryz.prog fid (first++ #[.int .u32 v]++cap) W fun e W'=>e= .returned (.bool (p v))∧Touch [] W W'):
 Calls Tryz.prog 149 #[.pointer (some ⟨r,0,none⟩), .func (.func fid) first cap] w fun e w'=>e= .returned (.tuple #[])∧Q0a S0 w0 m a r rs (s.chosen p) w':=by
 have HC:=Lib.hid hc
 have HF:=Lib.hid hF
 have HH:=Lib.hid H
 clear hc H hF
 unfold Rn.chosen
 cases hb:p (doA s.L ⟨1,0,0,0,0⟩).1.old with
 |true=>
  simp only[if_true]
  go_enter Tryz.func149,Tryz.ntmps149
  go_wp2_with fail
  refine(Q1r HH.out 0).mono ?_
  rintro e w1⟨rfl,H1⟩
  obtain⟨x0,x2,x4,x5,x6,x7⟩:=H1.facts hop hl rfl rfl
  go_wp2_with fail
  refine(HF.out _ _ _ (H1.Q0h _)).mono ?_
  rw[hb]
  rintro e w2⟨rfl,t2⟩
  have H2:=(H1.Q0h (doA s.L ⟨1,0,0,0,0⟩).1.old).grow t2
  go_wp2_with fail
  refine(Q1j H2 1).mono ?_
  rintro e w3⟨rfl,H3⟩
  go_wp2_with fail
  go_end0
  exact⟨rfl,H3⟩
 |false=>
  simp only[Bool.false_eq_true,if_false]
  go_enter Tryz.func149,Tryz.ntmps149
  go_wp2_with fail
  refine(Q1r HH.out 0).mono ?_
  rintro e w1⟨rfl,H1⟩
  obtain⟨x0,x2,x4,x5,x6,x7⟩:=H1.facts hop hl rfl rfl
  go_wp2_with fail
  refine(HF.out _ _ _ (H1.Q0h _)).mono ?_
  rw[hb]
  rintro e w2⟨rfl,t2⟩
  have H2:=(H1.Q0h (doA s.L ⟨1,0,0,0,0⟩).1.old).grow t2
  go_wp2_with fail
  refine(X7h H2 (by have:=HC.out;first|exact Nat.le_trans this (by decide)|(simp[Rn.note,Rn.did,Rn.Q0h,Rn.setB,Rn.waited,Rn.goto,Rn.Q0d];omega))).mono ?_
  rintro e w3⟨rfl,H3⟩
  go_wp2_with fail
  all_goals refine bodyPost_ret (v:= .tuple #[]) (by simp[results,Tryz.results149,go_sem]) rfl ⟨rfl,H3⟩
def Rn.swapped(s:Rn)(x y:Int)(g:Rn→Rn)(note:Int):Rn:=
 if Q7N s.L 0 x y then(g (s.did (doA s.L ⟨5,0,x,y,0⟩))).ends false [note]else(s.did (doA s.L ⟨5,0,x,y,0⟩)).goto 0
theorem X2l{S0:List Nat}{w0 w:World}{m a r:Nat}{rs:List Res}{s:Rn}(H:Q0a S0 w0 m a r rs s w)(hc:s.notes.length≤900)(fid:FuncId)(cap:Array Value)(g:Rn→Rn)(hg: ∀s,(g s).notes.length≤s.notes.length+1)(eg: ∀args w,(callFunc fid args).run Tryz.prog w= .ok (.enter fid args) w)(x y note:Int)(hx:0≤x∧x<4294967296)(hy:0≤y∧y<4294967296)
 (hF: ∀W s',s'.notes=s.notes→Q0a S0 w0 m a r rs s' W→Calls Tryz.prog fid cap W fun e W'=>e= .returned (.tuple #[])∧Q0a S0 w0 m a r rs (g s') W'):
 Calls Tryz.prog 151 #[.pointer (some ⟨r,0,none⟩), .int .u32 x, .int .u32 y, .func (.func fid) #[] cap, .int .i64 note] w fun e w'=>e= .returned (.tuple #[])∧Q0a S0 w0 m a r rs (s.swapped x y g note) w':=by
 have HC:=Lib.hid hc
 have HF:=Lib.hid hF
 have HH:=Lib.hid H
 have HX:=Lib.hid hx
 have HY:=Lib.hid hy
 clear hc H hF hx hy
 unfold Rn.swapped
 have hcas:=fun W (H:Q0a S0 w0 m a r rs s W)=>Q6m H 0 x y HX.out HY.out
 cases hb:Q7N s.L 0 x y with
 |true=>
  rw[hb]at hcas
  simp only[if_true]
  have HCAS:=Lib.hid hcas
  clear hcas hb
  go_enter Tryz.func151,Tryz.ntmps151
  go_wp2_with fail
  refine(HCAS.out _ HH.out).mono ?_
  rintro e w1⟨rfl,H1⟩
  go_wp2_with fail
  refine(HF.out _ (s.did (doA s.L ⟨5,0,x,y,0⟩)) rfl H1).mono ?_
  rintro e w2⟨rfl,H2⟩
  go_wp2_with fail
  refine(Q9F (l:=[note]) (H2.box rfl _ _) rfl (by have:=hg (s.did (doA s.L ⟨5,0,x,y,0⟩));have h2:=HC.out;have h3:(s.did (doA s.L ⟨5,0,x,y,0⟩)).notes=s.notes:=rfl;rw[h3]at this;simp only[List.length_cons,List.length_nil];omega) false).mono ?_
  rintro e w3⟨rfl,H3⟩
  go_wp2_with fail
  go_end0
  exact⟨rfl,H3.Q0N⟩
 |false=>
  rw[hb]at hcas
  simp only[Bool.false_eq_true,if_false]
  have HCAS:=Lib.hid hcas
  clear hcas hb
  go_enter Tryz.func151,Tryz.ntmps151
  go_wp2_with fail
  refine(HCAS.out _ HH.out).mono ?_
  rintro e w1⟨rfl,H1⟩
  go_wp2_with fail
  refine(Q1j H1 0).mono ?_
  rintro e w2⟨rfl,H2⟩
  go_wp2_with fail
  refine bodyPost_ret (v:= .tuple #[]) (by simp[results,Tryz.results151,go_sem]) rfl ⟨rfl,H2⟩
attribute [local go_sem↓] Go.wp_at_zero Go.wp_at_succ
def Y5l(s:Rn):Rn:=
 let s1:=((s.did (doA s.L ⟨3,0,1,0,0⟩)).Q0h (doA s.L ⟨3,0,1,0,0⟩).1.old).note 2 1
 if Q4U (doA s.L ⟨3,0,1,0,0⟩).1.old then s1.goto 1 else s1.ends false [4]
theorem rf_10{S0:List Nat}{w0 w:World}{m a r:Nat}{rs:List Res}{s:Rn}(H:Q0a S0 w0 m a r rs s w)(hop:s.f.op=1)(hl:s.f.line=0)(hn:I64 s.n)(hc:s.notes.length≤900):
 Calls Tryz.prog 71 #[.pointer (some ⟨r,0,none⟩)] w fun e w'=>e= .returned (.tuple #[])∧Q0a S0 w0 m a r rs (Y5l s) w':=by
 obtain⟨z0,z2,z4,z5,z6,z7⟩:=H.facts hop hl rfl rfl
 have HC:=Lib.hid hc
 have HH:=Lib.hid H
 have HN:=Lib.hid hn
 clear hc H hn
 unfold Y5l
 cases hb:Q4U (doA s.L ⟨3,0,1,0,0⟩).1.old with
 |true=>
  simp only[if_true]
  go_enter Tryz.func71,Tryz.ntmps71
  go_wp2_with fail
  go_quiet (fail)
  have HW:=HH.out.drewN nq
  clear z0 z2 z4 z5 z6 z7
  generalize w.drewN nq=W at HW⊢
  obtain⟨z0,z2,z4,z5,z6,z7⟩:=HW.facts hop hl rfl rfl
  go_wp2_with fail
  refine(Q2f HW 0 1 (by decide)).mono ?_
  rintro e w1⟨rfl,H1⟩
  obtain⟨x0,x2,x4,x5,x6,x7⟩:=H1.facts hop hl rfl rfl
  go_wp2_with fail
  refine(Q0r (H1.Q0h (doA s.L ⟨3,0,1,0,0⟩).1.old) (by have:=HC.out;first|exact Nat.le_trans this (by decide)|(simp[Rn.note,Rn.did,Rn.Q0h,Rn.setB,Rn.waited,Rn.goto,Rn.Q0d];omega)) 2 1).mono ?_
  rintro e w2⟨rfl,H2⟩
  obtain⟨x0,x2,x4,x5,x6,x7⟩:=H2.facts hop hl (x:=(doA s.L ⟨3,0,1,0,0⟩).1.old) rfl rfl
  go_wp2_with fail
  refine(Y0w _ _).mono ?_
  rw[hb]
  rintro e w9⟨rfl,rfl⟩
  go_wp2_with fail
  refine(Q1j H2 1).mono ?_
  rintro e w3⟨rfl,H3⟩
  go_wp2_with fail
  go_end0
  exact⟨rfl,H3⟩
 |false=>
  simp only[Bool.false_eq_true,if_false]
  go_enter Tryz.func71,Tryz.ntmps71
  go_wp2_with fail
  go_quiet (fail)
  have HW:=HH.out.drewN nq
  clear z0 z2 z4 z5 z6 z7
  generalize w.drewN nq=W at HW⊢
  obtain⟨z0,z2,z4,z5,z6,z7⟩:=HW.facts hop hl rfl rfl
  go_wp2_with fail
  refine(Q2f HW 0 1 (by decide)).mono ?_
  rintro e w1⟨rfl,H1⟩
  obtain⟨x0,x2,x4,x5,x6,x7⟩:=H1.facts hop hl rfl rfl
  go_wp2_with fail
  refine(Q0r (H1.Q0h (doA s.L ⟨3,0,1,0,0⟩).1.old) (by have:=HC.out;first|exact Nat.le_trans this (by decide)|(simp[Rn.note,Rn.did,Rn.Q0h,Rn.setB,Rn.waited,Rn.goto,Rn.Q0d];omega)) 2 1).mono ?_
  rintro e w2⟨rfl,H2⟩
  obtain⟨x0,x2,x4,x5,x6,x7⟩:=H2.facts hop hl (x:=(doA s.L ⟨3,0,1,0,0⟩).1.old) rfl rfl
  go_wp2_with fail
  refine(Y0w _ _).mono ?_
  rw[hb]
  rintro e w9⟨rfl,rfl⟩
  go_wp2_with fail
  refine(Q9F (l:=[4]) (H2.box rfl _ _) rfl (by have:=HC.out;simp[Rn.note,Rn.did,Rn.Q0h,Rn.setB,Rn.waited,Rn.goto];omega) false).mono ?_
  rintro e w3⟨rfl,H3⟩
  go_wp2_with fail
  go_end0
  exact⟨rfl,H3.Q0N⟩
def Y3D(s:Rn):Rn:=
 let s1:=s.waited (Q0t s.L s.n s.mode s.task s.f.st 0 (fun v=> !Q4U v))
 let s2:=if(Q0t s.L s.n s.mode s.task s.f.st 0 (fun v=> !Q4U v)).seen then s1.note 4 0 else s1
 if(Q0t s.L s.n s.mode s.task s.f.st 0 (fun v=> !Q4U v)).done then s2.fin true else s2
theorem rf_11{S0:List Nat}{w0 w:World}{m a r:Nat}{rs:List Res}{s:Rn}(H:Q0a S0 w0 m a r rs s w)(hop:s.f.op=1)(hl:s.f.line=1)(hn:I64 s.n)(hc:s.notes.length≤900):
 Calls Tryz.prog 71 #[.pointer (some ⟨r,0,none⟩)] w fun e w'=>e= .returned (.tuple #[])∧Q0a S0 w0 m a r rs (Y3D s) w':=by
 obtain⟨z0,z2,z4,z5,z6,z7⟩:=H.facts hop hl rfl rfl
 have HC:=Lib.hid hc
 have HH:=Lib.hid H
 have HN:=Lib.hid hn
 clear hc H hn
 unfold Y3D
 have hwt:=fun(V:World) W (H:Q0a S0 w0 m a r rs s W)=>Q3m H HN.out 0 111 #[] #[] (fun v=> !Q4U v) (enters_of Tryz.func111 (by kernel_rfl) rfl) (fun W v _ _ _=>Y3z v W)
 cases hs:(Q0t s.L s.n s.mode s.task s.f.st 0 (fun v=> !Q4U v)).seen<;>cases hd:(Q0t s.L s.n s.mode s.task s.f.st 0 (fun v=> !Q4U v)).done<;>rw[hs,hd]at hwt<;>simp only[if_true,Bool.false_eq_true,if_false]<;>(have HWT:=Lib.hid hwt)<;>clear hwt hs hd
 ·go_enter Tryz.func71,Tryz.ntmps71
  go_wp2_with fail
  go_quiet (fail)
  have HW:=HH.out.drewN nq
  clear z0 z2 z4 z5 z6 z7
  generalize w.drewN nq=W at HW⊢
  obtain⟨z0,z2,z4,z5,z6,z7⟩:=HW.facts hop hl rfl rfl
  go_wp2_with fail
  refine(HWT.out W _ HW).mono ?_
  rintro e w1⟨rfl,H1⟩
  obtain⟨x0,x2,x4,x5,x6,x7⟩:=H1.facts hop hl rfl rfl
  go_wp2_with fail
  go_end0
  exact⟨rfl,H1⟩
 ·go_enter Tryz.func71,Tryz.ntmps71
  go_wp2_with fail
  go_quiet (fail)
  have HW:=HH.out.drewN nq
  clear z0 z2 z4 z5 z6 z7
  generalize w.drewN nq=W at HW⊢
  obtain⟨z0,z2,z4,z5,z6,z7⟩:=HW.facts hop hl rfl rfl
  go_wp2_with fail
  refine(HWT.out W _ HW).mono ?_
  rintro e w1⟨rfl,H1⟩
  obtain⟨x0,x2,x4,x5,x6,x7⟩:=H1.facts hop hl rfl rfl
  go_wp2_with fail
  refine(Q1x H1 true).mono ?_
  rintro e w2⟨rfl,H2⟩
  go_wp2_with fail
  go_end0
  exact⟨rfl,H2⟩
 ·go_enter Tryz.func71,Tryz.ntmps71
  go_wp2_with fail
  go_quiet (fail)
  have HW:=HH.out.drewN nq
  clear z0 z2 z4 z5 z6 z7
  generalize w.drewN nq=W at HW⊢
  obtain⟨z0,z2,z4,z5,z6,z7⟩:=HW.facts hop hl rfl rfl
  go_wp2_with fail
  refine(HWT.out W _ HW).mono ?_
  rintro e w1⟨rfl,H1⟩
  obtain⟨x0,x2,x4,x5,x6,x7⟩:=H1.facts hop hl rfl rfl
  go_wp2_with fail
  refine(Q0r H1 (by have:=HC.out;first|exact Nat.le_trans this (by decide)|(simp[Rn.note,Rn.did,Rn.Q0h,Rn.setB,Rn.waited,Rn.goto,Rn.Q0d];omega)) 4 0).mono ?_
  rintro e w2⟨rfl,H2⟩
  obtain⟨x0,x2,x4,x5,x6,x7⟩:=H2.facts hop hl rfl rfl
  go_wp2_with fail
  go_end0
  exact⟨rfl,H2⟩
 ·go_enter Tryz.func71,Tryz.ntmps71
  go_wp2_with fail
  go_quiet (fail)
  have HW:=HH.out.drewN nq
  clear z0 z2 z4 z5 z6 z7
  generalize w.drewN nq=W at HW⊢
  obtain⟨z0,z2,z4,z5,z6,z7⟩:=HW.facts hop hl rfl rfl
  go_wp2_with fail
  refine(HWT.out W _ HW).mono ?_
  rintro e w1⟨rfl,H1⟩
  obtain⟨x0,x2,x4,x5,x6,x7⟩:=H1.facts hop hl rfl rfl
  go_wp2_with fail
  refine(Q0r H1 (by have:=HC.out;first|exact Nat.le_trans this (by decide)|(simp[Rn.note,Rn.did,Rn.Q0h,Rn.setB,Rn.waited,Rn.goto,Rn.Q0d];omega)) 4 0).mono ?_
  rintro e w2⟨rfl,H2⟩
  obtain⟨x0,x2,x4,x5,x6,x7⟩:=H2.facts hop hl rfl rfl
  go_wp2_with fail
  refine(Q1x H2 true).mono ?_
  rintro e w3⟨rfl,H3⟩
  go_wp2_with fail
  go_end0
  exact⟨rfl,H3⟩
def Y5k(s:Rn):Rn:=
 (s.did (doA s.L ⟨3,0,4294967295,0,0⟩)).ends true [6]
theorem rf_20{S0:List Nat}{w0 w:World}{m a r:Nat}{rs:List Res}{s:Rn}(H:Q0a S0 w0 m a r rs s w)(hop:s.f.op=2)(hl:s.f.line=0)(hn:I64 s.n)(hc:s.notes.length≤900):
 Calls Tryz.prog 71 #[.pointer (some ⟨r,0,none⟩)] w fun e w'=>e= .returned (.tuple #[])∧Q0a S0 w0 m a r rs (Y5k s) w':=by
 obtain⟨z0,z2,z4,z5,z6,z7⟩:=H.facts hop hl rfl rfl
 have HC:=Lib.hid hc
 have HH:=Lib.hid H
 have HN:=Lib.hid hn
 clear hc H hn
 unfold Y5k
 go_enter Tryz.func71,Tryz.ntmps71
 go_wp2_with fail
 go_quiet (fail)
 have HW:=HH.out.drewN nq
 clear z0 z2 z4 z5 z6 z7
 generalize w.drewN nq=W at HW⊢
 obtain⟨z0,z2,z4,z5,z6,z7⟩:=HW.facts hop hl rfl rfl
 go_wp2_with fail
 refine(Q2f HW 0 4294967295 (by decide)).mono ?_
 rintro e w1⟨rfl,H1⟩
 obtain⟨x0,x2,x4,x5,x6,x7⟩:=H1.facts hop hl rfl rfl
 go_wp2_with fail
 refine(Q9F (l:=[6]) (H1.box rfl _ _) rfl (by have:=HC.out;simp[Rn.note,Rn.did,Rn.Q0h,Rn.setB,Rn.waited,Rn.goto];omega) true).mono ?_
 rintro e w2⟨rfl,H2⟩
 go_wp2_with fail
 go_end0
 exact⟨rfl,H2.Q0N⟩
def Y5j(s:Rn):Rn:=
 let s1:=(((s.did (doA s.L ⟨1,0,0,0,0⟩)).Q0h (doA s.L ⟨1,0,0,0,0⟩).1.old).note 2 2).goto 2
 if(doA s.L ⟨1,0,0,0,0⟩).1.old=0 then s1.goto 1 else s1
theorem rf_30{S0:List Nat}{w0 w:World}{m a r:Nat}{rs:List Res}{s:Rn}(H:Q0a S0 w0 m a r rs s w)(hop:s.f.op=3)(hl:s.f.line=0)(hn:I64 s.n)(hc:s.notes.length≤900):
 Calls Tryz.prog 71 #[.pointer (some ⟨r,0,none⟩)] w fun e w'=>e= .returned (.tuple #[])∧Q0a S0 w0 m a r rs (Y5j s) w':=by
 obtain⟨z0,z2,z4,z5,z6,z7⟩:=H.facts hop hl rfl rfl
 have HC:=Lib.hid hc
 have HH:=Lib.hid H
 have HN:=Lib.hid hn
 clear hc H hn
 unfold Y5j
 by_cases hv:(doA s.L ⟨1,0,0,0,0⟩).1.old=0
 ·simp only[if_pos hv]
  have HV:=Lib.hid hv
  clear hv
  go_enter Tryz.func71,Tryz.ntmps71
  go_wp2_with fail
  go_quiet (fail)
  have HW:=HH.out.drewN nq
  clear z0 z2 z4 z5 z6 z7
  generalize w.drewN nq=W at HW⊢
  obtain⟨z0,z2,z4,z5,z6,z7⟩:=HW.facts hop hl rfl rfl
  go_wp2_with fail
  refine(Q1r HW 0).mono ?_
  rintro e w1⟨rfl,H1⟩
  obtain⟨x0,x2,x4,x5,x6,x7⟩:=H1.facts hop hl rfl rfl
  go_wp2_with fail
  refine(Q0r (H1.Q0h (doA s.L ⟨1,0,0,0,0⟩).1.old) (by have:=HC.out;first|exact Nat.le_trans this (by decide)|(simp[Rn.note,Rn.did,Rn.Q0h,Rn.setB,Rn.waited,Rn.goto,Rn.Q0d];omega)) 2 2).mono ?_
  rintro e w2⟨rfl,H2⟩
  obtain⟨x0,x2,x4,x5,x6,x7⟩:=H2.facts hop hl (x:=(doA s.L ⟨1,0,0,0,0⟩).1.old) rfl rfl
  go_wp2_with fail
  refine(Q1j H2 2).mono ?_
  rintro e w3⟨rfl,H3⟩
  obtain⟨x0,x2,x4,x5,x6,x7⟩:=H3.facts hop (l:=2) rfl (x:=(doA s.L ⟨1,0,0,0,0⟩).1.old) rfl rfl
  rw[HV.out]at x6
  go_wp2_with fail
  refine(Q1j H3 1).mono ?_
  rintro e w4⟨rfl,H4⟩
  go_wp2_with fail
  go_end0
  exact⟨rfl,H4⟩
 ·simp only[if_neg hv]
  have HV:=Lib.hid hv
  clear hv
  go_enter Tryz.func71,Tryz.ntmps71
  go_wp2_with fail
  go_quiet (fail)
  have HW:=HH.out.drewN nq
  clear z0 z2 z4 z5 z6 z7
  generalize w.drewN nq=W at HW⊢
  obtain⟨z0,z2,z4,z5,z6,z7⟩:=HW.facts hop hl rfl rfl
  go_wp2_with fail
  refine(Q1r HW 0).mono ?_
  rintro e w1⟨rfl,H1⟩
  obtain⟨x0,x2,x4,x5,x6,x7⟩:=H1.facts hop hl rfl rfl
  go_wp2_with fail
  refine(Q0r (H1.Q0h (doA s.L ⟨1,0,0,0,0⟩).1.old) (by have:=HC.out;first|exact Nat.le_trans this (by decide)|(simp[Rn.note,Rn.did,Rn.Q0h,Rn.setB,Rn.waited,Rn.goto,Rn.Q0d];omega)) 2 2).mono ?_
  rintro e w2⟨rfl,H2⟩
  obtain⟨x0,x2,x4,x5,x6,x7⟩:=H2.facts hop hl (x:=(doA s.L ⟨1,0,0,0,0⟩).1.old) rfl rfl
  go_wp2_with fail
  refine(Q1j H2 2).mono ?_
  rintro e w3⟨rfl,H3⟩
  obtain⟨x0,x2,x4,x5,x6,x7⟩:=H3.facts hop (l:=2) rfl (x:=(doA s.L ⟨1,0,0,0,0⟩).1.old) rfl rfl
  have hne:((doA s.L ⟨1,0,0,0,0⟩).1.old==0)=false:=by simpa using HV.out
  go_wp2_with fail
  go_end0
  exact⟨rfl,H3⟩
def Y5i(s:Rn):Rn:=
 let s1:=s.did (doA s.L ⟨5,0,0,65536,0⟩)
 if Q7N s.L 0 0 65536 then s1.ends false [4]else s1.goto 2
theorem rf_31{S0:List Nat}{w0 w:World}{m a r:Nat}{rs:List Res}{s:Rn}(H:Q0a S0 w0 m a r rs s w)(hop:s.f.op=3)(hl:s.f.line=1)(hn:I64 s.n)(hc:s.notes.length≤900):
 Calls Tryz.prog 71 #[.pointer (some ⟨r,0,none⟩)] w fun e w'=>e= .returned (.tuple #[])∧Q0a S0 w0 m a r rs (Y5i s) w':=by
 obtain⟨z0,z2,z4,z5,z6,z7⟩:=H.facts hop hl rfl rfl
 have HC:=Lib.hid hc
 have HH:=Lib.hid H
 have HN:=Lib.hid hn
 clear hc H hn
 unfold Y5i
 have hcas:=fun W (H:Q0a S0 w0 m a r rs s W)=>Q6m H 0 0 65536 (by decide) (by decide)
 cases hb:Q7N s.L 0 0 65536 with
 |true=>
  rw[hb]at hcas
  have HCAS:=Lib.hid hcas
  clear hcas
  simp only[if_true]
  go_enter Tryz.func71,Tryz.ntmps71
  go_wp2_with fail
  go_quiet (fail)
  have HW:=HH.out.drewN nq
  clear z0 z2 z4 z5 z6 z7
  generalize w.drewN nq=W at HW⊢
  obtain⟨z0,z2,z4,z5,z6,z7⟩:=HW.facts hop hl rfl rfl
  go_wp2_with fail
  refine(HCAS.out _ HW).mono ?_
  rintro e w1⟨rfl,H1⟩
  obtain⟨x0,x2,x4,x5,x6,x7⟩:=H1.facts hop hl rfl rfl
  go_wp2_with fail
  refine(Q9F (l:=[4]) (H1.box rfl _ _) rfl (by have:=HC.out;simp[Rn.note,Rn.did,Rn.Q0h,Rn.setB,Rn.waited,Rn.goto];omega) false).mono ?_
  rintro e w2⟨rfl,H2⟩
  go_wp2_with fail
  go_end0
  exact⟨rfl,H2.Q0N⟩
 |false=>
  rw[hb]at hcas
  have HCAS:=Lib.hid hcas
  clear hcas
  simp only[Bool.false_eq_true,if_false]
  go_enter Tryz.func71,Tryz.ntmps71
  go_wp2_with fail
  go_quiet (fail)
  have HW:=HH.out.drewN nq
  clear z0 z2 z4 z5 z6 z7
  generalize w.drewN nq=W at HW⊢
  obtain⟨z0,z2,z4,z5,z6,z7⟩:=HW.facts hop hl rfl rfl
  go_wp2_with fail
  refine(HCAS.out _ HW).mono ?_
  rintro e w1⟨rfl,H1⟩
  obtain⟨x0,x2,x4,x5,x6,x7⟩:=H1.facts hop hl rfl rfl
  go_wp2_with fail
  refine(Q1j H1 2).mono ?_
  rintro e w2⟨rfl,H2⟩
  go_wp2_with fail
  go_end0
  exact⟨rfl,H2⟩
def Y3C(s:Rn):Rn:=
 let s1:=s.waited (Q0t s.L s.n s.mode s.task s.f.st 0 (fun v=>v==0))
 if(Q0t s.L s.n s.mode s.task s.f.st 0 (fun v=>v==0)).done then s1.goto 1 else s1
theorem rf_32{S0:List Nat}{w0 w:World}{m a r:Nat}{rs:List Res}{s:Rn}(H:Q0a S0 w0 m a r rs s w)(hop:s.f.op=3)(hl:s.f.line=2)(hn:I64 s.n)(hc:s.notes.length≤900):
 Calls Tryz.prog 71 #[.pointer (some ⟨r,0,none⟩)] w fun e w'=>e= .returned (.tuple #[])∧Q0a S0 w0 m a r rs (Y3C s) w':=by
 obtain⟨z0,z2,z4,z5,z6,z7⟩:=H.facts hop hl rfl rfl
 have HC:=Lib.hid hc
 have HH:=Lib.hid H
 have HN:=Lib.hid hn
 clear hc H hn
 unfold Y3C
 have hwt:=fun(V:World) W (H:Q0a S0 w0 m a r (.blk V.heap.size #[.int .u32 0]::rs) s W)=>Q3m H HN.out 0 148 #[] #[.pointer (some ⟨V.heap.size,0,none⟩)] (fun v=>v==0) (enters_of Tryz.func148 (by kernel_rfl) rfl) (fun W v _ _ H=>X7j 0 v W H.first)
 cases hs:(Q0t s.L s.n s.mode s.task s.f.st 0 (fun v=>v==0)).seen<;>cases hd:(Q0t s.L s.n s.mode s.task s.f.st 0 (fun v=>v==0)).done<;>rw[hs,hd]at hwt<;>simp only[if_true,Bool.false_eq_true,if_false]<;>(have HWT:=Lib.hid hwt)<;>clear hwt hs hd
 ·go_enter Tryz.func71,Tryz.ntmps71
  go_wp2_with fail
  go_quiet (fail)
  have HW:=HH.out.drewN nq
  clear z0 z2 z4 z5 z6 z7
  generalize w.drewN nq=W at HW⊢
  obtain⟨z0,z2,z4,z5,z6,z7⟩:=HW.facts hop hl rfl rfl
  go_wp2_with fail
  refine(X4G 0 _).mono ?_
  rintro e w9⟨rfl,rfl⟩
  go_wp2_with fail
  refine(HWT.out W _ (HW.box rfl _ _)).mono ?_
  rintro e w1⟨rfl,H1⟩
  obtain⟨x0,x2,x4,x5,x6,x7⟩:=H1.facts hop hl rfl rfl
  go_wp2_with fail
  go_end0
  exact⟨rfl,H1.Q0N⟩
 ·go_enter Tryz.func71,Tryz.ntmps71
  go_wp2_with fail
  go_quiet (fail)
  have HW:=HH.out.drewN nq
  clear z0 z2 z4 z5 z6 z7
  generalize w.drewN nq=W at HW⊢
  obtain⟨z0,z2,z4,z5,z6,z7⟩:=HW.facts hop hl rfl rfl
  go_wp2_with fail
  refine(X4G 0 _).mono ?_
  rintro e w9⟨rfl,rfl⟩
  go_wp2_with fail
  refine(HWT.out W _ (HW.box rfl _ _)).mono ?_
  rintro e w1⟨rfl,H1⟩
  obtain⟨x0,x2,x4,x5,x6,x7⟩:=H1.facts hop hl rfl rfl
  go_wp2_with fail
  refine(Q1j H1 1).mono ?_
  rintro e w2⟨rfl,H2⟩
  go_wp2_with fail
  go_end0
  exact⟨rfl,H2.Q0N⟩
 ·go_enter Tryz.func71,Tryz.ntmps71
  go_wp2_with fail
  go_quiet (fail)
  have HW:=HH.out.drewN nq
  clear z0 z2 z4 z5 z6 z7
  generalize w.drewN nq=W at HW⊢
  obtain⟨z0,z2,z4,z5,z6,z7⟩:=HW.facts hop hl rfl rfl
  go_wp2_with fail
  refine(X4G 0 _).mono ?_
  rintro e w9⟨rfl,rfl⟩
  go_wp2_with fail
  refine(HWT.out W _ (HW.box rfl _ _)).mono ?_
  rintro e w1⟨rfl,H1⟩
  obtain⟨x0,x2,x4,x5,x6,x7⟩:=H1.facts hop hl rfl rfl
  go_wp2_with fail
  go_end0
  exact⟨rfl,H1.Q0N⟩
 ·go_enter Tryz.func71,Tryz.ntmps71
  go_wp2_with fail
  go_quiet (fail)
  have HW:=HH.out.drewN nq
  clear z0 z2 z4 z5 z6 z7
  generalize w.drewN nq=W at HW⊢
  obtain⟨z0,z2,z4,z5,z6,z7⟩:=HW.facts hop hl rfl rfl
  go_wp2_with fail
  refine(X4G 0 _).mono ?_
  rintro e w9⟨rfl,rfl⟩
  go_wp2_with fail
  refine(HWT.out W _ (HW.box rfl _ _)).mono ?_
  rintro e w1⟨rfl,H1⟩
  obtain⟨x0,x2,x4,x5,x6,x7⟩:=H1.facts hop hl rfl rfl
  go_wp2_with fail
  refine(Q1j H1 1).mono ?_
  rintro e w2⟨rfl,H2⟩
  go_wp2_with fail
  go_end0
  exact⟨rfl,H2.Q0N⟩
def Y5h(s:Rn):Rn:=
 (s.did (doA s.L ⟨3,0,4294901760,0,0⟩)).ends true [7,8]
theorem rf_40{S0:List Nat}{w0 w:World}{m a r:Nat}{rs:List Res}{s:Rn}(H:Q0a S0 w0 m a r rs s w)(hop:s.f.op=4)(hl:s.f.line=0)(hn:I64 s.n)(hc:s.notes.length≤900):
 Calls Tryz.prog 71 #[.pointer (some ⟨r,0,none⟩)] w fun e w'=>e= .returned (.tuple #[])∧Q0a S0 w0 m a r rs (Y5h s) w':=by
 obtain⟨z0,z2,z4,z5,z6,z7⟩:=H.facts hop hl rfl rfl
 have HC:=Lib.hid hc
 have HH:=Lib.hid H
 have HN:=Lib.hid hn
 clear hc H hn
 unfold Y5h
 go_enter Tryz.func71,Tryz.ntmps71
 go_wp2_with fail
 go_quiet (fail)
 have HW:=HH.out.drewN nq
 clear z0 z2 z4 z5 z6 z7
 generalize w.drewN nq=W at HW⊢
 obtain⟨z0,z2,z4,z5,z6,z7⟩:=HW.facts hop hl rfl rfl
 go_wp2_with fail
 refine(Q2f HW 0 4294901760 (by decide)).mono ?_
 rintro e w1⟨rfl,H1⟩
 obtain⟨x0,x2,x4,x5,x6,x7⟩:=H1.facts hop hl rfl rfl
 go_wp2_with fail
 refine(Q9F (l:=[7,8]) (H1.box rfl _ _) rfl (by have:=HC.out;simp[Rn.note,Rn.did,Rn.Q0h,Rn.setB,Rn.waited,Rn.goto];omega) true).mono ?_
 rintro e w2⟨rfl,H2⟩
 go_wp2_with fail
 go_end0
 exact⟨rfl,H2.Q0N⟩
def Y5g(s:Rn):Rn:=
 (s.did (doA s.L ⟨3,0,4294901761,0,0⟩)).ends true [10]
theorem rf_80{S0:List Nat}{w0 w:World}{m a r:Nat}{rs:List Res}{s:Rn}(H:Q0a S0 w0 m a r rs s w)(hop:s.f.op=8)(hl:s.f.line=0)(hn:I64 s.n)(hc:s.notes.length≤900):
 Calls Tryz.prog 71 #[.pointer (some ⟨r,0,none⟩)] w fun e w'=>e= .returned (.tuple #[])∧Q0a S0 w0 m a r rs (Y5g s) w':=by
 obtain⟨z0,z2,z4,z5,z6,z7⟩:=H.facts hop hl rfl rfl
 have HC:=Lib.hid hc
 have HH:=Lib.hid H
 have HN:=Lib.hid hn
 clear hc H hn
 unfold Y5g
 go_enter Tryz.func71,Tryz.ntmps71
 go_wp2_with fail
 go_quiet (fail)
 have HW:=HH.out.drewN nq
 clear z0 z2 z4 z5 z6 z7
 generalize w.drewN nq=W at HW⊢
 obtain⟨z0,z2,z4,z5,z6,z7⟩:=HW.facts hop hl rfl rfl
 go_wp2_with fail
 refine(Q2f HW 0 4294901761 (by decide)).mono ?_
 rintro e w1⟨rfl,H1⟩
 obtain⟨x0,x2,x4,x5,x6,x7⟩:=H1.facts hop hl rfl rfl
 go_wp2_with fail
 refine(Q9F (l:=[10]) (H1.box rfl _ _) rfl (by have:=HC.out;simp[Rn.note,Rn.did,Rn.Q0h,Rn.setB,Rn.waited,Rn.goto];omega) true).mono ?_
 rintro e w2⟨rfl,H2⟩
 go_wp2_with fail
 go_end0
 exact⟨rfl,H2.Q0N⟩
attribute [local go_sem↓] Go.wp_at_zero Go.wp_at_succ
theorem Y2f{w:World}{b:Nat}{cs:Array Value}(h:Blk w b cs):Blk w b cs∧(∀i,w.cell? ⟨b,i,none⟩=cs[i]?):=⟨h,h.cell⟩
theorem X7m{S0:List Nat}{w0 w:World}{m a r tb:Nat}{rs:List Res}{s:Rn}(H:Q0a S0 w0 m a r (.blk tb #[.pointer (some ⟨r,0,none⟩)]::rs) s w)(hc:s.notes.length≤1000):
 Calls Tryz.prog 152 #[.pointer (some ⟨tb,0,none⟩)] w fun e w'=>e= .returned (.tuple #[])∧Q0a S0 w0 m a r (.blk tb #[.pointer (some ⟨r,0,none⟩)]::rs) (s.note 2 1) w':=by
 obtain⟨u0,u1,u2⟩:=H.first.own
 go_enter Tryz.func152,Tryz.ntmps152
 go_wp2_with fail
 refine(Q0r H hc 2 1).mono ?_
 rintro e w1⟨rfl,H1⟩
 go_wp2_with fail
 go_end0
 exact⟨rfl,H1⟩
theorem X7l{S0:List Nat}{w0 w:World}{m a r tb:Nat}{rs:List Res}{s:Rn}(H:Q0a S0 w0 m a r (.blk tb #[.pointer (some ⟨r,0,none⟩)]::rs) s w)(hc:s.notes.length≤1000):
 Calls Tryz.prog 153 #[.pointer (some ⟨tb,0,none⟩)] w fun e w'=>e= .returned (.tuple #[])∧Q0a S0 w0 m a r (.blk tb #[.pointer (some ⟨r,0,none⟩)]::rs) (s.note 2 2) w':=by
 obtain⟨u0,u1,u2⟩:=H.first.own
 go_enter Tryz.func153,Tryz.ntmps153
 go_wp2_with fail
 refine(Q0r H hc 2 2).mono ?_
 rintro e w1⟨rfl,H1⟩
 go_wp2_with fail
 go_end0
 exact⟨rfl,H1⟩
theorem X7k{S0:List Nat}{w0 w:World}{m a r:Nat}{rs:List Res}{s:Rn}(H:Q0a S0 w0 m a r rs s w):
 Calls Tryz.prog 154 #[] w fun e w'=>e= .returned (.tuple #[])∧Q0a S0 w0 m a r rs s w':=by
 go_enter Tryz.func154,Tryz.ntmps154
 go_wp2_with fail
 go_end0
 exact⟨rfl,H⟩
def Y6v(s:Rn):Rn:=
 s.chosen (fun v=> !Q4U v)
set_option maxRecDepth 100000 in
theorem rf_50{S0:List Nat}{w0 w:World}{m a r:Nat}{rs:List Res}{s:Rn}(H:Q0a S0 w0 m a r rs s w)(hop:s.f.op=5)(hl:s.f.line=0)(hc:s.notes.length≤900):
 Calls Tryz.prog 114 #[.pointer (some ⟨r,0,none⟩)] w fun e w'=>e= .returned (.tuple #[])∧Q0a S0 w0 m a r rs (Y6v s) w':=by
 have H0:=H.box rfl #[.pointer (some ⟨r,0,none⟩)] 135
 have HC:=Lib.hid hc
 obtain⟨z0,z2,z4,z5,z6,z7⟩:=H.facts hop hl rfl rfl
 have HH:=Lib.hid H0
 clear hc H H0
 go_enter Tryz.func114,Tryz.ntmps114
 go_wp2_with fail
 go_quiet (fail)
 have HW:=HH.out.drewN nq
 clear z0 z2 z4 z5 z6 z7
 generalize w.heap.size=tb at HW⊢
 generalize (World.drewN _ nq)=W at HW⊢
 obtain⟨z0,z2,z4,z5,z6,z7⟩:=HW.facts hop hl rfl rfl
 obtain⟨u0,u1,u2⟩:=HW.first.own
 go_wp2_with fail
 refine(Q8o HW HC.out hop hl 150 #[] #[] (fun v=> !Q4U v) (enters_of Tryz.func150 (by kernel_rfl) rfl) (fun W v s' _=>Y0x v W)).mono ?_
 rintro e w1⟨rfl,H1⟩
 go_wp2_with fail
 go_end0
 exact⟨rfl,H1.Q0N⟩
def Y6t(s:Rn):Rn:=
 s.chosen (fun v=>v==0)
set_option maxRecDepth 100000 in
theorem rf_60{S0:List Nat}{w0 w:World}{m a r:Nat}{rs:List Res}{s:Rn}(H:Q0a S0 w0 m a r rs s w)(hop:s.f.op=6)(hl:s.f.line=0)(hc:s.notes.length≤900):
 Calls Tryz.prog 114 #[.pointer (some ⟨r,0,none⟩)] w fun e w'=>e= .returned (.tuple #[])∧Q0a S0 w0 m a r rs (Y6t s) w':=by
 have H0:=H.box rfl #[.pointer (some ⟨r,0,none⟩)] 135
 have HC:=Lib.hid hc
 obtain⟨z0,z2,z4,z5,z6,z7⟩:=H.facts hop hl rfl rfl
 have HH:=Lib.hid H0
 clear hc H H0
 go_enter Tryz.func114,Tryz.ntmps114
 go_wp2_with fail
 go_quiet (fail)
 have HW:=HH.out.drewN nq
 clear z0 z2 z4 z5 z6 z7
 generalize w.heap.size=tb at HW⊢
 generalize (World.drewN _ nq)=W at HW⊢
 obtain⟨z0,z2,z4,z5,z6,z7⟩:=HW.facts hop hl rfl rfl
 obtain⟨u0,u1,u2⟩:=HW.first.own
 go_wp2_with fail
 have hch:=fun W2 (H:Q0a S0 w0 m a r (.blk W.heap.size #[.int .u32 0]:: .blk tb #[.pointer (some ⟨r,0,none⟩)]::rs) s W2)=>Q8o H HC.out hop hl 148 #[] #[.pointer (some ⟨W.heap.size,0,none⟩)] (fun v=>v==0) (enters_of Tryz.func148 (by kernel_rfl) rfl) (fun W v s' H=>X7j 0 v W H.first)
 have HCH:=Lib.hid hch
 clear hch
 have HB:=Lib.hid (HW.box rfl #[.int .u32 0] 22).drew
 have HB1:Blk (W.alloc (.cells #[.int .u32 0] 22)).drew tb _:=HW.first.alloc _
 have HB0:Blk W.drew tb _:=HW.drew.first
 go_region_held3 (fun w'=>Blk w' tb #[.pointer (some ⟨r,0,none⟩)]∧(∀i,w'.cell? ⟨tb,i,none⟩= #[Value.pointer (some ⟨r,0,none⟩)][i]?))
  (first|(go_split_ands;refine Y2f ?_;first|with_reducible assumption|with_reducible exact HB2))
  (first
   |(go_at_call 113;refine(X4G 0 _).mono ?_;rintro e w1 ⟨rfl,rfl⟩)
   |(go_at_call 149;with_reducible refine(HCH.out _ HB.out).mono ?_;rintro e w2 ⟨rfl,H2⟩;have HB2:=H2.Q0N.first))
 go_wp2_with fail
 go_end0
 exact⟨rfl,H2.Q0N.Q0N⟩
def Y6r(s:Rn):Rn:=
 s.chosen (fun v=>v==1)
set_option maxRecDepth 100000 in
theorem rf_70{S0:List Nat}{w0 w:World}{m a r:Nat}{rs:List Res}{s:Rn}(H:Q0a S0 w0 m a r rs s w)(hop:s.f.op=7)(hl:s.f.line=0)(hc:s.notes.length≤900):
 Calls Tryz.prog 114 #[.pointer (some ⟨r,0,none⟩)] w fun e w'=>e= .returned (.tuple #[])∧Q0a S0 w0 m a r rs (Y6r s) w':=by
 have H0:=H.box rfl #[.pointer (some ⟨r,0,none⟩)] 135
 have HC:=Lib.hid hc
 obtain⟨z0,z2,z4,z5,z6,z7⟩:=H.facts hop hl rfl rfl
 have HH:=Lib.hid H0
 clear hc H H0
 go_enter Tryz.func114,Tryz.ntmps114
 go_wp2_with fail
 go_quiet (fail)
 have HW:=HH.out.drewN nq
 clear z0 z2 z4 z5 z6 z7
 generalize w.heap.size=tb at HW⊢
 generalize (World.drewN _ nq)=W at HW⊢
 obtain⟨z0,z2,z4,z5,z6,z7⟩:=HW.facts hop hl rfl rfl
 obtain⟨u0,u1,u2⟩:=HW.first.own
 go_wp2_with fail
 have hch:=fun W2 (H:Q0a S0 w0 m a r (.blk W.heap.size #[.int .u32 1]:: .blk tb #[.pointer (some ⟨r,0,none⟩)]::rs) s W2)=>Q8o H HC.out hop hl 148 #[] #[.pointer (some ⟨W.heap.size,0,none⟩)] (fun v=>v==1) (enters_of Tryz.func148 (by kernel_rfl) rfl) (fun W v s' H=>X7j 1 v W H.first)
 have HCH:=Lib.hid hch
 clear hch
 have HB:=Lib.hid (HW.box rfl #[.int .u32 1] 22).drew
 have HB1:Blk (W.alloc (.cells #[.int .u32 1] 22)).drew tb _:=HW.first.alloc _
 have HB0:Blk W.drew tb _:=HW.drew.first
 go_region_held3 (fun w'=>Blk w' tb #[.pointer (some ⟨r,0,none⟩)]∧(∀i,w'.cell? ⟨tb,i,none⟩= #[Value.pointer (some ⟨r,0,none⟩)][i]?))
  (first|(go_split_ands;refine Y2f ?_;first|with_reducible assumption|with_reducible exact HB2))
  (first
   |(go_at_call 113;refine(X4G 1 _).mono ?_;rintro e w1 ⟨rfl,rfl⟩)
   |(go_at_call 149;with_reducible refine(HCH.out _ HB.out).mono ?_;rintro e w2 ⟨rfl,H2⟩;have HB2:=H2.Q0N.first))
 go_wp2_with fail
 go_end0
 exact⟨rfl,H2.Q0N.Q0N⟩
def Y6u(s:Rn):Rn:=
 s.swapped s.f.a ((s.f.a+1)%4294967296) (fun s=>s.note 2 1) 4
set_option maxRecDepth 100000 in
theorem rf_51{S0:List Nat}{w0 w:World}{m a r:Nat}{rs:List Res}{s:Rn}(H:Q0a S0 w0 m a r rs s w)(hop:s.f.op=5)(hl:s.f.line=1)(ha:0≤s.f.a∧s.f.a<4294967296)(hc:s.notes.length≤900):
 Calls Tryz.prog 114 #[.pointer (some ⟨r,0,none⟩)] w fun e w'=>e= .returned (.tuple #[])∧Q0a S0 w0 m a r rs (Y6u s) w':=by
 have H0:=H.box rfl #[.pointer (some ⟨r,0,none⟩)] 135
 have HC:=Lib.hid hc
 obtain⟨z0,z2,z4,z5,z6,z7⟩:=H.facts hop hl rfl rfl
 have HH:=Lib.hid H0
 clear hc H H0
 go_enter Tryz.func114,Tryz.ntmps114
 go_wp2_with fail
 go_quiet (fail)
 have HW:=HH.out.drewN nq
 clear z0 z2 z4 z5 z6 z7
 generalize w.heap.size=tb at HW⊢
 generalize (World.drewN _ nq)=W at HW⊢
 obtain⟨z0,z2,z4,z5,z6,z7⟩:=HW.facts hop hl rfl rfl
 obtain⟨u0,u1,u2⟩:=HW.first.own
 go_wp2_with fail
 refine Q1a (by kernel_rfl) (by kernel_rfl) ?_
 simp only[Q0G,probes,List.nil_append,List.cons_append,probe]
 go_wp2_with fail
 refine(X2l HW.drew HC.out 152 #[.pointer (some ⟨tb,0,none⟩)] (fun s=>s.note 2 1) (fun s=>by simp[Rn.note]) (enters_of Tryz.func152 (by kernel_rfl) rfl) s.f.a ((s.f.a+1)%4294967296) 4 ha (by omega) (fun W s' hs H=>X7m H (by rw[hs];exact Nat.le_trans HC.out (by decide)))).mono ?_
 rintro e w1⟨rfl,H1⟩
 go_wp2_with fail
 rw[Q0g]
 first
  |(rename_i hK;refine hK _ _ ?_;go_wp2_with fail;go_end0;exact⟨rfl,H1.Q0N⟩)
  |(rename_i hK;simp only[Exit.inBlock,Exit.then];refine hK _ _ ?_;go_wp2_with fail;go_end0;exact⟨rfl,H1.Q0N⟩)
  |(simp only[Exit.inBlock,Exit.then];go_end0;exact⟨rfl,H1.Q0N⟩)
  |(trace_state;fail)
def Y6s(s:Rn):Rn:=
 s.swapped 0 65536 (fun s=>s.note 2 2) 4
set_option maxRecDepth 100000 in
theorem rf_61{S0:List Nat}{w0 w:World}{m a r:Nat}{rs:List Res}{s:Rn}(H:Q0a S0 w0 m a r rs s w)(hop:s.f.op=6)(hl:s.f.line=1)(hc:s.notes.length≤900):
 Calls Tryz.prog 114 #[.pointer (some ⟨r,0,none⟩)] w fun e w'=>e= .returned (.tuple #[])∧Q0a S0 w0 m a r rs (Y6s s) w':=by
 have H0:=H.box rfl #[.pointer (some ⟨r,0,none⟩)] 135
 have HC:=Lib.hid hc
 obtain⟨z0,z2,z4,z5,z6,z7⟩:=H.facts hop hl rfl rfl
 have HH:=Lib.hid H0
 clear hc H H0
 go_enter Tryz.func114,Tryz.ntmps114
 go_wp2_with fail
 go_quiet (fail)
 have HW:=HH.out.drewN nq
 clear z0 z2 z4 z5 z6 z7
 generalize w.heap.size=tb at HW⊢
 generalize (World.drewN _ nq)=W at HW⊢
 obtain⟨z0,z2,z4,z5,z6,z7⟩:=HW.facts hop hl rfl rfl
 obtain⟨u0,u1,u2⟩:=HW.first.own
 go_wp2_with fail
 refine(X2l HW HC.out 153 #[.pointer (some ⟨tb,0,none⟩)] (fun s=>s.note 2 2) (fun s=>by simp[Rn.note]) (enters_of Tryz.func153 (by kernel_rfl) rfl) 0 65536 4 (by decide) (by decide) (fun W s' hs H=>X7l H (by rw[hs];exact Nat.le_trans HC.out (by decide)))).mono ?_
 rintro e w1⟨rfl,H1⟩
 go_wp2_with fail
 go_end0
 exact⟨rfl,H1.Q0N⟩
def Y6q(s:Rn):Rn:=
 s.swapped 1 65536 (fun s=>s) 9
set_option maxRecDepth 100000 in
theorem rf_71{S0:List Nat}{w0 w:World}{m a r:Nat}{rs:List Res}{s:Rn}(H:Q0a S0 w0 m a r rs s w)(hop:s.f.op=7)(hl:s.f.line=1)(hc:s.notes.length≤900):
 Calls Tryz.prog 114 #[.pointer (some ⟨r,0,none⟩)] w fun e w'=>e= .returned (.tuple #[])∧Q0a S0 w0 m a r rs (Y6q s) w':=by
 have H0:=H.box rfl #[.pointer (some ⟨r,0,none⟩)] 135
 have HC:=Lib.hid hc
 obtain⟨z0,z2,z4,z5,z6,z7⟩:=H.facts hop hl rfl rfl
 have HH:=Lib.hid H0
 clear hc H H0
 go_enter Tryz.func114,Tryz.ntmps114
 go_wp2_with fail
 go_quiet (fail)
 have HW:=HH.out.drewN nq
 clear z0 z2 z4 z5 z6 z7
 generalize w.heap.size=tb at HW⊢
 generalize (World.drewN _ nq)=W at HW⊢
 obtain⟨z0,z2,z4,z5,z6,z7⟩:=HW.facts hop hl rfl rfl
 obtain⟨u0,u1,u2⟩:=HW.first.own
 go_wp2_with fail
 refine(X2l HW HC.out 154 #[] (fun s=>s) (fun s=>by simp) (enters_of Tryz.func154 (by kernel_rfl) rfl) 1 65536 9 (by decide) (by decide) (fun W s' hs H=>X7k H)).mono ?_
 rintro e w1⟨rfl,H1⟩
 go_wp2_with fail
 go_end0
 exact⟨rfl,H1.Q0N⟩
theorem X4H{S0:List Nat}{w0 w:World}{m a r:Nat}{rs rs2:List Res}{s s2:Rn}(H:Q0a S0 w0 m a r rs s w){o l:Int}(hop:s.f.op=o)(hl:s.f.line=l)
 (h0: ¬(o=1∧l=0)) (h1: ¬(o=1∧l=1)) (h2: ¬(o=2∧l=0)) (h3: ¬(o=3∧l=0)) (h4: ¬(o=3∧l=1)) (h5: ¬(o=3∧l=2)) (h6: ¬(o=4∧l=0)) (h7: ¬(o=8∧l=0))
 (ht: ∀W,Q0a S0 w0 m a r rs s W→Calls Tryz.prog 114 #[.pointer (some ⟨r,0,none⟩)] W fun e w'=>e= .returned (.tuple #[])∧Q0a S0 w0 m a r rs2 s2 w'):
 Calls Tryz.prog 71 #[.pointer (some ⟨r,0,none⟩)] w fun e w'=>e= .returned (.tuple #[])∧Q0a S0 w0 m a r rs2 s2 w':=by
 have HT:=Lib.hid ht
 obtain⟨z0,z2,z4,z5,z6,z7⟩:=H.facts hop hl rfl rfl
 have HH:=Lib.hid H
 clear H ht
 go_enter Tryz.func71,Tryz.ntmps71
 go_wp2_with fail
 go_quiet (fail)
 have HW:=HH.out.drewN nq
 clear z0 z2 z4 z5 z6 z7
 generalize w.drewN nq=W at HW⊢
 obtain⟨z0,z2,z4,z5,z6,z7⟩:=HW.facts hop hl rfl rfl
 go_wp2_with fail
 all_goals
  refine(HT.out _ HW).mono ?_
  rintro e w1⟨rfl,H1⟩
  go_wp2_with fail
  go_end0
  exact⟨rfl,H1⟩
theorem Y3v{S0:List Nat}{w0 w:World}{m a r:Nat}{rs:List Res}{s:Rn}(H:Q0a S0 w0 m a r rs s w){o l:Int}(hop:s.f.op=o)(hl:s.f.line=l)(h0: ¬(o=5∧l=0))(h1: ¬(o=6∧l=0))(h2: ¬(o=7∧l=0))(h3: ¬(o=5∧l=1))(h4: ¬(o=6∧l=1))(h5: ¬(o=7∧l=1)):
 Calls Tryz.prog 114 #[.pointer (some ⟨r,0,none⟩)] w fun e w'=>e= .returned (.tuple #[])∧Q0a S0 w0 m a r rs s w':=by
 have H0:=H.box rfl #[.pointer (some ⟨r,0,none⟩)] 135
 obtain⟨z0,z2,z4,z5,z6,z7⟩:=H.facts hop hl rfl rfl
 have HH:=Lib.hid H0
 clear H H0
 go_enter Tryz.func114,Tryz.ntmps114
 go_wp2_with fail
 go_quiet (fail)
 have HW:=HH.out.drewN nq
 clear z0 z2 z4 z5 z6 z7
 generalize w.heap.size=tb at HW⊢
 generalize (World.drewN _ nq)=W at HW⊢
 obtain⟨z0,z2,z4,z5,z6,z7⟩:=HW.facts hop hl rfl rfl
 obtain⟨u0,u1,u2⟩:=HW.first.own
 go_wp2_with fail
 all_goals
  go_end0
  exact⟨rfl,HW.Q0N⟩
def rfA(s:Rn):Rn:=if s.f.op=1∧s.f.line=0 then Y5l s else if s.f.op=1∧s.f.line=1 then Y3D s else if s.f.op=2∧s.f.line=0 then Y5k s else if s.f.op=3∧s.f.line=0 then Y5j s else if s.f.op=3∧s.f.line=1 then Y5i s else if s.f.op=3∧s.f.line=2 then Y3C s else if s.f.op=4∧s.f.line=0 then Y5h s else if s.f.op=8∧s.f.line=0 then Y5g s else if s.f.op=5∧s.f.line=0 then Y6v s else if s.f.op=6∧s.f.line=0 then Y6t s else if s.f.op=7∧s.f.line=0 then Y6r s else if s.f.op=5∧s.f.line=1 then Y6u s else if s.f.op=6∧s.f.line=1 then Y6s s else if s.f.op=7∧s.f.line=1 then Y6q s else s
theorem Y0u{S0:List Nat}{w0 w:World}{m a r:Nat}{rs:List Res}{s:Rn}(H:Q0a S0 w0 m a r rs s w)(hn:I64 s.n)(ha:0≤s.f.a∧s.f.a<4294967296)(hc:s.notes.length≤900):
 Calls Tryz.prog 71 #[.pointer (some ⟨r,0,none⟩)] w fun e w'=>e= .returned (.tuple #[])∧Q0a S0 w0 m a r rs (rfA s) w':=by
 unfold rfA
 by_cases h10:s.f.op=1∧s.f.line=0
 ·rw[if_pos h10];exact rf_10 H h10.1 h10.2 hn hc
 rw[if_neg h10]
 by_cases h11:s.f.op=1∧s.f.line=1
 ·rw[if_pos h11];exact rf_11 H h11.1 h11.2 hn hc
 rw[if_neg h11]
 by_cases h20:s.f.op=2∧s.f.line=0
 ·rw[if_pos h20];exact rf_20 H h20.1 h20.2 hn hc
 rw[if_neg h20]
 by_cases h30:s.f.op=3∧s.f.line=0
 ·rw[if_pos h30];exact rf_30 H h30.1 h30.2 hn hc
 rw[if_neg h30]
 by_cases h31:s.f.op=3∧s.f.line=1
 ·rw[if_pos h31];exact rf_31 H h31.1 h31.2 hn hc
 rw[if_neg h31]
 by_cases h32:s.f.op=3∧s.f.line=2
 ·rw[if_pos h32];exact rf_32 H h32.1 h32.2 hn hc
 rw[if_neg h32]
 by_cases h40:s.f.op=4∧s.f.line=0
 ·rw[if_pos h40];exact rf_40 H h40.1 h40.2 hn hc
 rw[if_neg h40]
 by_cases h80:s.f.op=8∧s.f.line=0
 ·rw[if_pos h80];exact rf_80 H h80.1 h80.2 hn hc
 rw[if_neg h80]
 refine X4H H rfl rfl h10 h11 h20 h30 h31 h32 h40 h80 (fun W HW=> ?_)
 by_cases h50:s.f.op=5∧s.f.line=0
 ·rw[if_pos h50];exact rf_50 HW h50.1 h50.2 hc
 rw[if_neg h50]
 by_cases h60:s.f.op=6∧s.f.line=0
 ·rw[if_pos h60];exact rf_60 HW h60.1 h60.2 hc
 rw[if_neg h60]
 by_cases h70:s.f.op=7∧s.f.line=0
 ·rw[if_pos h70];exact rf_70 HW h70.1 h70.2 hc
 rw[if_neg h70]
 by_cases h51:s.f.op=5∧s.f.line=1
 ·rw[if_pos h51];exact rf_51 HW h51.1 h51.2 ha hc
 rw[if_neg h51]
 by_cases h61:s.f.op=6∧s.f.line=1
 ·rw[if_pos h61];exact rf_61 HW h61.1 h61.2 hc
 rw[if_neg h61]
 by_cases h71:s.f.op=7∧s.f.line=1
 ·rw[if_pos h71];exact rf_71 HW h71.1 h71.2 hc
 rw[if_neg h71]
 exact Y3v HW rfl rfl h50 h60 h70 h51 h61 h71
theorem X7D(s:Rn)(hw:Words s.L)(h:I64 s.n∧(0≤s.f.a∧s.f.a<4294967296)∧(0≤s.f.b∧s.f.b<4294967296)):Fine s (Y5l s):=by
 have hold:=fun b=>Q0s s.L hw b
 obtain⟨h1,h2,h3⟩:=h
 unfold Y5l
 (try dsimp only)
 (repeat' split)<;>first
  |exact Q0f ⟨⟨h1,h2,h3⟩,by simp[Rn.ends,Rn.Q0d,Rn.refused,Rn.did,Rn.Q0h,Rn.note,Rn.goto,Rn.fin,Rn.wake,Rn.waited]⟩
  |exact Q0f ⟨⟨h1,hold _,h3⟩,by simp[Rn.ends,Rn.Q0d,Rn.refused,Rn.did,Rn.Q0h,Rn.note,Rn.goto,Rn.fin,Rn.wake,Rn.waited]⟩
theorem X7C(s:Rn)(hw:Words s.L)(h:I64 s.n∧(0≤s.f.a∧s.f.a<4294967296)∧(0≤s.f.b∧s.f.b<4294967296)):Fine s (Y3D s):=by
 have hold:=fun b=>Q0s s.L hw b
 obtain⟨h1,h2,h3⟩:=h
 unfold Y3D
 (try dsimp only)
 (repeat' split)<;>first
  |exact Q0f ⟨⟨h1,h2,h3⟩,by simp[Rn.ends,Rn.Q0d,Rn.refused,Rn.did,Rn.Q0h,Rn.note,Rn.goto,Rn.fin,Rn.wake,Rn.waited]⟩
  |exact Q0f ⟨⟨h1,hold _,h3⟩,by simp[Rn.ends,Rn.Q0d,Rn.refused,Rn.did,Rn.Q0h,Rn.note,Rn.goto,Rn.fin,Rn.wake,Rn.waited]⟩
theorem X7B(s:Rn)(hw:Words s.L)(h:I64 s.n∧(0≤s.f.a∧s.f.a<4294967296)∧(0≤s.f.b∧s.f.b<4294967296)):Fine s (Y5k s):=by
 have hold:=fun b=>Q0s s.L hw b
 obtain⟨h1,h2,h3⟩:=h
 unfold Y5k
 (try dsimp only)
 (repeat' split)<;>first
  |exact Q0f ⟨⟨h1,h2,h3⟩,by simp[Rn.ends,Rn.Q0d,Rn.refused,Rn.did,Rn.Q0h,Rn.note,Rn.goto,Rn.fin,Rn.wake,Rn.waited]⟩
  |exact Q0f ⟨⟨h1,hold _,h3⟩,by simp[Rn.ends,Rn.Q0d,Rn.refused,Rn.did,Rn.Q0h,Rn.note,Rn.goto,Rn.fin,Rn.wake,Rn.waited]⟩
theorem X7A(s:Rn)(hw:Words s.L)(h:I64 s.n∧(0≤s.f.a∧s.f.a<4294967296)∧(0≤s.f.b∧s.f.b<4294967296)):Fine s (Y5j s):=by
 have hold:=fun b=>Q0s s.L hw b
 obtain⟨h1,h2,h3⟩:=h
 unfold Y5j
 (try dsimp only)
 (repeat' split)<;>first
  |exact Q0f ⟨⟨h1,h2,h3⟩,by simp[Rn.ends,Rn.Q0d,Rn.refused,Rn.did,Rn.Q0h,Rn.note,Rn.goto,Rn.fin,Rn.wake,Rn.waited]⟩
  |exact Q0f ⟨⟨h1,hold _,h3⟩,by simp[Rn.ends,Rn.Q0d,Rn.refused,Rn.did,Rn.Q0h,Rn.note,Rn.goto,Rn.fin,Rn.wake,Rn.waited]⟩
theorem X7z(s:Rn)(hw:Words s.L)(h:I64 s.n∧(0≤s.f.a∧s.f.a<4294967296)∧(0≤s.f.b∧s.f.b<4294967296)):Fine s (Y5i s):=by
 have hold:=fun b=>Q0s s.L hw b
 obtain⟨h1,h2,h3⟩:=h
 unfold Y5i
 (try dsimp only)
 (repeat' split)<;>first
  |exact Q0f ⟨⟨h1,h2,h3⟩,by simp[Rn.ends,Rn.Q0d,Rn.refused,Rn.did,Rn.Q0h,Rn.note,Rn.goto,Rn.fin,Rn.wake,Rn.waited]⟩
  |exact Q0f ⟨⟨h1,hold _,h3⟩,by simp[Rn.ends,Rn.Q0d,Rn.refused,Rn.did,Rn.Q0h,Rn.note,Rn.goto,Rn.fin,Rn.wake,Rn.waited]⟩
theorem X7y(s:Rn)(hw:Words s.L)(h:I64 s.n∧(0≤s.f.a∧s.f.a<4294967296)∧(0≤s.f.b∧s.f.b<4294967296)):Fine s (Y3C s):=by
 have hold:=fun b=>Q0s s.L hw b
 obtain⟨h1,h2,h3⟩:=h
 unfold Y3C
 (try dsimp only)
 (repeat' split)<;>first
  |exact Q0f ⟨⟨h1,h2,h3⟩,by simp[Rn.ends,Rn.Q0d,Rn.refused,Rn.did,Rn.Q0h,Rn.note,Rn.goto,Rn.fin,Rn.wake,Rn.waited]⟩
  |exact Q0f ⟨⟨h1,hold _,h3⟩,by simp[Rn.ends,Rn.Q0d,Rn.refused,Rn.did,Rn.Q0h,Rn.note,Rn.goto,Rn.fin,Rn.wake,Rn.waited]⟩
theorem X7x(s:Rn)(hw:Words s.L)(h:I64 s.n∧(0≤s.f.a∧s.f.a<4294967296)∧(0≤s.f.b∧s.f.b<4294967296)):Fine s (Y5h s):=by
 have hold:=fun b=>Q0s s.L hw b
 obtain⟨h1,h2,h3⟩:=h
 unfold Y5h
 (try dsimp only)
 (repeat' split)<;>first
  |exact Q0f ⟨⟨h1,h2,h3⟩,by simp[Rn.ends,Rn.Q0d,Rn.refused,Rn.did,Rn.Q0h,Rn.note,Rn.goto,Rn.fin,Rn.wake,Rn.waited]⟩
  |exact Q0f ⟨⟨h1,hold _,h3⟩,by simp[Rn.ends,Rn.Q0d,Rn.refused,Rn.did,Rn.Q0h,Rn.note,Rn.goto,Rn.fin,Rn.wake,Rn.waited]⟩
theorem X7q(s:Rn)(hw:Words s.L)(h:I64 s.n∧(0≤s.f.a∧s.f.a<4294967296)∧(0≤s.f.b∧s.f.b<4294967296)):Fine s (Y5g s):=by
 have hold:=fun b=>Q0s s.L hw b
 obtain⟨h1,h2,h3⟩:=h
 unfold Y5g
 (try dsimp only)
 (repeat' split)<;>first
  |exact Q0f ⟨⟨h1,h2,h3⟩,by simp[Rn.ends,Rn.Q0d,Rn.refused,Rn.did,Rn.Q0h,Rn.note,Rn.goto,Rn.fin,Rn.wake,Rn.waited]⟩
  |exact Q0f ⟨⟨h1,hold _,h3⟩,by simp[Rn.ends,Rn.Q0d,Rn.refused,Rn.did,Rn.Q0h,Rn.note,Rn.goto,Rn.fin,Rn.wake,Rn.waited]⟩
theorem X7w(s:Rn)(hw:Words s.L)(h:I64 s.n∧(0≤s.f.a∧s.f.a<4294967296)∧(0≤s.f.b∧s.f.b<4294967296)):Fine s (Y6v s):=by
 have hold:=fun b=>Q0s s.L hw b
 obtain⟨h1,h2,h3⟩:=h
 unfold Y6v Rn.chosen
 (try dsimp only)
 (repeat' split)<;>first
  |exact Q0f ⟨⟨h1,h2,h3⟩,by simp[Rn.ends,Rn.Q0d,Rn.refused,Rn.did,Rn.Q0h,Rn.note,Rn.goto,Rn.fin,Rn.wake,Rn.waited]⟩
  |exact Q0f ⟨⟨h1,hold _,h3⟩,by simp[Rn.ends,Rn.Q0d,Rn.refused,Rn.did,Rn.Q0h,Rn.note,Rn.goto,Rn.fin,Rn.wake,Rn.waited]⟩
theorem X7u(s:Rn)(hw:Words s.L)(h:I64 s.n∧(0≤s.f.a∧s.f.a<4294967296)∧(0≤s.f.b∧s.f.b<4294967296)):Fine s (Y6t s):=by
 have hold:=fun b=>Q0s s.L hw b
 obtain⟨h1,h2,h3⟩:=h
 unfold Y6t Rn.chosen
 (try dsimp only)
 (repeat' split)<;>first
  |exact Q0f ⟨⟨h1,h2,h3⟩,by simp[Rn.ends,Rn.Q0d,Rn.refused,Rn.did,Rn.Q0h,Rn.note,Rn.goto,Rn.fin,Rn.wake,Rn.waited]⟩
  |exact Q0f ⟨⟨h1,hold _,h3⟩,by simp[Rn.ends,Rn.Q0d,Rn.refused,Rn.did,Rn.Q0h,Rn.note,Rn.goto,Rn.fin,Rn.wake,Rn.waited]⟩
theorem X7s(s:Rn)(hw:Words s.L)(h:I64 s.n∧(0≤s.f.a∧s.f.a<4294967296)∧(0≤s.f.b∧s.f.b<4294967296)):Fine s (Y6r s):=by
 have hold:=fun b=>Q0s s.L hw b
 obtain⟨h1,h2,h3⟩:=h
 unfold Y6r Rn.chosen
 (try dsimp only)
 (repeat' split)<;>first
  |exact Q0f ⟨⟨h1,h2,h3⟩,by simp[Rn.ends,Rn.Q0d,Rn.refused,Rn.did,Rn.Q0h,Rn.note,Rn.goto,Rn.fin,Rn.wake,Rn.waited]⟩
  |exact Q0f ⟨⟨h1,hold _,h3⟩,by simp[Rn.ends,Rn.Q0d,Rn.refused,Rn.did,Rn.Q0h,Rn.note,Rn.goto,Rn.fin,Rn.wake,Rn.waited]⟩
theorem X7v(s:Rn)(hw:Words s.L)(h:I64 s.n∧(0≤s.f.a∧s.f.a<4294967296)∧(0≤s.f.b∧s.f.b<4294967296)):Fine s (Y6u s):=by
 have hold:=fun b=>Q0s s.L hw b
 obtain⟨h1,h2,h3⟩:=h
 unfold Y6u Rn.swapped
 (try dsimp only)
 (repeat' split)<;>first
  |exact Q0f ⟨⟨h1,h2,h3⟩,by simp[Rn.ends,Rn.Q0d,Rn.refused,Rn.did,Rn.Q0h,Rn.note,Rn.goto,Rn.fin,Rn.wake,Rn.waited]⟩
  |exact Q0f ⟨⟨h1,hold _,h3⟩,by simp[Rn.ends,Rn.Q0d,Rn.refused,Rn.did,Rn.Q0h,Rn.note,Rn.goto,Rn.fin,Rn.wake,Rn.waited]⟩
theorem X7t(s:Rn)(hw:Words s.L)(h:I64 s.n∧(0≤s.f.a∧s.f.a<4294967296)∧(0≤s.f.b∧s.f.b<4294967296)):Fine s (Y6s s):=by
 have hold:=fun b=>Q0s s.L hw b
 obtain⟨h1,h2,h3⟩:=h
 unfold Y6s Rn.swapped
 (try dsimp only)
 (repeat' split)<;>first
  |exact Q0f ⟨⟨h1,h2,h3⟩,by simp[Rn.ends,Rn.Q0d,Rn.refused,Rn.did,Rn.Q0h,Rn.note,Rn.goto,Rn.fin,Rn.wake,Rn.waited]⟩
  |exact Q0f ⟨⟨h1,hold _,h3⟩,by simp[Rn.ends,Rn.Q0d,Rn.refused,Rn.did,Rn.Q0h,Rn.note,Rn.goto,Rn.fin,Rn.wake,Rn.waited]⟩
theorem X7r(s:Rn)(hw:Words s.L)(h:I64 s.n∧(0≤s.f.a∧s.f.a<4294967296)∧(0≤s.f.b∧s.f.b<4294967296)):Fine s (Y6q s):=by
 have hold:=fun b=>Q0s s.L hw b
 obtain⟨h1,h2,h3⟩:=h
 unfold Y6q Rn.swapped
 (try dsimp only)
 (repeat' split)<;>first
  |exact Q0f ⟨⟨h1,h2,h3⟩,by simp[Rn.ends,Rn.Q0d,Rn.refused,Rn.did,Rn.Q0h,Rn.note,Rn.goto,Rn.fin,Rn.wake,Rn.waited]⟩
  |exact Q0f ⟨⟨h1,hold _,h3⟩,by simp[Rn.ends,Rn.Q0d,Rn.refused,Rn.did,Rn.Q0h,Rn.note,Rn.goto,Rn.fin,Rn.wake,Rn.waited]⟩
theorem X7p(s:Rn)(hw:Words s.L)(h:I64 s.n∧(0≤s.f.a∧s.f.a<4294967296)∧(0≤s.f.b∧s.f.b<4294967296)):Fine s (rfA s):=by
 unfold rfA
 by_cases h10:s.f.op=1∧s.f.line=0
 ·rw[if_pos h10];exact X7D s hw h
 rw[if_neg h10]
 by_cases h11:s.f.op=1∧s.f.line=1
 ·rw[if_pos h11];exact X7C s hw h
 rw[if_neg h11]
 by_cases h20:s.f.op=2∧s.f.line=0
 ·rw[if_pos h20];exact X7B s hw h
 rw[if_neg h20]
 by_cases h30:s.f.op=3∧s.f.line=0
 ·rw[if_pos h30];exact X7A s hw h
 rw[if_neg h30]
 by_cases h31:s.f.op=3∧s.f.line=1
 ·rw[if_pos h31];exact X7z s hw h
 rw[if_neg h31]
 by_cases h32:s.f.op=3∧s.f.line=2
 ·rw[if_pos h32];exact X7y s hw h
 rw[if_neg h32]
 by_cases h40:s.f.op=4∧s.f.line=0
 ·rw[if_pos h40];exact X7x s hw h
 rw[if_neg h40]
 by_cases h80:s.f.op=8∧s.f.line=0
 ·rw[if_pos h80];exact X7q s hw h
 rw[if_neg h80]
 by_cases h50:s.f.op=5∧s.f.line=0
 ·rw[if_pos h50];exact X7w s hw h
 rw[if_neg h50]
 by_cases h60:s.f.op=6∧s.f.line=0
 ·rw[if_pos h60];exact X7u s hw h
 rw[if_neg h60]
 by_cases h70:s.f.op=7∧s.f.line=0
 ·rw[if_pos h70];exact X7s s hw h
 rw[if_neg h70]
 by_cases h51:s.f.op=5∧s.f.line=1
 ·rw[if_pos h51];exact X7v s hw h
 rw[if_neg h51]
 by_cases h61:s.f.op=6∧s.f.line=1
 ·rw[if_pos h61];exact X7t s hw h
 rw[if_neg h61]
 by_cases h71:s.f.op=7∧s.f.line=1
 ·rw[if_pos h71];exact X7r s hw h
 rw[if_neg h71]
 exact Q0f ⟨h,by simp⟩
theorem Y0y(s:Rn)(hw:Words s.L)(h:I64 s.n∧(0≤s.f.a∧s.f.a<4294967296)∧(0≤s.f.b∧s.f.b<4294967296)):(I64 (rfA s).n∧(0≤(rfA s).f.a∧(rfA s).f.a<4294967296)∧(0≤(rfA s).f.b∧(rfA s).f.b<4294967296))∧(rfA s).notes.length≤s.notes.length+10:=X7p s hw h
end Go.Proofs.YthnimpkoidablaaGreat.Z
