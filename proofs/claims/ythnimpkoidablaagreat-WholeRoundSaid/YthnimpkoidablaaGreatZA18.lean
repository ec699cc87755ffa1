import Derived.Test.YthnimpkoidablaaGreatZA07
import Derived.Test.YthnimpkoidablaaGreatZA14
set_option linter.unusedVariables false
set_option linter.unusedSimpArgs false
set_option maxHeartbeats 3200000
namespace Go.Proofs.YthnimpkoidablaaGreat.Z
open Go.RowKit
attribute [local go_sem↓] Go.wp_at_zero Go.wp_at_succ
def wfR(v:Int):Int:=v%256
def wfT(v:Int):Int:=v/256%256
def wfG(v:Int):Int:=v/65536%256
def Q1B(v:Int):Bool:=wfT v==wfG v
theorem Q0a.X8A{S0:List Nat}{w0 w:World}{m a r b:Nat}{cs:Array Value}{rs:List Res}{s:Rn}(H:Q0a S0 w0 m a r (.blk b cs::rs) s w):r≠b:=by
 obtain⟨nv,H⟩:=H
 exact H.X0z 1 3 rfl rfl (by decide)
theorem Q7h(v:Int)(w:World)(hv:0≤v∧v<4294967296):Calls Tryz.prog 121 #[.int .u32 v] w fun e w'=>e= .returned (.int .u32 (wfR v))∧w=w':=by
 have hg:=fun W=>X9v v W hv
 rw[show v/1%256=wfR v from by unfold wfR;omega]at hg
 have HG:=Lib.hid hg
 clear hg
 go_enter Tryz.func121,Tryz.ntmps121
 go_wp2_with fail
 refine(HG.out _).mono ?_
 rintro e w1⟨rfl,rfl⟩
 go_wp2
 go_ret
 exact⟨rfl,rfl⟩
theorem Q5n(v:Int)(w:World)(hv:0≤v∧v<4294967296):Calls Tryz.prog 118 #[.int .u32 v] w fun e w'=>e= .returned (.bool (Q1B v))∧w=w':=by
 have hg:=fun W=>Q8Q v W hv
 have hh:=fun W=>Q9Y v W hv
 unfold Q1B wfT wfG
 generalize v/256%256=x at hg⊢
 generalize v/65536%256=y at hh⊢
 have HG:=Lib.hid hg
 have HK:=Lib.hid hh
 clear hg hh
 go_enter Tryz.func118,Tryz.ntmps118
 go_wp2_with fail
 refine(HG.out _).mono ?_
 rintro e w1⟨rfl,rfl⟩
 go_wp2_with fail
 refine(HK.out _).mono ?_
 rintro e w2⟨rfl,rfl⟩
 go_wp2
 go_ret
 exact⟨rfl,rfl⟩
theorem X6b(v:Int)(w:World)(hv:0≤v∧v<4294967296):Calls Tryz.prog 157 #[.int .u32 v] w fun e w'=>e= .returned (.int .u32 (Q3w v))∧w=w':=by
 have HG:=Lib.hid (fun W=>X5M v W hv)
 go_enter Tryz.func157,Tryz.ntmps157
 go_wp2_with fail
 refine(HG.out _).mono ?_
 rintro e w1⟨rfl,rfl⟩
 go_wp2
 go_ret
 exact⟨rfl,rfl⟩
def Rn.Q1Q(s:Rn)(wake:Bool)(l:List Int):Rn:=(if wake then(s.Q0d l).wake 0 else s.Q0d l).fin true
theorem Q9r{S0:List Nat}{w0 w:World}{m a r g n c:Nat}{l:List Int}{rs:List Res}{s:Rn}(H:Q0a S0 w0 m a r (.blk g (Q3S l).toArray::rs) s w)(hn:l.length=n)(hc:s.notes.length+l.length≤1000)(wake:Bool):
 Calls Tryz.prog 116 #[.pointer (some ⟨r,0,none⟩), .bool wake, .slice (some ⟨g,0,none⟩) n c] w fun e w'=>e= .returned (.tuple #[])∧Q0a S0 w0 m a r (.blk g (Q3S l).toArray::rs) (s.Q1Q wake l) w':=by
 subst hn
 have hll:l.length≤1000:=by omega
 have HC:=Lib.hid hc
 have HH:=Lib.hid H
 clear hc H
 go_enter Tryz.func116,Tryz.ntmps116
 go_wp2_with fail
 go_loopw [10] (fun i wr=> ∃k:Nat,k≤l.length∧i= .int .i64 k∧Q0a S0 w0 m a r (.blk g (Q3S l).toArray::rs) (s.Q0d (l.take k)) wr) (fun i _=>l.length-(intOf i).toNat)
 case atStart=>exact⟨0,Nat.zero_le _,rfl,HH.out⟩
 case round=>
  obtain⟨k,hk,rfl,hH⟩:=hrel
  have HK:=Lib.hid hH
  clear hH
  by_cases hlt:k<l.length
  ·obtain⟨b,off,hb,hbl,hcell⟩:=X2G (X7F HK.out.first) hlt
   simp only[Option.some.injEq,Addr.mk.injEq]at hb
   obtain⟨rfl,rfl,_⟩:=hb
   obtain⟨x,hx⟩: ∃x,l.getD k 0=x:=⟨_,rfl⟩
   rw[hx,Nat.zero_add]at hcell
   have HX:=Lib.hid hx
   clear hx
   have hi:(k:Int)<(l.length:Int):=by omega
   go_wp2_with fail
   refine(Q0r HK.out (by rw[Q6w];have:=HC.out;simp only[List.length_take];omega) x 0).mono ?_
   rintro e w1⟨rfl,H1⟩
   go_wp2
   go_roundw
   case rel=>exact⟨k+1,by omega,by go_num,by rw[Q7s s l k hlt,HX.out];exact H1⟩
   case measure=>simp[intOf];omega
  ·have hkn:k=l.length:=by omega
   subst hkn
   have hi:(l.length:Int)≤(l.length:Int):=Int.le_refl _
   have H2:=HK.out
   rw[List.take_length]at H2
   clear HK hlt hk
   cases wake with
   |true=>
    go_wp2_with fail
    refine(Q3l H2 0).mono ?_
    rintro e w1⟨rfl,H3⟩
    go_wp2_with fail
    refine(Q1x H3 true).mono ?_
    rintro e w2⟨rfl,H4⟩
    go_wp2_with fail
    go_end0
    exact⟨rfl,H4⟩
   |false=>
    go_wp2_with fail
    refine(Q1x H2 true).mono ?_
    rintro e w2⟨rfl,H4⟩
    go_wp2_with fail
    go_end0
    exact⟨rfl,H4⟩
def Q0I(s:Rn):Rn:=
 let s1:=((s.did (doA s.L ⟨1,0,0,0,0⟩)).Q0h (doA s.L ⟨1,0,0,0,0⟩).1.old).goto 2
 if Q1B (doA s.L ⟨1,0,0,0,0⟩).1.old then s1.goto 1 else s1
theorem X0W{S0:List Nat}{w0 w:World}{m a r:Nat}{rs:List Res}{s:Rn}(H:Q0a S0 w0 m a r rs s w){o l:Int}(hop:s.f.op=o)(hl:s.f.line=l):
 Calls Tryz.prog 115 #[.pointer (some ⟨r,0,none⟩)] w fun e w'=>e= .returned (.tuple #[])∧Q0a S0 w0 m a r rs (Q0I s) w':=by
 have HVB:=Lib.hid (H.old ⟨1,0,0,0,0⟩)
 have HH:=Lib.hid H
 clear H
 unfold Q0I
 dsimp only
 cases hb:Q1B (doA s.L ⟨1,0,0,0,0⟩).1.old with
 |true=>
  simp only[if_true]
  go_enter Tryz.func115,Tryz.ntmps115
  go_wp2_with fail
  refine(Q1r HH.out 0).mono ?_
  rintro e w1⟨rfl,H1⟩
  obtain⟨x0,x2,x4,x5,x6,x7⟩:=H1.facts hop hl rfl rfl
  go_wp2_with fail
  refine(Q1j (H1.Q0h (doA s.L ⟨1,0,0,0,0⟩).1.old) 2).mono ?_
  rintro e w2⟨rfl,H2⟩
  obtain⟨x0,x2,x4,x5,x6,x7⟩:=H2.facts hop (l:=2) rfl (x:=(doA s.L ⟨1,0,0,0,0⟩).1.old) rfl rfl
  go_wp2_with fail
  refine(Q5n _ _ HVB.out).mono ?_
  rw[hb]
  rintro e w9⟨rfl,rfl⟩
  go_wp2_with fail
  refine(Q1j H2 1).mono ?_
  rintro e w3⟨rfl,H3⟩
  go_wp2_with fail
  go_end0
  exact⟨rfl,H3⟩
 |false=>
  simp only[Bool.false_eq_true,if_false]
  go_enter Tryz.func115,Tryz.ntmps115
  go_wp2_with fail
  refine(Q1r HH.out 0).mono ?_
  rintro e w1⟨rfl,H1⟩
  obtain⟨x0,x2,x4,x5,x6,x7⟩:=H1.facts hop hl rfl rfl
  go_wp2_with fail
  refine(Q1j (H1.Q0h (doA s.L ⟨1,0,0,0,0⟩).1.old) 2).mono ?_
  rintro e w2⟨rfl,H2⟩
  obtain⟨x0,x2,x4,x5,x6,x7⟩:=H2.facts hop (l:=2) rfl (x:=(doA s.L ⟨1,0,0,0,0⟩).1.old) rfl rfl
  go_wp2_with fail
  refine(Q5n _ _ HVB.out).mono ?_
  rw[hb]
  rintro e w9⟨rfl,rfl⟩
  go_wp2_with fail
  go_end0
  exact⟨rfl,H2⟩
def Rn.Q4A(s:Rn)(p:Int→Bool):Rn:=
 let s1:=(s.did (doA s.L ⟨1,0,0,0,0⟩)).Q0h (doA s.L ⟨1,0,0,0,0⟩).1.old
 if Q1B (doA s.L ⟨1,0,0,0,0⟩).1.old &&p (doA s.L ⟨1,0,0,0,0⟩).1.old then s1.goto 1 else(s1.note 5 0).fin false
theorem Q8f{S0:List Nat}{w0 w:World}{m a r:Nat}{rs:List Res}{s:Rn}(H:Q0a S0 w0 m a r rs s w)(hc:s.notes.length≤900){o l:Int}(hop:s.f.op=o)(hl:s.f.line=l)(fid:FuncId)(first cap:Array Value)(p:Int→Bool)(eg: ∀args w,(callFunc fid args).run Tryz.prog w= .ok (.enter fid args) w)
 (hF: ∀W v s',0≤v∧v<4294967296→Q0a S0 w0 m a r rs s' W→Calls Tryz.prog fid (first++ #[.int .u32 v]++cap) W fun e W'=>e= .returned (.bool (p v))∧Touch [] W W'):
 Calls Tryz.prog 158 #[.pointer (some ⟨r,0,none⟩), .func (.func fid) first cap] w fun e w'=>e= .returned (.tuple #[])∧Q0a S0 w0 m a r rs (s.Q4A p) w':=by
 have HC:=Lib.hid hc
 have HF:=Lib.hid hF
 have HVB:=Lib.hid (H.old ⟨1,0,0,0,0⟩)
 have HH:=Lib.hid H
 clear hc H hF
 unfold Rn.Q4A
 dsimp only
 cases hb:Q1B (doA s.L ⟨1,0,0,0,0⟩).1.old with
 |true=>
  cases hp:p (doA s.L ⟨1,0,0,0,0⟩).1.old with
  |true=>
   simp only[Bool.and_self,if_true]
   go_enter Tryz.func158,Tryz.ntmps158
   go_wp2_with fail
   refine(Q1r HH.out 0).mono ?_
   rintro e w1⟨rfl,H1⟩
   obtain⟨x0,x2,x4,x5,x6,x7⟩:=H1.facts hop hl rfl rfl
   go_wp2_with fail
   refine(Q5n _ _ HVB.out).mono ?_
   rw[hb]
   rintro e w9⟨rfl,rfl⟩
   go_wp2_with fail
   refine(HF.out _ _ _ HVB.out (H1.Q0h _)).mono ?_
   rw[hp]
   rintro e w2⟨rfl,t2⟩
   have H2:=(H1.Q0h (doA s.L ⟨1,0,0,0,0⟩).1.old).grow t2
   go_wp2_with fail
   refine(Q1j H2 1).mono ?_
   rintro e w3⟨rfl,H3⟩
   go_wp2_with fail
   (try simp only[Exit.inBlock,Exit.then]);refine bodyPost_ret (results_none rfl _ _ _) rfl ?_
   exact⟨rfl,H3⟩
  |false=>
   simp only[Bool.and_false,Bool.false_eq_true,if_false]
   go_enter Tryz.func158,Tryz.ntmps158
   go_wp2_with fail
   refine(Q1r HH.out 0).mono ?_
   rintro e w1⟨rfl,H1⟩
   obtain⟨x0,x2,x4,x5,x6,x7⟩:=H1.facts hop hl rfl rfl
   go_wp2_with fail
   refine(Q5n _ _ HVB.out).mono ?_
   rw[hb]
   rintro e w9⟨rfl,rfl⟩
   go_wp2_with fail
   refine(HF.out _ _ _ HVB.out (H1.Q0h _)).mono ?_
   rw[hp]
   rintro e w2⟨rfl,t2⟩
   have H2:=(H1.Q0h (doA s.L ⟨1,0,0,0,0⟩).1.old).grow t2
   go_wp2_with fail
   refine(Q0r H2 (by have:=HC.out;first|exact Nat.le_trans this (by decide)|(simp[Rn.note,Rn.did,Rn.Q0h,Rn.setB,Rn.waited,Rn.goto,Rn.Q0d];omega)) 5 0).mono ?_
   rintro e w3⟨rfl,H3⟩
   go_wp2_with fail
   refine(Q1x H3 false).mono ?_
   rintro e w4⟨rfl,H4⟩
   go_wp2_with fail
   go_end0
   exact⟨rfl,H4⟩
 |false=>
  simp only[Bool.false_and,Bool.false_eq_true,if_false]
  go_enter Tryz.func158,Tryz.ntmps158
  go_wp2_with fail
  refine(Q1r HH.out 0).mono ?_
  rintro e w1⟨rfl,H1⟩
  obtain⟨x0,x2,x4,x5,x6,x7⟩:=H1.facts hop hl rfl rfl
  go_wp2_with fail
  refine(Q5n _ _ HVB.out).mono ?_
  rw[hb]
  rintro e w9⟨rfl,rfl⟩
  go_wp2_with fail
  have H2:=H1.Q0h (doA s.L ⟨1,0,0,0,0⟩).1.old
  refine(Q0r H2 (by have:=HC.out;first|exact Nat.le_trans this (by decide)|(simp[Rn.note,Rn.did,Rn.Q0h,Rn.setB,Rn.waited,Rn.goto,Rn.Q0d];omega)) 5 0).mono ?_
  rintro e w3⟨rfl,H3⟩
  go_wp2_with fail
  refine(Q1x H3 false).mono ?_
  rintro e w4⟨rfl,H4⟩
  go_wp2_with fail
  go_end0
  exact⟨rfl,H4⟩
def Rn.Q3K(s:Rn)(more cls note:Int):Rn:=
 let s1:=s.did (doA s.L ⟨5,0,s.f.a,(s.f.a+more)%4294967296,0⟩)
 if Q7N s.L 0 s.f.a ((s.f.a+more)%4294967296)then(if cls=0 then s1 else s1.note 2 cls).Q1Q false [note]else s1.goto 0
theorem X2d{S0:List Nat}{w0 w:World}{m a r:Nat}{rs:List Res}{s:Rn}(H:Q0a S0 w0 m a r rs s w)(hc:s.notes.length≤900){o l:Int}(hop:s.f.op=o)(hl:s.f.line=l)(ha:0≤s.f.a∧s.f.a<4294967296)(more cls note:Int)(hm:0≤more∧more<4294967296):
 Calls Tryz.prog 162 #[.pointer (some ⟨r,0,none⟩), .int .u32 more, .int .i64 cls, .int .i64 note] w fun e w'=>e= .returned (.tuple #[])∧Q0a S0 w0 m a r rs (s.Q3K more cls note) w':=by
 obtain⟨z0,z2,z4,z5,z6,z7⟩:=H.facts hop hl rfl rfl
 have hcas:=fun W (H:Q0a S0 w0 m a r rs s W)=>Q6m H 0 s.f.a ((s.f.a+more)%4294967296) ha (by omega)
 have HC:=Lib.hid hc
 unfold Rn.Q3K
 dsimp only
 have HH:=Lib.hid H
 clear H ha hc
 cases hb:Q7N s.L 0 s.f.a ((s.f.a+more)%4294967296)with
 |true=>
  rw[hb]at hcas
  have HCAS:=Lib.hid hcas
  clear hcas
  simp only[if_true]
  by_cases hcl:cls=0
  ·subst hcl
   simp only[if_true]
   go_enter Tryz.func162,Tryz.ntmps162
   go_wp2_with fail
   refine Q1a (by kernel_rfl) (by kernel_rfl) ?_
   simp only[Q0G,probes,List.nil_append,List.cons_append,probe]
   go_wp2_with fail
   refine(HCAS.out _ HH.out.drew).mono ?_
   rintro e w1⟨rfl,H1⟩
   go_wp2_with fail
   rw[Q0g]
   rename_i hK
   refine hK _ _ ?_
   clear hK
   go_wp2_with fail
   refine(Q9r (l:=[note]) (H1.box rfl _ _) rfl (by have:=HC.out;first|exact Nat.le_trans this (by decide)|(simp[List.length_cons,Rn.note,Rn.did,Rn.Q0h,Rn.setB,Rn.waited,Rn.goto,Rn.Q0d];omega)) false).mono ?_
   rintro e w5⟨rfl,H5⟩
   go_wp2_with fail
   go_end0
   exact⟨rfl,H5.Q0N⟩
  ·rw[if_neg hcl]
   have hcl2:(cls !=0)=true:=by simpa using hcl
   clear hcl
   go_enter Tryz.func162,Tryz.ntmps162
   go_wp2_with fail
   refine Q1a (by kernel_rfl) (by kernel_rfl) ?_
   simp only[Q0G,probes,List.nil_append,List.cons_append,probe]
   go_wp2_with fail
   refine(HCAS.out _ HH.out.drew).mono ?_
   rintro e w1⟨rfl,H1⟩
   go_wp2_with fail
   rw[Q0g]
   rename_i hK
   refine hK _ _ ?_
   clear hK
   go_wp2_with fail
   refine(Q0r H1 (by have:=HC.out;first|exact Nat.le_trans this (by decide)|(simp[Rn.note,Rn.did,Rn.Q0h,Rn.setB,Rn.waited,Rn.goto,Rn.Q0d];omega)) 2 cls).mono ?_
   rintro e w2⟨rfl,H2⟩
   go_wp2_with fail
   refine(Q9r (l:=[note]) (H2.box rfl _ _) rfl (by have:=HC.out;first|exact Nat.le_trans this (by decide)|(simp[List.length_cons,Rn.note,Rn.did,Rn.Q0h,Rn.setB,Rn.waited,Rn.goto,Rn.Q0d];omega)) false).mono ?_
   rintro e w5⟨rfl,H5⟩
   go_wp2_with fail
   go_end0
   exact⟨rfl,H5.Q0N⟩
 |false=>
  rw[hb]at hcas
  have HCAS:=Lib.hid hcas
  clear hcas
  simp only[Bool.false_eq_true,if_false]
  go_enter Tryz.func162,Tryz.ntmps162
  go_wp2_with fail
  refine Q1a (by kernel_rfl) (by kernel_rfl) ?_
  simp only[Q0G,probes,List.nil_append,List.cons_append,probe]
  go_wp2_with fail
  refine(HCAS.out _ HH.out.drew).mono ?_
  rintro e w1⟨rfl,H1⟩
  go_wp2_with fail
  rw[Q0g]
  rename_i hK
  refine hK _ _ ?_
  clear hK
  go_wp2_with fail
  refine(Q1j H1 0).mono ?_
  rintro e w2⟨rfl,H2⟩
  go_wp2_with fail
  (try simp only[Exit.inBlock,Exit.then]);refine bodyPost_ret (results_none rfl _ _ _) rfl ?_
  exact⟨rfl,H2⟩
theorem Y2O(v:Int)(w:World)(hv:0≤v∧v<4294967296):Calls Tryz.prog 159 #[.int .u32 v] w fun e w'=>e= .returned (.bool (true))∧Touch [] w w':=by
 go_enter Tryz.func159,Tryz.ntmps159
 go_wp2
 go_ret
 exact⟨rfl,Touch.refl _ _⟩
theorem Y2N(v:Int)(w:World)(hv:0≤v∧v<4294967296):Calls Tryz.prog 160 #[.int .u32 v] w fun e w'=>e= .returned (.bool (wfR v==0))∧Touch [] w w':=by
 go_enter Tryz.func160,Tryz.ntmps160
 go_wp2_with fail
 refine(Q7h v _ hv).mono ?_
 rintro e w1⟨rfl,rfl⟩
 go_wp2
 go_ret
 exact⟨rfl,Touch.refl _ _⟩
theorem Y2M(v:Int)(w:World)(hv:0≤v∧v<4294967296):Calls Tryz.prog 161 #[.int .u32 v] w fun e w'=>e= .returned (.bool (wfR v==1))∧Touch [] w w':=by
 go_enter Tryz.func161,Tryz.ntmps161
 go_wp2_with fail
 refine(Q7h v _ hv).mono ?_
 rintro e w1⟨rfl,rfl⟩
 go_wp2
 go_ret
 exact⟨rfl,Touch.refl _ _⟩
theorem Y2K(x v:Int){b:Nat}(w:World)(hv:0≤v∧v<4294967296)(hb:Blk w b #[.int .u32 x]):
 Calls Tryz.prog 120 #[.int .u32 v, .pointer (some ⟨b,0,none⟩)] w fun e w'=>e= .returned (.bool (wfT v==x &&wfR v==0))∧Touch [] w w':=by
 obtain⟨x0,x1,x2⟩:=hb.own
 have hg:=fun W=>Q8Q v W hv
 rw[show v/256%256=wfT v from rfl]at hg
 have HG:=Lib.hid hg
 clear hg
 cases ht:wfT v==x with
 |true=>
  go_enter Tryz.func120,Tryz.ntmps120
  go_wp2_with fail
  refine Q0u 1 rfl (by kernel_rfl) (by kernel_rfl) ?_
  simp only[List.take_succ_cons,List.take_zero,List.drop_succ_cons,List.drop_zero,Q0G,probes,List.nil_append]
  go_wp2_with fail
  rw[Q0g]
  refine Q0W (.int .u32 (wfT v)) rfl rfl (enters_of Tryz.func119 (by kernel_rfl) rfl) (by simp[Act.eval]) (fun W _=>HG.out W) ?_
  simp only[Q0G,probes,List.nil_append]
  go_wp2_with fail
  refine(Q7h v _ hv).mono ?_
  rintro e w1⟨rfl,rfl⟩
  go_wp2_with fail
  rw[Q0g]
  rename_i hK
  refine hK _ _ ?_
  go_wp2
  go_ret
  exact⟨by simp,(Touch.refl _ _).drew⟩
 |false=>
  go_enter Tryz.func120,Tryz.ntmps120
  go_wp2_with fail
  refine Q0u 1 rfl (by kernel_rfl) (by kernel_rfl) ?_
  simp only[List.take_succ_cons,List.take_zero,List.drop_succ_cons,List.drop_zero,Q0G,probes,List.nil_append]
  go_wp2_with fail
  rw[Q0g]
  refine Q0W (.int .u32 (wfT v)) rfl rfl (enters_of Tryz.func119 (by kernel_rfl) rfl) (by simp[Act.eval]) (fun W _=>HG.out W) ?_
  simp only[Q0G,probes,List.nil_append]
  go_wp2_with fail
  rw[Q0g]
  rename_i hK
  refine hK _ _ ?_
  go_wp2
  go_ret
  exact⟨by simp,(Touch.refl _ _).drew⟩
theorem X9P{m r b:Nat}{nv:Value}{s:Rn}(v:Int)(w:World)(hv:0≤v∧v<4294967296)(hr:Blk w r (Q0V m s nv))(hb:Blk w b #[.pointer (some ⟨r,4,none⟩)]):
 Calls Tryz.prog 117 #[.int .u32 v, .pointer (some ⟨b,0,none⟩)] w fun e w'=>e= .returned (.bool (Q1B v))∧Touch [r] w w'∧Blk w' r (Q0V m (if Q1B v then s.Q0h v else s) nv):=by
 obtain⟨n,mode,task,⟨op,line,fa,fb,st,⟨on,wc,wi,hit⟩,ret⟩,⟨ak,ac,ax,ay,ao⟩,notes,L⟩:=s
 obtain⟨x0,x1,x2⟩:=hb.own
 cases hcm:Q1B v with
 |true=>
  simp only[Q0V,if_true,Rn.Q0h]at hr⊢
  obtain⟨y0,y1,y2⟩:=hr.own
  have HR:=Lib.hid hr
  clear hr
  go_enter Tryz.func117,Tryz.ntmps117
  go_wp2_with fail
  refine(Q5n v _ hv).mono ?_
  rw[hcm]
  rintro e w1⟨rfl,rfl⟩
  go_wp2_with fail
  refine(Q5n v _ hv).mono ?_
  rw[hcm]
  rintro e w1⟨rfl,rfl⟩
  go_wp2
  go_ret
  refine⟨rfl,(Touch.refl _ _).set (by simp) _,?_⟩
  have:=HR.out.set 6 (.int .u32 v)
  simp only[List.setIfInBounds_toArray,List.set_cons_zero,List.set_cons_succ]at this
  exact this
 |false=>
  simp only[Q0V,Bool.false_eq_true,if_false]at hr⊢
  have HR:=Lib.hid hr
  clear hr
  go_enter Tryz.func117,Tryz.ntmps117
  go_wp2_with fail
  refine(Q5n v _ hv).mono ?_
  rw[hcm]
  rintro e w1⟨rfl,rfl⟩
  go_wp2_with fail
  refine(Q5n v _ hv).mono ?_
  rw[hcm]
  rintro e w1⟨rfl,rfl⟩
  go_wp2
  go_ret
  exact⟨rfl,Touch.refl _ _,HR.out⟩
attribute [local go_sem↓] Go.wp_at_zero Go.wp_at_succ
def Y4K(s:Rn):Rn:=
 (Q0I s).note 2 1
theorem wf_10{S0:List Nat}{w0 w:World}{m a r:Nat}{rs:List Res}{s:Rn}(H:Q0a S0 w0 m a r rs s w)(hop:s.f.op=1)(hl:s.f.line=0)(hn:I64 s.n)(ha:0≤s.f.a∧s.f.a<4294967296)(hc:s.notes.length≤900):
 Calls Tryz.prog 72 #[.pointer (some ⟨r,0,none⟩)] w fun e w'=>e= .returned (.tuple #[])∧Q0a S0 w0 m a r rs (Y4K s) w':=by
 obtain⟨z0,z2,z4,z5,z6,z7⟩:=H.facts hop hl rfl rfl
 have HC:=Lib.hid hc
 have HA:=Lib.hid ha
 have HN:=Lib.hid hn
 have HH:=Lib.hid (H.box rfl #[.pointer (some ⟨r,4,none⟩)] 150)
 clear hc H hn ha
 unfold Y4K
 go_enter Tryz.func72,Tryz.ntmps72
 go_wp2_with fail
 go_quiet (fail)
 have HW:=HH.out.drewN nq
 clear z0 z2 z4 z5 z6 z7
 generalize w.heap.size=tb at HW⊢
 generalize (World.drewN _ nq)=W at HW⊢
 obtain⟨z0,z2,z4,z5,z6,z7⟩:=HW.facts hop hl rfl rfl
 obtain⟨u0,u1,u2⟩:=HW.first.own
 go_wp2_with fail
 refine(X0W HW hop hl).mono ?_
 rintro e w1⟨rfl,H1⟩
 go_wp2_with fail
 refine(Q0r H1 (by unfold Q0I;dsimp only;have:=HC.out;split<;>exact Nat.le_trans this (by decide)) 2 1).mono ?_
 rintro e w2⟨rfl,H2⟩
 go_wp2_with fail
 go_end0
 exact⟨rfl,H2.Q0N⟩
def Y4I(s:Rn):Rn:=
 Q0I s
theorem wf_13{S0:List Nat}{w0 w:World}{m a r:Nat}{rs:List Res}{s:Rn}(H:Q0a S0 w0 m a r rs s w)(hop:s.f.op=1)(hl:s.f.line=3)(hn:I64 s.n)(ha:0≤s.f.a∧s.f.a<4294967296)(hc:s.notes.length≤900):
 Calls Tryz.prog 72 #[.pointer (some ⟨r,0,none⟩)] w fun e w'=>e= .returned (.tuple #[])∧Q0a S0 w0 m a r rs (Y4I s) w':=by
 obtain⟨z0,z2,z4,z5,z6,z7⟩:=H.facts hop hl rfl rfl
 have HC:=Lib.hid hc
 have HA:=Lib.hid ha
 have HN:=Lib.hid hn
 have HH:=Lib.hid (H.box rfl #[.pointer (some ⟨r,4,none⟩)] 150)
 clear hc H hn ha
 unfold Y4I
 go_enter Tryz.func72,Tryz.ntmps72
 go_wp2_with fail
 go_quiet (fail)
 have HW:=HH.out.drewN nq
 clear z0 z2 z4 z5 z6 z7
 generalize w.heap.size=tb at HW⊢
 generalize (World.drewN _ nq)=W at HW⊢
 obtain⟨z0,z2,z4,z5,z6,z7⟩:=HW.facts hop hl rfl rfl
 obtain⟨u0,u1,u2⟩:=HW.first.own
 go_wp2_with fail
 refine(X0W HW hop hl).mono ?_
 rintro e w1⟨rfl,H1⟩
 go_wp2_with fail
 go_end0
 exact⟨rfl,H1.Q0N⟩
def Y4J(s:Rn):Rn:=
 if Q7N s.L 0 s.f.a ((s.f.a+1)%4294967296)then(s.did (doA s.L ⟨5,0,s.f.a,(s.f.a+1)%4294967296,0⟩)).Q1Q false [4]else(s.did (doA s.L ⟨5,0,s.f.a,(s.f.a+1)%4294967296,0⟩)).goto 3
theorem wf_11{S0:List Nat}{w0 w:World}{m a r:Nat}{rs:List Res}{s:Rn}(H:Q0a S0 w0 m a r rs s w)(hop:s.f.op=1)(hl:s.f.line=1)(hn:I64 s.n)(ha:0≤s.f.a∧s.f.a<4294967296)(hc:s.notes.length≤900):
 Calls Tryz.prog 72 #[.pointer (some ⟨r,0,none⟩)] w fun e w'=>e= .returned (.tuple #[])∧Q0a S0 w0 m a r rs (Y4J s) w':=by
 obtain⟨z0,z2,z4,z5,z6,z7⟩:=H.facts hop hl rfl rfl
 have HC:=Lib.hid hc
 have HA:=Lib.hid ha
 have HN:=Lib.hid hn
 have HH:=Lib.hid (H.box rfl #[.pointer (some ⟨r,4,none⟩)] 150)
 clear hc H hn ha
 unfold Y4J
 have hcas:=fun W rs (H:Q0a S0 w0 m a r rs s W)=>Q6m H 0 s.f.a ((s.f.a+1)%4294967296) HA.out (by have:=HA.out;omega)
 cases hb:Q7N s.L 0 s.f.a ((s.f.a+1)%4294967296)with
 |true=>
  rw[hb]at hcas
  simp only[if_true]
  have HCAS:=Lib.hid hcas
  clear hcas hb
  go_enter Tryz.func72,Tryz.ntmps72
  go_wp2_with fail
  go_quiet (fail)
  have HW:=HH.out.drewN nq
  clear z0 z2 z4 z5 z6 z7
  generalize w.heap.size=tb at HW⊢
  generalize (World.drewN _ nq)=W at HW⊢
  obtain⟨z0,z2,z4,z5,z6,z7⟩:=HW.facts hop hl rfl rfl
  obtain⟨u0,u1,u2⟩:=HW.first.own
  go_wp2_with fail
  refine Q1a (by kernel_rfl) (by kernel_rfl) ?_
  simp only[Q0G,probes,List.nil_append,List.cons_append,probe]
  go_wp2_with fail
  refine(HCAS.out _ _ HW.drew).mono ?_
  rintro e w1⟨rfl,H1⟩
  go_wp2_with fail
  rw[Q0g]
  rename_i hK
  refine hK _ _ ?_
  clear hK
  go_wp2_with fail
  refine(Q9r (l:=[4]) (H1.box rfl _ _) rfl (by have:=HC.out;first|exact Nat.le_trans this (by decide)|(simp[List.length_cons,Rn.note,Rn.did,Rn.Q0h,Rn.setB,Rn.waited,Rn.goto,Rn.Q0d];omega)) false).mono ?_
  rintro e w8⟨rfl,H8⟩
  go_wp2_with fail
  go_end0
  exact⟨rfl,H8.Q0N.Q0N⟩
 |false=>
  rw[hb]at hcas
  simp only[Bool.false_eq_true,if_false]
  have HCAS:=Lib.hid hcas
  clear hcas hb
  go_enter Tryz.func72,Tryz.ntmps72
  go_wp2_with fail
  go_quiet (fail)
  have HW:=HH.out.drewN nq
  clear z0 z2 z4 z5 z6 z7
  generalize w.heap.size=tb at HW⊢
  generalize (World.drewN _ nq)=W at HW⊢
  obtain⟨z0,z2,z4,z5,z6,z7⟩:=HW.facts hop hl rfl rfl
  obtain⟨u0,u1,u2⟩:=HW.first.own
  go_wp2_with fail
  refine Q1a (by kernel_rfl) (by kernel_rfl) ?_
  simp only[Q0G,probes,List.nil_append,List.cons_append,probe]
  go_wp2_with fail
  refine(HCAS.out _ _ HW.drew).mono ?_
  rintro e w1⟨rfl,H1⟩
  go_wp2_with fail
  rw[Q0g]
  rename_i hK
  refine hK _ _ ?_
  clear hK
  go_wp2_with fail
  refine(Q1j H1 3).mono ?_
  rintro e w2⟨rfl,H2⟩
  go_wp2_with fail
  go_end0
  exact⟨rfl,H2.Q0N⟩
def Y2W(s:Rn):Rn:=
 let s1:=(s.keep (Q0t s.L s.n s.mode s.task s.f.st 0 Q1B)).waited (Q0t s.L s.n s.mode s.task s.f.st 0 Q1B)
 if(Q0t s.L s.n s.mode s.task s.f.st 0 Q1B).done then s1.goto 1 else s1
theorem wf_12{S0:List Nat}{w0 w:World}{m a r:Nat}{rs:List Res}{s:Rn}(H:Q0a S0 w0 m a r rs s w)(hop:s.f.op=1)(hl:s.f.line=2)(hn:I64 s.n)(ha:0≤s.f.a∧s.f.a<4294967296)(hc:s.notes.length≤900):
 Calls Tryz.prog 72 #[.pointer (some ⟨r,0,none⟩)] w fun e w'=>e= .returned (.tuple #[])∧Q0a S0 w0 m a r rs (Y2W s) w':=by
 obtain⟨z0,z2,z4,z5,z6,z7⟩:=H.facts hop hl rfl rfl
 have HC:=Lib.hid hc
 have HA:=Lib.hid ha
 have HN:=Lib.hid hn
 have HH:=Lib.hid (H.box rfl #[.pointer (some ⟨r,4,none⟩)] 150)
 clear hc H hn ha
 unfold Y2W
 have hwt:=fun(tb:Nat) W (H:Q0a S0 w0 m a r (.blk tb #[.pointer (some ⟨r,4,none⟩)]::rs) s W)=>Q7H H HN.out 0 117 #[] #[.pointer (some ⟨tb,0,none⟩)] Q1B (enters_of Tryz.func117 (by kernel_rfl) rfl) (fun W nv v h0 h1 HX=>X9P v W ⟨h0,h1⟩ HX.Q7A (HX.at_ 3 rfl))
 generalize (Q0t s.L s.n s.mode s.task s.f.st 0 Q1B).seen=sn at hwt
 cases hd:(Q0t s.L s.n s.mode s.task s.f.st 0 Q1B).done<;>rw[hd]at hwt<;>simp only[if_true,Bool.false_eq_true,if_false]<;>(have HWT:=Lib.hid hwt)<;>clear hwt hd
 ·go_enter Tryz.func72,Tryz.ntmps72
  go_wp2_with fail
  go_quiet (fail)
  have HW:=HH.out.drewN nq
  clear z0 z2 z4 z5 z6 z7
  generalize w.heap.size=tb at HW⊢
  generalize (World.drewN _ nq)=W at HW⊢
  obtain⟨z0,z2,z4,z5,z6,z7⟩:=HW.facts hop hl rfl rfl
  obtain⟨u0,u1,u2⟩:=HW.first.own
  go_wp2_with fail
  refine(HWT.out _ _ HW).mono ?_
  rintro e w1⟨rfl,H1⟩
  go_wp2_with fail
  go_end0
  exact⟨rfl,H1.Q0N⟩
 ·go_enter Tryz.func72,Tryz.ntmps72
  go_wp2_with fail
  go_quiet (fail)
  have HW:=HH.out.drewN nq
  clear z0 z2 z4 z5 z6 z7
  generalize w.heap.size=tb at HW⊢
  generalize (World.drewN _ nq)=W at HW⊢
  obtain⟨z0,z2,z4,z5,z6,z7⟩:=HW.facts hop hl rfl rfl
  obtain⟨u0,u1,u2⟩:=HW.first.own
  go_wp2_with fail
  refine(HWT.out _ _ HW).mono ?_
  rintro e w1⟨rfl,H1⟩
  go_wp2_with fail
  refine(Q1j H1 1).mono ?_
  rintro e w2⟨rfl,H2⟩
  go_wp2_with fail
  go_end0
  exact⟨rfl,H2.Q0N⟩
def Y4H(s:Rn):Rn:=
 (s.did (doA s.L ⟨3,0,4294967295,0,0⟩)).Q1Q true [6]
theorem wf_20{S0:List Nat}{w0 w:World}{m a r:Nat}{rs:List Res}{s:Rn}(H:Q0a S0 w0 m a r rs s w)(hop:s.f.op=2)(hl:s.f.line=0)(hn:I64 s.n)(ha:0≤s.f.a∧s.f.a<4294967296)(hc:s.notes.length≤900):
 Calls Tryz.prog 72 #[.pointer (some ⟨r,0,none⟩)] w fun e w'=>e= .returned (.tuple #[])∧Q0a S0 w0 m a r rs (Y4H s) w':=by
 obtain⟨z0,z2,z4,z5,z6,z7⟩:=H.facts hop hl rfl rfl
 have HC:=Lib.hid hc
 have HA:=Lib.hid ha
 have HN:=Lib.hid hn
 have HH:=Lib.hid (H.box rfl #[.pointer (some ⟨r,4,none⟩)] 150)
 clear hc H hn ha
 unfold Y4H
 go_enter Tryz.func72,Tryz.ntmps72
 go_wp2_with fail
 go_quiet (fail)
 have HW:=HH.out.drewN nq
 clear z0 z2 z4 z5 z6 z7
 generalize w.heap.size=tb at HW⊢
 generalize (World.drewN _ nq)=W at HW⊢
 obtain⟨z0,z2,z4,z5,z6,z7⟩:=HW.facts hop hl rfl rfl
 obtain⟨u0,u1,u2⟩:=HW.first.own
 go_wp2_with fail
 refine(Q2f HW 0 4294967295 (by decide)).mono ?_
 rintro e w1⟨rfl,H1⟩
 go_wp2_with fail
 refine(Q9r (l:=[6]) (H1.box rfl _ _) rfl (by have:=HC.out;first|exact Nat.le_trans this (by decide)|(simp[List.length_cons,Rn.note,Rn.did,Rn.Q0h,Rn.setB,Rn.waited,Rn.goto,Rn.Q0d];omega)) true).mono ?_
 rintro e w8⟨rfl,H8⟩
 go_wp2_with fail
 go_end0
 exact⟨rfl,H8.Q0N.Q0N⟩
def Y4G(s:Rn):Rn:=
 (((s.did (doA s.L ⟨3,0,65536,0,0⟩)).Q0h (doA s.L ⟨3,0,65536,0,0⟩).1.old).note 2 2).goto 1
theorem wf_30{S0:List Nat}{w0 w:World}{m a r:Nat}{rs:List Res}{s:Rn}(H:Q0a S0 w0 m a r rs s w)(hop:s.f.op=3)(hl:s.f.line=0)(hn:I64 s.n)(ha:0≤s.f.a∧s.f.a<4294967296)(hc:s.notes.length≤900):
 Calls Tryz.prog 72 #[.pointer (some ⟨r,0,none⟩)] w fun e w'=>e= .returned (.tuple #[])∧Q0a S0 w0 m a r rs (Y4G s) w':=by
 obtain⟨z0,z2,z4,z5,z6,z7⟩:=H.facts hop hl rfl rfl
 have HC:=Lib.hid hc
 have HA:=Lib.hid ha
 have HN:=Lib.hid hn
 have HH:=Lib.hid (H.box rfl #[.pointer (some ⟨r,4,none⟩)] 150)
 clear hc H hn ha
 unfold Y4G
 go_enter Tryz.func72,Tryz.ntmps72
 go_wp2_with fail
 go_quiet (fail)
 have HW:=HH.out.drewN nq
 clear z0 z2 z4 z5 z6 z7
 generalize w.heap.size=tb at HW⊢
 generalize (World.drewN _ nq)=W at HW⊢
 obtain⟨z0,z2,z4,z5,z6,z7⟩:=HW.facts hop hl rfl rfl
 obtain⟨u0,u1,u2⟩:=HW.first.own
 go_wp2_with fail
 have hne:=HW.X8A
 have hd: ∀i,W.drew.cell? ⟨tb,i,none⟩=(#[.pointer (some ⟨r,4,none⟩)]:Array Value)[i]? :=u1
 have HADD:=Lib.hid (fun W rs (H:Q0a S0 w0 m a r rs s W)=>Q2f H 0 65536 (by decide))
 go_region_held3 (fun w'=> ∀i,w'.cell? ⟨tb,i,none⟩=(#[.pointer (some ⟨r,4,none⟩)]:Array Value)[i]?)
  (first|assumption|(intro i;rw[World.cell?_setCell_far _ _ _ _ (by exact hne)];apply_assumption)|(intro i;apply_assumption))
  (first|(go_at_call 88;(with_reducible refine(HADD.out _ _ HW.drew).mono ?_);rintro e w1 ⟨rfl,H1⟩;obtain⟨v0,v1,v2⟩:=H1.first.own;obtain⟨x0,x2,x4,x5,x6,x7⟩:=H1.facts hop hl rfl rfl))
 have H2:=H1.Q0h (doA s.L ⟨3,0,65536,0,0⟩).1.old
 go_wp2_with fail
 refine(Q0r H2 (by have:=HC.out;first|exact Nat.le_trans this (by decide)|(simp[Rn.note,Rn.did,Rn.Q0h,Rn.setB,Rn.waited,Rn.goto,Rn.Q0d];omega)) 2 2).mono ?_
 rintro e w3⟨rfl,H3⟩
 go_wp2_with fail
 refine(Q1j H3 1).mono ?_
 rintro e w4⟨rfl,H4⟩
 go_wp2_with fail
 go_end0
 exact⟨rfl,H4.Q0N⟩
def Y2V(s:Rn):Rn:=
 let s1:=s.waited (Q0t s.L s.n s.mode s.task s.f.st 0 (fun v=>wfT v==wfG s.f.a &&wfR v==0))
 let s2:=if(Q0t s.L s.n s.mode s.task s.f.st 0 (fun v=>wfT v==wfG s.f.a &&wfR v==0)).seen then s1.note 4 0 else s1
 if(Q0t s.L s.n s.mode s.task s.f.st 0 (fun v=>wfT v==wfG s.f.a &&wfR v==0)).done then s2.fin true else s2
theorem wf_31{S0:List Nat}{w0 w:World}{m a r:Nat}{rs:List Res}{s:Rn}(H:Q0a S0 w0 m a r rs s w)(hop:s.f.op=3)(hl:s.f.line=1)(hn:I64 s.n)(ha:0≤s.f.a∧s.f.a<4294967296)(hc:s.notes.length≤900):
 Calls Tryz.prog 72 #[.pointer (some ⟨r,0,none⟩)] w fun e w'=>e= .returned (.tuple #[])∧Q0a S0 w0 m a r rs (Y2V s) w':=by
 obtain⟨z0,z2,z4,z5,z6,z7⟩:=H.facts hop hl rfl rfl
 have HC:=Lib.hid hc
 have HA:=Lib.hid ha
 have HN:=Lib.hid hn
 have HH:=Lib.hid (H.box rfl #[.pointer (some ⟨r,4,none⟩)] 150)
 clear hc H hn ha
 unfold Y2V
 have hwt:=fun(t2:Nat) W rs (H:Q0a S0 w0 m a r (.blk t2 #[.int .u32 (wfG s.f.a)]::rs) s W)=>Q3m H HN.out 0 120 #[] #[.pointer (some ⟨t2,0,none⟩)] (fun v=>wfT v==wfG s.f.a &&wfR v==0) (enters_of Tryz.func120 (by kernel_rfl) rfl) (fun W v h0 h1 H=>Y2K (wfG s.f.a) v W ⟨h0,h1⟩ H.first)
 have hgv:=fun W=>Q9Y s.f.a W HA.out
 rw[show s.f.a/65536%256=wfG s.f.a from rfl]at hgv
 have HGV:=Lib.hid hgv
 clear hgv
 cases hs:(Q0t s.L s.n s.mode s.task s.f.st 0 (fun v=>wfT v==wfG s.f.a &&wfR v==0)).seen<;>cases hd:(Q0t s.L s.n s.mode s.task s.f.st 0 (fun v=>wfT v==wfG s.f.a &&wfR v==0)).done<;>rw[hs,hd]at hwt<;>simp only[if_true,Bool.false_eq_true,if_false]<;>(have HWT:=Lib.hid hwt)<;>clear hwt hs hd
 ·go_enter Tryz.func72,Tryz.ntmps72
  go_wp2_with fail
  go_quiet (fail)
  have HW:=HH.out.drewN nq
  clear z0 z2 z4 z5 z6 z7
  generalize w.heap.size=tb at HW⊢
  generalize (World.drewN _ nq)=W at HW⊢
  obtain⟨z0,z2,z4,z5,z6,z7⟩:=HW.facts hop hl rfl rfl
  obtain⟨u0,u1,u2⟩:=HW.first.own
  go_wp2_with fail
  refine(HGV.out _).mono ?_
  rintro e w9⟨rfl,rfl⟩
  go_wp2_with fail
  refine(HWT.out _ _ _ (HW.box rfl _ _)).mono ?_
  rintro e w1⟨rfl,H1⟩
  go_wp2_with fail
  go_end0
  exact⟨rfl,H1.Q0N.Q0N⟩
 ·go_enter Tryz.func72,Tryz.ntmps72
  go_wp2_with fail
  go_quiet (fail)
  have HW:=HH.out.drewN nq
  clear z0 z2 z4 z5 z6 z7
  generalize w.heap.size=tb at HW⊢
  generalize (World.drewN _ nq)=W at HW⊢
  obtain⟨z0,z2,z4,z5,z6,z7⟩:=HW.facts hop hl rfl rfl
  obtain⟨u0,u1,u2⟩:=HW.first.own
  go_wp2_with fail
  refine(HGV.out _).mono ?_
  rintro e w9⟨rfl,rfl⟩
  go_wp2_with fail
  refine(HWT.out _ _ _ (HW.box rfl _ _)).mono ?_
  rintro e w1⟨rfl,H1⟩
  go_wp2_with fail
  refine(Q1x H1 true).mono ?_
  rintro e w2⟨rfl,H2⟩
  go_wp2_with fail
  go_end0
  exact⟨rfl,H2.Q0N.Q0N⟩
 ·go_enter Tryz.func72,Tryz.ntmps72
  go_wp2_with fail
  go_quiet (fail)
  have HW:=HH.out.drewN nq
  clear z0 z2 z4 z5 z6 z7
  generalize w.heap.size=tb at HW⊢
  generalize (World.drewN _ nq)=W at HW⊢
  obtain⟨z0,z2,z4,z5,z6,z7⟩:=HW.facts hop hl rfl rfl
  obtain⟨u0,u1,u2⟩:=HW.first.own
  go_wp2_with fail
  refine(HGV.out _).mono ?_
  rintro e w9⟨rfl,rfl⟩
  go_wp2_with fail
  refine(HWT.out _ _ _ (HW.box rfl _ _)).mono ?_
  rintro e w1⟨rfl,H1⟩
  go_wp2_with fail
  refine(Q0r H1 (by have:=HC.out;first|exact Nat.le_trans this (by decide)|(simp[Rn.note,Rn.did,Rn.Q0h,Rn.setB,Rn.waited,Rn.goto,Rn.Q0d];omega)) 4 0).mono ?_
  rintro e w2⟨rfl,H2⟩
  go_wp2_with fail
  go_end0
  exact⟨rfl,H2.Q0N.Q0N⟩
 ·go_enter Tryz.func72,Tryz.ntmps72
  go_wp2_with fail
  go_quiet (fail)
  have HW:=HH.out.drewN nq
  clear z0 z2 z4 z5 z6 z7
  generalize w.heap.size=tb at HW⊢
  generalize (World.drewN _ nq)=W at HW⊢
  obtain⟨z0,z2,z4,z5,z6,z7⟩:=HW.facts hop hl rfl rfl
  obtain⟨u0,u1,u2⟩:=HW.first.own
  go_wp2_with fail
  refine(HGV.out _).mono ?_
  rintro e w9⟨rfl,rfl⟩
  go_wp2_with fail
  refine(HWT.out _ _ _ (HW.box rfl _ _)).mono ?_
  rintro e w1⟨rfl,H1⟩
  go_wp2_with fail
  refine(Q0r H1 (by have:=HC.out;first|exact Nat.le_trans this (by decide)|(simp[Rn.note,Rn.did,Rn.Q0h,Rn.setB,Rn.waited,Rn.goto,Rn.Q0d];omega)) 4 0).mono ?_
  rintro e w2⟨rfl,H2⟩
  go_wp2_with fail
  refine(Q1x H2 true).mono ?_
  rintro e w3⟨rfl,H3⟩
  go_wp2_with fail
  go_end0
  exact⟨rfl,H3.Q0N.Q0N⟩
attribute [local go_sem↓] Go.wp_at_zero Go.wp_at_succ
def Y4F(s:Rn):Rn:=
 ((s.did (doA s.L ⟨1,0,0,0,0⟩)).Q0h (doA s.L ⟨1,0,0,0,0⟩).1.old).goto 1
theorem wf_40{S0:List Nat}{w0 w:World}{m a r:Nat}{rs:List Res}{s:Rn}(H:Q0a S0 w0 m a r rs s w)(hop:s.f.op=4)(hl:s.f.line=0)(hn:I64 s.n)(ha:0≤s.f.a∧s.f.a<4294967296)(hc:s.notes.length≤900):
 Calls Tryz.prog 122 #[.pointer (some ⟨r,0,none⟩)] w fun e w'=>e= .returned (.tuple #[])∧Q0a S0 w0 m a r rs (Y4F s) w':=by
 obtain⟨z0,z2,z4,z5,z6,z7⟩:=H.facts hop hl rfl rfl
 have HC:=Lib.hid hc
 have HA:=Lib.hid ha
 have HN:=Lib.hid hn
 have HH:=Lib.hid H
 clear hc H hn ha
 unfold Y4F
 go_enter Tryz.func122,Tryz.ntmps122
 go_wp2_with fail
 go_quiet (fail)
 have HW:=HH.out.drewN nq
 clear z0 z2 z4 z5 z6 z7
 generalize w.drewN nq=W at HW⊢
 obtain⟨z0,z2,z4,z5,z6,z7⟩:=HW.facts hop hl rfl rfl
 go_wp2_with fail
 refine(Q1r HW 0).mono ?_
 rintro e w1⟨rfl,H1⟩
 obtain⟨x0,x2,x4,x5,x6,x7⟩:=H1.facts hop hl rfl rfl
 go_wp2_with fail
 refine(Q1j (H1.Q0h (doA s.L ⟨1,0,0,0,0⟩).1.old) 1).mono ?_
 rintro e w2⟨rfl,H2⟩
 go_wp2_with fail
 go_end0
 exact⟨rfl,H2⟩
def Y4x(s:Rn):Rn:=
 ((s.did (doA s.L ⟨1,0,0,0,0⟩)).Q0h (doA s.L ⟨1,0,0,0,0⟩).1.old).goto 1
theorem wf_80{S0:List Nat}{w0 w:World}{m a r:Nat}{rs:List Res}{s:Rn}(H:Q0a S0 w0 m a r rs s w)(hop:s.f.op=8)(hl:s.f.line=0)(hn:I64 s.n)(ha:0≤s.f.a∧s.f.a<4294967296)(hc:s.notes.length≤900):
 Calls Tryz.prog 122 #[.pointer (some ⟨r,0,none⟩)] w fun e w'=>e= .returned (.tuple #[])∧Q0a S0 w0 m a r rs (Y4x s) w':=by
 obtain⟨z0,z2,z4,z5,z6,z7⟩:=H.facts hop hl rfl rfl
 have HC:=Lib.hid hc
 have HA:=Lib.hid ha
 have HN:=Lib.hid hn
 have HH:=Lib.hid H
 clear hc H hn ha
 unfold Y4x
 go_enter Tryz.func122,Tryz.ntmps122
 go_wp2_with fail
 go_quiet (fail)
 have HW:=HH.out.drewN nq
 clear z0 z2 z4 z5 z6 z7
 generalize w.drewN nq=W at HW⊢
 obtain⟨z0,z2,z4,z5,z6,z7⟩:=HW.facts hop hl rfl rfl
 go_wp2_with fail
 refine(Q1r HW 0).mono ?_
 rintro e w1⟨rfl,H1⟩
 obtain⟨x0,x2,x4,x5,x6,x7⟩:=H1.facts hop hl rfl rfl
 go_wp2_with fail
 refine(Q1j (H1.Q0h (doA s.L ⟨1,0,0,0,0⟩).1.old) 1).mono ?_
 rintro e w2⟨rfl,H2⟩
 go_wp2_with fail
 go_end0
 exact⟨rfl,H2⟩
def Y4E(s:Rn):Rn:=
 (s.did (doA s.L ⟨3,0,Q3w s.f.a,0,0⟩)).Q1Q true [7,8]
theorem wf_41{S0:List Nat}{w0 w:World}{m a r:Nat}{rs:List Res}{s:Rn}(H:Q0a S0 w0 m a r rs s w)(hop:s.f.op=4)(hl:s.f.line=1)(hn:I64 s.n)(ha:0≤s.f.a∧s.f.a<4294967296)(hc:s.notes.length≤900):
 Calls Tryz.prog 122 #[.pointer (some ⟨r,0,none⟩)] w fun e w'=>e= .returned (.tuple #[])∧Q0a S0 w0 m a r rs (Y4E s) w':=by
 obtain⟨z0,z2,z4,z5,z6,z7⟩:=H.facts hop hl rfl rfl
 have HC:=Lib.hid hc
 have HA:=Lib.hid ha
 have HN:=Lib.hid hn
 have HH:=Lib.hid H
 clear hc H hn ha
 unfold Y4E
 go_enter Tryz.func122,Tryz.ntmps122
 go_wp2_with fail
 go_quiet (fail)
 have HW:=HH.out.drewN nq
 clear z0 z2 z4 z5 z6 z7
 generalize w.drewN nq=W at HW⊢
 obtain⟨z0,z2,z4,z5,z6,z7⟩:=HW.facts hop hl rfl rfl
 go_wp2_with fail
 refine(X6b _ _ HA.out).mono ?_
 rintro e w9⟨rfl,rfl⟩
 go_wp2_with fail
 refine(Q2f HW 0 (Q3w s.f.a) (by have:0≤Q3w s.f.a∧Q3w s.f.a<4294967296:=(by unfold Q3w;omega);omega)).mono ?_
 rintro e w1⟨rfl,H1⟩
 go_wp2_with fail
 refine(Q9r (l:=[7,8]) (H1.box rfl _ _) rfl (by have:=HC.out;first|exact Nat.le_trans this (by decide)|(simp[List.length_cons,Rn.note,Rn.did,Rn.Q0h,Rn.setB,Rn.waited,Rn.goto,Rn.Q0d];omega)) true).mono ?_
 rintro e w8⟨rfl,H8⟩
 go_wp2_with fail
 go_end0
 exact⟨rfl,H8.Q0N⟩
def Y4w(s:Rn):Rn:=
 (s.did (doA s.L ⟨3,0,((Q3w s.f.a+1)%4294967296),0,0⟩)).Q1Q true [10]
theorem wf_81{S0:List Nat}{w0 w:World}{m a r:Nat}{rs:List Res}{s:Rn}(H:Q0a S0 w0 m a r rs s w)(hop:s.f.op=8)(hl:s.f.line=1)(hn:I64 s.n)(ha:0≤s.f.a∧s.f.a<4294967296)(hc:s.notes.length≤900):
 Calls Tryz.prog 122 #[.pointer (some ⟨r,0,none⟩)] w fun e w'=>e= .returned (.tuple #[])∧Q0a S0 w0 m a r rs (Y4w s) w':=by
 obtain⟨z0,z2,z4,z5,z6,z7⟩:=H.facts hop hl rfl rfl
 have HC:=Lib.hid hc
 have HA:=Lib.hid ha
 have HN:=Lib.hid hn
 have HH:=Lib.hid H
 clear hc H hn ha
 unfold Y4w
 go_enter Tryz.func122,Tryz.ntmps122
 go_wp2_with fail
 go_quiet (fail)
 have HW:=HH.out.drewN nq
 clear z0 z2 z4 z5 z6 z7
 generalize w.drewN nq=W at HW⊢
 obtain⟨z0,z2,z4,z5,z6,z7⟩:=HW.facts hop hl rfl rfl
 go_wp2_with fail
 refine(X6b _ _ HA.out).mono ?_
 rintro e w9⟨rfl,rfl⟩
 go_wp2_with fail
 refine(Q2f HW 0 (((Q3w s.f.a+1)%4294967296)) (by have:0≤Q3w s.f.a∧Q3w s.f.a<4294967296:=(by unfold Q3w;omega);omega)).mono ?_
 rintro e w1⟨rfl,H1⟩
 go_wp2_with fail
 refine(Q9r (l:=[10]) (H1.box rfl _ _) rfl (by have:=HC.out;first|exact Nat.le_trans this (by decide)|(simp[List.length_cons,Rn.note,Rn.did,Rn.Q0h,Rn.setB,Rn.waited,Rn.goto,Rn.Q0d];omega)) true).mono ?_
 rintro e w8⟨rfl,H8⟩
 go_wp2_with fail
 go_end0
 exact⟨rfl,H8.Q0N⟩
def Y4D(s:Rn):Rn:=
 s.Q4A (fun _=>true)
theorem wf_50{S0:List Nat}{w0 w:World}{m a r:Nat}{rs:List Res}{s:Rn}(H:Q0a S0 w0 m a r rs s w)(hop:s.f.op=5)(hl:s.f.line=0)(hn:I64 s.n)(ha:0≤s.f.a∧s.f.a<4294967296)(hc:s.notes.length≤900):
 Calls Tryz.prog 122 #[.pointer (some ⟨r,0,none⟩)] w fun e w'=>e= .returned (.tuple #[])∧Q0a S0 w0 m a r rs (Y4D s) w':=by
 obtain⟨z0,z2,z4,z5,z6,z7⟩:=H.facts hop hl rfl rfl
 have HC:=Lib.hid hc
 have HA:=Lib.hid ha
 have HN:=Lib.hid hn
 have HH:=Lib.hid H
 clear hc H hn ha
 unfold Y4D
 go_enter Tryz.func122,Tryz.ntmps122
 go_wp2_with fail
 go_quiet (fail)
 have HW:=HH.out.drewN nq
 clear z0 z2 z4 z5 z6 z7
 generalize w.drewN nq=W at HW⊢
 obtain⟨z0,z2,z4,z5,z6,z7⟩:=HW.facts hop hl rfl rfl
 go_wp2_with fail
 refine(Q8f HW HC.out hop hl 159 #[] #[] (fun _=>true) (enters_of Tryz.func159 (by kernel_rfl) rfl) (fun W v s' hv _=>Y2O v W hv)).mono ?_
 rintro e w1⟨rfl,H1⟩
 go_wp2_with fail
 go_end0
 exact⟨rfl,H1⟩
def Y4B(s:Rn):Rn:=
 s.Q4A (fun v=>wfR v==0)
theorem wf_60{S0:List Nat}{w0 w:World}{m a r:Nat}{rs:List Res}{s:Rn}(H:Q0a S0 w0 m a r rs s w)(hop:s.f.op=6)(hl:s.f.line=0)(hn:I64 s.n)(ha:0≤s.f.a∧s.f.a<4294967296)(hc:s.notes.length≤900):
 Calls Tryz.prog 122 #[.pointer (some ⟨r,0,none⟩)] w fun e w'=>e= .returned (.tuple #[])∧Q0a S0 w0 m a r rs (Y4B s) w':=by
 obtain⟨z0,z2,z4,z5,z6,z7⟩:=H.facts hop hl rfl rfl
 have HC:=Lib.hid hc
 have HA:=Lib.hid ha
 have HN:=Lib.hid hn
 have HH:=Lib.hid H
 clear hc H hn ha
 unfold Y4B
 go_enter Tryz.func122,Tryz.ntmps122
 go_wp2_with fail
 go_quiet (fail)
 have HW:=HH.out.drewN nq
 clear z0 z2 z4 z5 z6 z7
 generalize w.drewN nq=W at HW⊢
 obtain⟨z0,z2,z4,z5,z6,z7⟩:=HW.facts hop hl rfl rfl
 go_wp2_with fail
 refine(Q8f HW HC.out hop hl 160 #[] #[] (fun v=>wfR v==0) (enters_of Tryz.func160 (by kernel_rfl) rfl) (fun W v s' hv _=>Y2N v W hv)).mono ?_
 rintro e w1⟨rfl,H1⟩
 go_wp2_with fail
 go_end0
 exact⟨rfl,H1⟩
def Y4z(s:Rn):Rn:=
 s.Q4A (fun v=>wfR v==1)
theorem wf_70{S0:List Nat}{w0 w:World}{m a r:Nat}{rs:List Res}{s:Rn}(H:Q0a S0 w0 m a r rs s w)(hop:s.f.op=7)(hl:s.f.line=0)(hn:I64 s.n)(ha:0≤s.f.a∧s.f.a<4294967296)(hc:s.notes.length≤900):
 Calls Tryz.prog 122 #[.pointer (some ⟨r,0,none⟩)] w fun e w'=>e= .returned (.tuple #[])∧Q0a S0 w0 m a r rs (Y4z s) w':=by
 obtain⟨z0,z2,z4,z5,z6,z7⟩:=H.facts hop hl rfl rfl
 have HC:=Lib.hid hc
 have HA:=Lib.hid ha
 have HN:=Lib.hid hn
 have HH:=Lib.hid H
 clear hc H hn ha
 unfold Y4z
 go_enter Tryz.func122,Tryz.ntmps122
 go_wp2_with fail
 go_quiet (fail)
 have HW:=HH.out.drewN nq
 clear z0 z2 z4 z5 z6 z7
 generalize w.drewN nq=W at HW⊢
 obtain⟨z0,z2,z4,z5,z6,z7⟩:=HW.facts hop hl rfl rfl
 go_wp2_with fail
 refine(Q8f HW HC.out hop hl 161 #[] #[] (fun v=>wfR v==1) (enters_of Tryz.func161 (by kernel_rfl) rfl) (fun W v s' hv _=>Y2M v W hv)).mono ?_
 rintro e w1⟨rfl,H1⟩
 go_wp2_with fail
 go_end0
 exact⟨rfl,H1⟩
def Y4C(s:Rn):Rn:=
 s.Q3K 1 1 4
theorem wf_51{S0:List Nat}{w0 w:World}{m a r:Nat}{rs:List Res}{s:Rn}(H:Q0a S0 w0 m a r rs s w)(hop:s.f.op=5)(hl:s.f.line=1)(hn:I64 s.n)(ha:0≤s.f.a∧s.f.a<4294967296)(hc:s.notes.length≤900):
 Calls Tryz.prog 122 #[.pointer (some ⟨r,0,none⟩)] w fun e w'=>e= .returned (.tuple #[])∧Q0a S0 w0 m a r rs (Y4C s) w':=by
 obtain⟨z0,z2,z4,z5,z6,z7⟩:=H.facts hop hl rfl rfl
 have HC:=Lib.hid hc
 have HA:=Lib.hid ha
 have HN:=Lib.hid hn
 have HH:=Lib.hid H
 clear hc H hn ha
 unfold Y4C
 go_enter Tryz.func122,Tryz.ntmps122
 go_wp2_with fail
 go_quiet (fail)
 have HW:=HH.out.drewN nq
 clear z0 z2 z4 z5 z6 z7
 generalize w.drewN nq=W at HW⊢
 obtain⟨z0,z2,z4,z5,z6,z7⟩:=HW.facts hop hl rfl rfl
 go_wp2_with fail
 refine(X2d HW HC.out hop hl HA.out 1 1 4 (by decide)).mono ?_
 rintro e w1⟨rfl,H1⟩
 go_wp2_with fail
 go_end0
 exact⟨rfl,H1⟩
def Y4A(s:Rn):Rn:=
 s.Q3K 65536 2 4
theorem wf_61{S0:List Nat}{w0 w:World}{m a r:Nat}{rs:List Res}{s:Rn}(H:Q0a S0 w0 m a r rs s w)(hop:s.f.op=6)(hl:s.f.line=1)(hn:I64 s.n)(ha:0≤s.f.a∧s.f.a<4294967296)(hc:s.notes.length≤900):
 Calls Tryz.prog 122 #[.pointer (some ⟨r,0,none⟩)] w fun e w'=>e= .returned (.tuple #[])∧Q0a S0 w0 m a r rs (Y4A s) w':=by
 obtain⟨z0,z2,z4,z5,z6,z7⟩:=H.facts hop hl rfl rfl
 have HC:=Lib.hid hc
 have HA:=Lib.hid ha
 have HN:=Lib.hid hn
 have HH:=Lib.hid H
 clear hc H hn ha
 unfold Y4A
 go_enter Tryz.func122,Tryz.ntmps122
 go_wp2_with fail
 go_quiet (fail)
 have HW:=HH.out.drewN nq
 clear z0 z2 z4 z5 z6 z7
 generalize w.drewN nq=W at HW⊢
 obtain⟨z0,z2,z4,z5,z6,z7⟩:=HW.facts hop hl rfl rfl
 go_wp2_with fail
 refine(X2d HW HC.out hop hl HA.out 65536 2 4 (by decide)).mono ?_
 rintro e w1⟨rfl,H1⟩
 go_wp2_with fail
 go_end0
 exact⟨rfl,H1⟩
def Y4y(s:Rn):Rn:=
 s.Q3K 65535 0 9
theorem wf_71{S0:List Nat}{w0 w:World}{m a r:Nat}{rs:List Res}{s:Rn}(H:Q0a S0 w0 m a r rs s w)(hop:s.f.op=7)(hl:s.f.line=1)(hn:I64 s.n)(ha:0≤s.f.a∧s.f.a<4294967296)(hc:s.notes.length≤900):
 Calls Tryz.prog 122 #[.pointer (some ⟨r,0,none⟩)] w fun e w'=>e= .returned (.tuple #[])∧Q0a S0 w0 m a r rs (Y4y s) w':=by
 obtain⟨z0,z2,z4,z5,z6,z7⟩:=H.facts hop hl rfl rfl
 have HC:=Lib.hid hc
 have HA:=Lib.hid ha
 have HN:=Lib.hid hn
 have HH:=Lib.hid H
 clear hc H hn ha
 unfold Y4y
 go_enter Tryz.func122,Tryz.ntmps122
 go_wp2_with fail
 go_quiet (fail)
 have HW:=HH.out.drewN nq
 clear z0 z2 z4 z5 z6 z7
 generalize w.drewN nq=W at HW⊢
 obtain⟨z0,z2,z4,z5,z6,z7⟩:=HW.facts hop hl rfl rfl
 go_wp2_with fail
 refine(X2d HW HC.out hop hl HA.out 65535 0 9 (by decide)).mono ?_
 rintro e w1⟨rfl,H1⟩
 go_wp2_with fail
 go_end0
 exact⟨rfl,H1⟩
theorem X4x{S0:List Nat}{w0 w:World}{m a r:Nat}{rs:List Res}{s s2:Rn}(H:Q0a S0 w0 m a r rs s w){o l:Int}(hop:s.f.op=o)(hl:s.f.line=l)
 (h0: ¬(o=1∧l=0)) (h1: ¬(o=1∧l=1)) (h2: ¬(o=1∧l=2)) (h3: ¬(o=1∧l=3)) (h4: ¬(o=2∧l=0)) (h5: ¬(o=3∧l=0)) (h6: ¬(o=3∧l=1))
 (ht: ∀rs W,Q0a S0 w0 m a r rs s W→Calls Tryz.prog 122 #[.pointer (some ⟨r,0,none⟩)] W fun e w'=>e= .returned (.tuple #[])∧Q0a S0 w0 m a r rs s2 w'):
 Calls Tryz.prog 72 #[.pointer (some ⟨r,0,none⟩)] w fun e w'=>e= .returned (.tuple #[])∧Q0a S0 w0 m a r rs s2 w':=by
 have HT:=Lib.hid ht
 obtain⟨z0,z2,z4,z5,z6,z7⟩:=H.facts hop hl rfl rfl
 have HH:=Lib.hid (H.box rfl #[.pointer (some ⟨r,4,none⟩)] 150)
 clear H ht
 go_enter Tryz.func72,Tryz.ntmps72
 go_wp2_with fail
 go_quiet (fail)
 have HW:=HH.out.drewN nq
 clear z0 z2 z4 z5 z6 z7
 generalize w.heap.size=tb at HW⊢
 generalize (World.drewN _ nq)=W at HW⊢
 obtain⟨z0,z2,z4,z5,z6,z7⟩:=HW.facts hop hl rfl rfl
 obtain⟨u0,u1,u2⟩:=HW.first.own
 go_wp2_with fail
 all_goals
  refine(HT.out _ _ HW).mono ?_
  rintro e w1⟨rfl,H1⟩
  go_wp2_with fail
  go_end0
  exact⟨rfl,H1.Q0N⟩
theorem Y2L{S0:List Nat}{w0 w:World}{m a r:Nat}{rs:List Res}{s:Rn}(H:Q0a S0 w0 m a r rs s w){o l:Int}(hop:s.f.op=o)(hl:s.f.line=l)(h0: ¬(o=4∧l=0))(h1: ¬(o=8∧l=0))(h2: ¬(o=4∧l=1))(h3: ¬(o=8∧l=1))(h4: ¬(o=5∧l=0))(h5: ¬(o=6∧l=0))(h6: ¬(o=7∧l=0))(h7: ¬(o=5∧l=1))(h8: ¬(o=6∧l=1))(h9: ¬(o=7∧l=1)):
 Calls Tryz.prog 122 #[.pointer (some ⟨r,0,none⟩)] w fun e w'=>e= .returned (.tuple #[])∧Q0a S0 w0 m a r rs s w':=by
 obtain⟨z0,z2,z4,z5,z6,z7⟩:=H.facts hop hl rfl rfl
 have HH:=Lib.hid H
 clear H
 go_enter Tryz.func122,Tryz.ntmps122
 go_wp2_with fail
 go_quiet (fail)
 have HW:=HH.out.drewN nq
 clear z0 z2 z4 z5 z6 z7
 generalize w.drewN nq=W at HW⊢
 obtain⟨z0,z2,z4,z5,z6,z7⟩:=HW.facts hop hl rfl rfl
 go_wp2_with fail
 all_goals
  go_end0
  exact⟨rfl,HW⟩
def wfA(s:Rn):Rn:=if s.f.op=1∧s.f.line=0 then Y4K s else if s.f.op=1∧s.f.line=1 then Y4J s else if s.f.op=1∧s.f.line=2 then Y2W s else if s.f.op=1∧s.f.line=3 then Y4I s else if s.f.op=2∧s.f.line=0 then Y4H s else if s.f.op=3∧s.f.line=0 then Y4G s else if s.f.op=3∧s.f.line=1 then Y2V s else if s.f.op=4∧s.f.line=0 then Y4F s else if s.f.op=8∧s.f.line=0 then Y4x s else if s.f.op=4∧s.f.line=1 then Y4E s else if s.f.op=8∧s.f.line=1 then Y4w s else if s.f.op=5∧s.f.line=0 then Y4D s else if s.f.op=6∧s.f.line=0 then Y4B s else if s.f.op=7∧s.f.line=0 then Y4z s else if s.f.op=5∧s.f.line=1 then Y4C s else if s.f.op=6∧s.f.line=1 then Y4A s else if s.f.op=7∧s.f.line=1 then Y4y s else s
theorem X9O{S0:List Nat}{w0 w:World}{m a r:Nat}{rs:List Res}{s:Rn}(H:Q0a S0 w0 m a r rs s w)(hn:I64 s.n)(ha:0≤s.f.a∧s.f.a<4294967296)(hc:s.notes.length≤900):
 Calls Tryz.prog 72 #[.pointer (some ⟨r,0,none⟩)] w fun e w'=>e= .returned (.tuple #[])∧Q0a S0 w0 m a r rs (wfA s) w':=by
 unfold wfA
 by_cases h10:s.f.op=1∧s.f.line=0
 ·rw[if_pos h10];exact wf_10 H h10.1 h10.2 hn ha hc
 rw[if_neg h10]
 by_cases h11:s.f.op=1∧s.f.line=1
 ·rw[if_pos h11];exact wf_11 H h11.1 h11.2 hn ha hc
 rw[if_neg h11]
 by_cases h12:s.f.op=1∧s.f.line=2
 ·rw[if_pos h12];exact wf_12 H h12.1 h12.2 hn ha hc
 rw[if_neg h12]
 by_cases h13:s.f.op=1∧s.f.line=3
 ·rw[if_pos h13];exact wf_13 H h13.1 h13.2 hn ha hc
 rw[if_neg h13]
 by_cases h20:s.f.op=2∧s.f.line=0
 ·rw[if_pos h20];exact wf_20 H h20.1 h20.2 hn ha hc
 rw[if_neg h20]
 by_cases h30:s.f.op=3∧s.f.line=0
 ·rw[if_pos h30];exact wf_30 H h30.1 h30.2 hn ha hc
 rw[if_neg h30]
 by_cases h31:s.f.op=3∧s.f.line=1
 ·rw[if_pos h31];exact wf_31 H h31.1 h31.2 hn ha hc
 rw[if_neg h31]
 refine X4x H rfl rfl h10 h11 h12 h13 h20 h30 h31 (fun rs W HW=> ?_)
 by_cases h40:s.f.op=4∧s.f.line=0
 ·rw[if_pos h40];exact wf_40 HW h40.1 h40.2 hn ha hc
 rw[if_neg h40]
 by_cases h80:s.f.op=8∧s.f.line=0
 ·rw[if_pos h80];exact wf_80 HW h80.1 h80.2 hn ha hc
 rw[if_neg h80]
 by_cases h41:s.f.op=4∧s.f.line=1
 ·rw[if_pos h41];exact wf_41 HW h41.1 h41.2 hn ha hc
 rw[if_neg h41]
 by_cases h81:s.f.op=8∧s.f.line=1
 ·rw[if_pos h81];exact wf_81 HW h81.1 h81.2 hn ha hc
 rw[if_neg h81]
 by_cases h50:s.f.op=5∧s.f.line=0
 ·rw[if_pos h50];exact wf_50 HW h50.1 h50.2 hn ha hc
 rw[if_neg h50]
 by_cases h60:s.f.op=6∧s.f.line=0
 ·rw[if_pos h60];exact wf_60 HW h60.1 h60.2 hn ha hc
 rw[if_neg h60]
 by_cases h70:s.f.op=7∧s.f.line=0
 ·rw[if_pos h70];exact wf_70 HW h70.1 h70.2 hn ha hc
 rw[if_neg h70]
 by_cases h51:s.f.op=5∧s.f.line=1
 ·rw[if_pos h51];exact wf_51 HW h51.1 h51.2 hn ha hc
 rw[if_neg h51]
 by_cases h61:s.f.op=6∧s.f.line=1
 ·rw[if_pos h61];exact wf_61 HW h61.1 h61.2 hn ha hc
 rw[if_neg h61]
 by_cases h71:s.f.op=7∧s.f.line=1
 ·rw[if_pos h71];exact wf_71 HW h71.1 h71.2 hn ha hc
 rw[if_neg h71]
 exact Y2L HW rfl rfl h40 h80 h41 h81 h50 h60 h70 h51 h61 h71
theorem X4t{s:Rn}(hw:Words s.L){n mode task st c:Int}{p:Int→Bool}(h2:0≤s.f.a∧s.f.a<4294967296):0≤(s.keep (Q0t s.L n mode task st c p)).f.a∧(s.keep (Q0t s.L n mode task st c p)).f.a<4294967296:=by
 unfold Rn.keep
 split
 ·rcases Q4Z mode st with e|e|e|e|e
  ·rw[Q8h e];exact Q0s s.L hw _
  ·rw[Q9v e];exact Q0s s.L hw _
  ·rw[Q9u e];exact Q0s s.L hw _
  ·rename_i h;rw[Q9t e]at h;cases h
  ·rw[Q9s e];exact Q0s s.L hw _
 ·exact h2
theorem X4s(s:Rn)(R:Q5C):(s.keep R).n=s.n∧(s.keep R).f.b=s.f.b∧(s.keep R).notes=s.notes:=by
 unfold Rn.keep
 split<;>exact⟨rfl,rfl,rfl⟩
theorem X6t(s:Rn)(hw:Words s.L)(h:I64 s.n∧(0≤s.f.a∧s.f.a<4294967296)∧(0≤s.f.b∧s.f.b<4294967296)):Fine s (Y4K s):=by
 have hold:=fun b=>Q0s s.L hw b
 obtain⟨h1,h2,h3⟩:=h
 unfold Y4K Q0I
 (try dsimp only)
 (repeat' split)<;>first
  |exact Q0f ⟨⟨h1,h2,h3⟩,by simp[Rn.Q1Q,Q0I,Rn.keep,Rn.Q0d,Rn.did,Rn.Q0h,Rn.setB,Rn.note,Rn.goto,Rn.fin,Rn.wake,Rn.waited]⟩
  |exact Q0f ⟨⟨h1,hold _,h3⟩,by simp[Rn.Q1Q,Q0I,Rn.keep,Rn.Q0d,Rn.did,Rn.Q0h,Rn.setB,Rn.note,Rn.goto,Rn.fin,Rn.wake,Rn.waited]⟩
  |exact Q0f ⟨⟨h1,h2,hold _⟩,by simp[Rn.Q1Q,Q0I,Rn.keep,Rn.Q0d,Rn.did,Rn.Q0h,Rn.setB,Rn.note,Rn.goto,Rn.fin,Rn.wake,Rn.waited]⟩
theorem X6s(s:Rn)(hw:Words s.L)(h:I64 s.n∧(0≤s.f.a∧s.f.a<4294967296)∧(0≤s.f.b∧s.f.b<4294967296)):Fine s (Y4J s):=by
 have hold:=fun b=>Q0s s.L hw b
 obtain⟨h1,h2,h3⟩:=h
 unfold Y4J
 (try dsimp only)
 (repeat' split)<;>first
  |exact Q0f ⟨⟨h1,h2,h3⟩,by simp[Rn.Q1Q,Q0I,Rn.keep,Rn.Q0d,Rn.did,Rn.Q0h,Rn.setB,Rn.note,Rn.goto,Rn.fin,Rn.wake,Rn.waited]⟩
  |exact Q0f ⟨⟨h1,hold _,h3⟩,by simp[Rn.Q1Q,Q0I,Rn.keep,Rn.Q0d,Rn.did,Rn.Q0h,Rn.setB,Rn.note,Rn.goto,Rn.fin,Rn.wake,Rn.waited]⟩
  |exact Q0f ⟨⟨h1,h2,hold _⟩,by simp[Rn.Q1Q,Q0I,Rn.keep,Rn.Q0d,Rn.did,Rn.Q0h,Rn.setB,Rn.note,Rn.goto,Rn.fin,Rn.wake,Rn.waited]⟩
theorem X6r(s:Rn)(hw:Words s.L)(h:I64 s.n∧(0≤s.f.a∧s.f.a<4294967296)∧(0≤s.f.b∧s.f.b<4294967296)):Fine s (Y2W s):=by
 obtain⟨h1,h2,h3⟩:=h
 have hk:=X4t (n:=s.n) (mode:=s.mode) (task:=s.task) (st:=s.f.st) (c:=0) (p:=Q1B) hw h2
 unfold Y2W
 dsimp only
 obtain⟨e1,e2,e3⟩:=X4s s (Q0t s.L s.n s.mode s.task s.f.st 0 Q1B)
 generalize s.keep (Q0t s.L s.n s.mode s.task s.f.st 0 Q1B)=s1 at hk e1 e2 e3⊢
 have hb:I64 s1.n∧(0≤s1.f.a∧s1.f.a<4294967296)∧(0≤s1.f.b∧s1.f.b<4294967296):=⟨by rw[e1];exact h1,hk,by rw[e2];exact h3⟩
 split
 ·exact Q0f ⟨hb,by show s1.notes.length≤_;rw[e3];omega⟩
 ·exact Q0f ⟨hb,by show s1.notes.length≤_;rw[e3];omega⟩
theorem X6q(s:Rn)(hw:Words s.L)(h:I64 s.n∧(0≤s.f.a∧s.f.a<4294967296)∧(0≤s.f.b∧s.f.b<4294967296)):Fine s (Y4I s):=by
 have hold:=fun b=>Q0s s.L hw b
 obtain⟨h1,h2,h3⟩:=h
 unfold Y4I Q0I
 (try dsimp only)
 (repeat' split)<;>first
  |exact Q0f ⟨⟨h1,h2,h3⟩,by simp[Rn.Q1Q,Q0I,Rn.keep,Rn.Q0d,Rn.did,Rn.Q0h,Rn.setB,Rn.note,Rn.goto,Rn.fin,Rn.wake,Rn.waited]⟩
  |exact Q0f ⟨⟨h1,hold _,h3⟩,by simp[Rn.Q1Q,Q0I,Rn.keep,Rn.Q0d,Rn.did,Rn.Q0h,Rn.setB,Rn.note,Rn.goto,Rn.fin,Rn.wake,Rn.waited]⟩
  |exact Q0f ⟨⟨h1,h2,hold _⟩,by simp[Rn.Q1Q,Q0I,Rn.keep,Rn.Q0d,Rn.did,Rn.Q0h,Rn.setB,Rn.note,Rn.goto,Rn.fin,Rn.wake,Rn.waited]⟩
theorem X6p(s:Rn)(hw:Words s.L)(h:I64 s.n∧(0≤s.f.a∧s.f.a<4294967296)∧(0≤s.f.b∧s.f.b<4294967296)):Fine s (Y4H s):=by
 have hold:=fun b=>Q0s s.L hw b
 obtain⟨h1,h2,h3⟩:=h
 unfold Y4H
 (try dsimp only)
 (repeat' split)<;>first
  |exact Q0f ⟨⟨h1,h2,h3⟩,by simp[Rn.Q1Q,Q0I,Rn.keep,Rn.Q0d,Rn.did,Rn.Q0h,Rn.setB,Rn.note,Rn.goto,Rn.fin,Rn.wake,Rn.waited]⟩
  |exact Q0f ⟨⟨h1,hold _,h3⟩,by simp[Rn.Q1Q,Q0I,Rn.keep,Rn.Q0d,Rn.did,Rn.Q0h,Rn.setB,Rn.note,Rn.goto,Rn.fin,Rn.wake,Rn.waited]⟩
  |exact Q0f ⟨⟨h1,h2,hold _⟩,by simp[Rn.Q1Q,Q0I,Rn.keep,Rn.Q0d,Rn.did,Rn.Q0h,Rn.setB,Rn.note,Rn.goto,Rn.fin,Rn.wake,Rn.waited]⟩
theorem X6o(s:Rn)(hw:Words s.L)(h:I64 s.n∧(0≤s.f.a∧s.f.a<4294967296)∧(0≤s.f.b∧s.f.b<4294967296)):Fine s (Y4G s):=by
 have hold:=fun b=>Q0s s.L hw b
 obtain⟨h1,h2,h3⟩:=h
 unfold Y4G
 (try dsimp only)
 (repeat' split)<;>first
  |exact Q0f ⟨⟨h1,h2,h3⟩,by simp[Rn.Q1Q,Q0I,Rn.keep,Rn.Q0d,Rn.did,Rn.Q0h,Rn.setB,Rn.note,Rn.goto,Rn.fin,Rn.wake,Rn.waited]⟩
  |exact Q0f ⟨⟨h1,hold _,h3⟩,by simp[Rn.Q1Q,Q0I,Rn.keep,Rn.Q0d,Rn.did,Rn.Q0h,Rn.setB,Rn.note,Rn.goto,Rn.fin,Rn.wake,Rn.waited]⟩
  |exact Q0f ⟨⟨h1,h2,hold _⟩,by simp[Rn.Q1Q,Q0I,Rn.keep,Rn.Q0d,Rn.did,Rn.Q0h,Rn.setB,Rn.note,Rn.goto,Rn.fin,Rn.wake,Rn.waited]⟩
theorem X6n(s:Rn)(hw:Words s.L)(h:I64 s.n∧(0≤s.f.a∧s.f.a<4294967296)∧(0≤s.f.b∧s.f.b<4294967296)):Fine s (Y2V s):=by
 have hold:=fun b=>Q0s s.L hw b
 obtain⟨h1,h2,h3⟩:=h
 unfold Y2V
 (try dsimp only)
 (repeat' split)<;>first
  |exact Q0f ⟨⟨h1,h2,h3⟩,by simp[Rn.Q1Q,Q0I,Rn.keep,Rn.Q0d,Rn.did,Rn.Q0h,Rn.setB,Rn.note,Rn.goto,Rn.fin,Rn.wake,Rn.waited]⟩
  |exact Q0f ⟨⟨h1,hold _,h3⟩,by simp[Rn.Q1Q,Q0I,Rn.keep,Rn.Q0d,Rn.did,Rn.Q0h,Rn.setB,Rn.note,Rn.goto,Rn.fin,Rn.wake,Rn.waited]⟩
  |exact Q0f ⟨⟨h1,h2,hold _⟩,by simp[Rn.Q1Q,Q0I,Rn.keep,Rn.Q0d,Rn.did,Rn.Q0h,Rn.setB,Rn.note,Rn.goto,Rn.fin,Rn.wake,Rn.waited]⟩
theorem X6m(s:Rn)(hw:Words s.L)(h:I64 s.n∧(0≤s.f.a∧s.f.a<4294967296)∧(0≤s.f.b∧s.f.b<4294967296)):Fine s (Y4F s):=by
 have hold:=fun b=>Q0s s.L hw b
 obtain⟨h1,h2,h3⟩:=h
 unfold Y4F
 (try dsimp only)
 (repeat' split)<;>first
  |exact Q0f ⟨⟨h1,h2,h3⟩,by simp[Rn.Q1Q,Q0I,Rn.keep,Rn.Q0d,Rn.did,Rn.Q0h,Rn.setB,Rn.note,Rn.goto,Rn.fin,Rn.wake,Rn.waited]⟩
  |exact Q0f ⟨⟨h1,hold _,h3⟩,by simp[Rn.Q1Q,Q0I,Rn.keep,Rn.Q0d,Rn.did,Rn.Q0h,Rn.setB,Rn.note,Rn.goto,Rn.fin,Rn.wake,Rn.waited]⟩
  |exact Q0f ⟨⟨h1,h2,hold _⟩,by simp[Rn.Q1Q,Q0I,Rn.keep,Rn.Q0d,Rn.did,Rn.Q0h,Rn.setB,Rn.note,Rn.goto,Rn.fin,Rn.wake,Rn.waited]⟩
theorem X6e(s:Rn)(hw:Words s.L)(h:I64 s.n∧(0≤s.f.a∧s.f.a<4294967296)∧(0≤s.f.b∧s.f.b<4294967296)):Fine s (Y4x s):=by
 have hold:=fun b=>Q0s s.L hw b
 obtain⟨h1,h2,h3⟩:=h
 unfold Y4x
 (try dsimp only)
 (repeat' split)<;>first
  |exact Q0f ⟨⟨h1,h2,h3⟩,by simp[Rn.Q1Q,Q0I,Rn.keep,Rn.Q0d,Rn.did,Rn.Q0h,Rn.setB,Rn.note,Rn.goto,Rn.fin,Rn.wake,Rn.waited]⟩
  |exact Q0f ⟨⟨h1,hold _,h3⟩,by simp[Rn.Q1Q,Q0I,Rn.keep,Rn.Q0d,Rn.did,Rn.Q0h,Rn.setB,Rn.note,Rn.goto,Rn.fin,Rn.wake,Rn.waited]⟩
  |exact Q0f ⟨⟨h1,h2,hold _⟩,by simp[Rn.Q1Q,Q0I,Rn.keep,Rn.Q0d,Rn.did,Rn.Q0h,Rn.setB,Rn.note,Rn.goto,Rn.fin,Rn.wake,Rn.waited]⟩
theorem X6l(s:Rn)(hw:Words s.L)(h:I64 s.n∧(0≤s.f.a∧s.f.a<4294967296)∧(0≤s.f.b∧s.f.b<4294967296)):Fine s (Y4E s):=by
 have hold:=fun b=>Q0s s.L hw b
 obtain⟨h1,h2,h3⟩:=h
 unfold Y4E
 (try dsimp only)
 (repeat' split)<;>first
  |exact Q0f ⟨⟨h1,h2,h3⟩,by simp[Rn.Q1Q,Q0I,Rn.keep,Rn.Q0d,Rn.did,Rn.Q0h,Rn.setB,Rn.note,Rn.goto,Rn.fin,Rn.wake,Rn.waited]⟩
  |exact Q0f ⟨⟨h1,hold _,h3⟩,by simp[Rn.Q1Q,Q0I,Rn.keep,Rn.Q0d,Rn.did,Rn.Q0h,Rn.setB,Rn.note,Rn.goto,Rn.fin,Rn.wake,Rn.waited]⟩
  |exact Q0f ⟨⟨h1,h2,hold _⟩,by simp[Rn.Q1Q,Q0I,Rn.keep,Rn.Q0d,Rn.did,Rn.Q0h,Rn.setB,Rn.note,Rn.goto,Rn.fin,Rn.wake,Rn.waited]⟩
theorem X6d(s:Rn)(hw:Words s.L)(h:I64 s.n∧(0≤s.f.a∧s.f.a<4294967296)∧(0≤s.f.b∧s.f.b<4294967296)):Fine s (Y4w s):=by
 have hold:=fun b=>Q0s s.L hw b
 obtain⟨h1,h2,h3⟩:=h
 unfold Y4w
 (try dsimp only)
 (repeat' split)<;>first
  |exact Q0f ⟨⟨h1,h2,h3⟩,by simp[Rn.Q1Q,Q0I,Rn.keep,Rn.Q0d,Rn.did,Rn.Q0h,Rn.setB,Rn.note,Rn.goto,Rn.fin,Rn.wake,Rn.waited]⟩
  |exact Q0f ⟨⟨h1,hold _,h3⟩,by simp[Rn.Q1Q,Q0I,Rn.keep,Rn.Q0d,Rn.did,Rn.Q0h,Rn.setB,Rn.note,Rn.goto,Rn.fin,Rn.wake,Rn.waited]⟩
  |exact Q0f ⟨⟨h1,h2,hold _⟩,by simp[Rn.Q1Q,Q0I,Rn.keep,Rn.Q0d,Rn.did,Rn.Q0h,Rn.setB,Rn.note,Rn.goto,Rn.fin,Rn.wake,Rn.waited]⟩
theorem X6k(s:Rn)(hw:Words s.L)(h:I64 s.n∧(0≤s.f.a∧s.f.a<4294967296)∧(0≤s.f.b∧s.f.b<4294967296)):Fine s (Y4D s):=by
 have hold:=fun b=>Q0s s.L hw b
 obtain⟨h1,h2,h3⟩:=h
 unfold Y4D Rn.Q4A
 (try dsimp only)
 (repeat' split)<;>first
  |exact Q0f ⟨⟨h1,h2,h3⟩,by simp[Rn.Q1Q,Q0I,Rn.keep,Rn.Q0d,Rn.did,Rn.Q0h,Rn.setB,Rn.note,Rn.goto,Rn.fin,Rn.wake,Rn.waited]⟩
  |exact Q0f ⟨⟨h1,hold _,h3⟩,by simp[Rn.Q1Q,Q0I,Rn.keep,Rn.Q0d,Rn.did,Rn.Q0h,Rn.setB,Rn.note,Rn.goto,Rn.fin,Rn.wake,Rn.waited]⟩
  |exact Q0f ⟨⟨h1,h2,hold _⟩,by simp[Rn.Q1Q,Q0I,Rn.keep,Rn.Q0d,Rn.did,Rn.Q0h,Rn.setB,Rn.note,Rn.goto,Rn.fin,Rn.wake,Rn.waited]⟩
theorem X6i(s:Rn)(hw:Words s.L)(h:I64 s.n∧(0≤s.f.a∧s.f.a<4294967296)∧(0≤s.f.b∧s.f.b<4294967296)):Fine s (Y4B s):=by
 have hold:=fun b=>Q0s s.L hw b
 obtain⟨h1,h2,h3⟩:=h
 unfold Y4B Rn.Q4A
 (try dsimp only)
 (repeat' split)<;>first
  |exact Q0f ⟨⟨h1,h2,h3⟩,by simp[Rn.Q1Q,Q0I,Rn.keep,Rn.Q0d,Rn.did,Rn.Q0h,Rn.setB,Rn.note,Rn.goto,Rn.fin,Rn.wake,Rn.waited]⟩
  |exact Q0f ⟨⟨h1,hold _,h3⟩,by simp[Rn.Q1Q,Q0I,Rn.keep,Rn.Q0d,Rn.did,Rn.Q0h,Rn.setB,Rn.note,Rn.goto,Rn.fin,Rn.wake,Rn.waited]⟩
  |exact Q0f ⟨⟨h1,h2,hold _⟩,by simp[Rn.Q1Q,Q0I,Rn.keep,Rn.Q0d,Rn.did,Rn.Q0h,Rn.setB,Rn.note,Rn.goto,Rn.fin,Rn.wake,Rn.waited]⟩
theorem X6g(s:Rn)(hw:Words s.L)(h:I64 s.n∧(0≤s.f.a∧s.f.a<4294967296)∧(0≤s.f.b∧s.f.b<4294967296)):Fine s (Y4z s):=by
 have hold:=fun b=>Q0s s.L hw b
 obtain⟨h1,h2,h3⟩:=h
 unfold Y4z Rn.Q4A
 (try dsimp only)
 (repeat' split)<;>first
  |exact Q0f ⟨⟨h1,h2,h3⟩,by simp[Rn.Q1Q,Q0I,Rn.keep,Rn.Q0d,Rn.did,Rn.Q0h,Rn.setB,Rn.note,Rn.goto,Rn.fin,Rn.wake,Rn.waited]⟩
  |exact Q0f ⟨⟨h1,hold _,h3⟩,by simp[Rn.Q1Q,Q0I,Rn.keep,Rn.Q0d,Rn.did,Rn.Q0h,Rn.setB,Rn.note,Rn.goto,Rn.fin,Rn.wake,Rn.waited]⟩
  |exact Q0f ⟨⟨h1,h2,hold _⟩,by simp[Rn.Q1Q,Q0I,Rn.keep,Rn.Q0d,Rn.did,Rn.Q0h,Rn.setB,Rn.note,Rn.goto,Rn.fin,Rn.wake,Rn.waited]⟩
theorem X6j(s:Rn)(hw:Words s.L)(h:I64 s.n∧(0≤s.f.a∧s.f.a<4294967296)∧(0≤s.f.b∧s.f.b<4294967296)):Fine s (Y4C s):=by
 have hold:=fun b=>Q0s s.L hw b
 obtain⟨h1,h2,h3⟩:=h
 unfold Y4C Rn.Q3K
 (try dsimp only)
 (repeat' split)<;>first
  |exact Q0f ⟨⟨h1,h2,h3⟩,by simp[Rn.Q1Q,Q0I,Rn.keep,Rn.Q0d,Rn.did,Rn.Q0h,Rn.setB,Rn.note,Rn.goto,Rn.fin,Rn.wake,Rn.waited]⟩
  |exact Q0f ⟨⟨h1,hold _,h3⟩,by simp[Rn.Q1Q,Q0I,Rn.keep,Rn.Q0d,Rn.did,Rn.Q0h,Rn.setB,Rn.note,Rn.goto,Rn.fin,Rn.wake,Rn.waited]⟩
  |exact Q0f ⟨⟨h1,h2,hold _⟩,by simp[Rn.Q1Q,Q0I,Rn.keep,Rn.Q0d,Rn.did,Rn.Q0h,Rn.setB,Rn.note,Rn.goto,Rn.fin,Rn.wake,Rn.waited]⟩
theorem X6h(s:Rn)(hw:Words s.L)(h:I64 s.n∧(0≤s.f.a∧s.f.a<4294967296)∧(0≤s.f.b∧s.f.b<4294967296)):Fine s (Y4A s):=by
 have hold:=fun b=>Q0s s.L hw b
 obtain⟨h1,h2,h3⟩:=h
 unfold Y4A Rn.Q3K
 (try dsimp only)
 (repeat' split)<;>first
  |exact Q0f ⟨⟨h1,h2,h3⟩,by simp[Rn.Q1Q,Q0I,Rn.keep,Rn.Q0d,Rn.did,Rn.Q0h,Rn.setB,Rn.note,Rn.goto,Rn.fin,Rn.wake,Rn.waited]⟩
  |exact Q0f ⟨⟨h1,hold _,h3⟩,by simp[Rn.Q1Q,Q0I,Rn.keep,Rn.Q0d,Rn.did,Rn.Q0h,Rn.setB,Rn.note,Rn.goto,Rn.fin,Rn.wake,Rn.waited]⟩
  |exact Q0f ⟨⟨h1,h2,hold _⟩,by simp[Rn.Q1Q,Q0I,Rn.keep,Rn.Q0d,Rn.did,Rn.Q0h,Rn.setB,Rn.note,Rn.goto,Rn.fin,Rn.wake,Rn.waited]⟩
theorem X6f(s:Rn)(hw:Words s.L)(h:I64 s.n∧(0≤s.f.a∧s.f.a<4294967296)∧(0≤s.f.b∧s.f.b<4294967296)):Fine s (Y4y s):=by
 have hold:=fun b=>Q0s s.L hw b
 obtain⟨h1,h2,h3⟩:=h
 unfold Y4y Rn.Q3K
 (try dsimp only)
 (repeat' split)<;>first
  |exact Q0f ⟨⟨h1,h2,h3⟩,by simp[Rn.Q1Q,Q0I,Rn.keep,Rn.Q0d,Rn.did,Rn.Q0h,Rn.setB,Rn.note,Rn.goto,Rn.fin,Rn.wake,Rn.waited]⟩
  |exact Q0f ⟨⟨h1,hold _,h3⟩,by simp[Rn.Q1Q,Q0I,Rn.keep,Rn.Q0d,Rn.did,Rn.Q0h,Rn.setB,Rn.note,Rn.goto,Rn.fin,Rn.wake,Rn.waited]⟩
  |exact Q0f ⟨⟨h1,h2,hold _⟩,by simp[Rn.Q1Q,Q0I,Rn.keep,Rn.Q0d,Rn.did,Rn.Q0h,Rn.setB,Rn.note,Rn.goto,Rn.fin,Rn.wake,Rn.waited]⟩
theorem X9Q(s:Rn)(hw:Words s.L)(h:I64 s.n∧(0≤s.f.a∧s.f.a<4294967296)∧(0≤s.f.b∧s.f.b<4294967296)):(I64 (wfA s).n∧(0≤(wfA s).f.a∧(wfA s).f.a<4294967296)∧(0≤(wfA s).f.b∧(wfA s).f.b<4294967296))∧(wfA s).notes.length≤s.notes.length+10:=by
 suffices h0:Fine s (wfA s)from h0
 unfold wfA
 by_cases h10:s.f.op=1∧s.f.line=0
 ·rw[if_pos h10];exact X6t s hw h
 rw[if_neg h10]
 by_cases h11:s.f.op=1∧s.f.line=1
 ·rw[if_pos h11];exact X6s s hw h
 rw[if_neg h11]
 by_cases h12:s.f.op=1∧s.f.line=2
 ·rw[if_pos h12];exact X6r s hw h
 rw[if_neg h12]
 by_cases h13:s.f.op=1∧s.f.line=3
 ·rw[if_pos h13];exact X6q s hw h
 rw[if_neg h13]
 by_cases h20:s.f.op=2∧s.f.line=0
 ·rw[if_pos h20];exact X6p s hw h
 rw[if_neg h20]
 by_cases h30:s.f.op=3∧s.f.line=0
 ·rw[if_pos h30];exact X6o s hw h
 rw[if_neg h30]
 by_cases h31:s.f.op=3∧s.f.line=1
 ·rw[if_pos h31];exact X6n s hw h
 rw[if_neg h31]
 by_cases h40:s.f.op=4∧s.f.line=0
 ·rw[if_pos h40];exact X6m s hw h
 rw[if_neg h40]
 by_cases h80:s.f.op=8∧s.f.line=0
 ·rw[if_pos h80];exact X6e s hw h
 rw[if_neg h80]
 by_cases h41:s.f.op=4∧s.f.line=1
 ·rw[if_pos h41];exact X6l s hw h
 rw[if_neg h41]
 by_cases h81:s.f.op=8∧s.f.line=1
 ·rw[if_pos h81];exact X6d s hw h
 rw[if_neg h81]
 by_cases h50:s.f.op=5∧s.f.line=0
 ·rw[if_pos h50];exact X6k s hw h
 rw[if_neg h50]
 by_cases h60:s.f.op=6∧s.f.line=0
 ·rw[if_pos h60];exact X6i s hw h
 rw[if_neg h60]
 by_cases h70:s.f.op=7∧s.f.line=0
 ·rw[if_pos h70];exact X6g s hw h
 rw[if_neg h70]
 by_cases h51:s.f.op=5∧s.f.line=1
 ·rw[if_pos h51];exact X6j s hw h
 rw[if_neg h51]
 by_cases h61:s.f.op=6∧s.f.line=1
 ·rw[if_pos h61];exact X6h s hw h
 rw[if_neg h61]
 by_cases h71:s.f.op=7∧s.f.line=1
 ·rw[if_pos h71];exact X6f s hw h
 rw[if_neg h71]
 exact Q0f ⟨h,by simp⟩
end Go.Proofs.YthnimpkoidablaaGreat.Z
