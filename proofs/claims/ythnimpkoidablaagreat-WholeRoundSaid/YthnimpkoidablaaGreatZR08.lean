import Derived.Test.YthnimpkoidablaaGreatZR07
set_option linter.unusedVariables false
set_option linter.unusedSimpArgs false
set_option maxHeartbeats 3200000
namespace Go.Proofs.YthnimpkoidablaaGreat.Z
open Go.RowKit
inductive WfP
 |idle (h:Int)
 |r0
 |r1 (a:Int)
 |r2 (a:Int)
 |r3 (a:Int)
 |u0
 |l0
 |l1 (a:Int)
 |v0
 |v1 (a:Int)
 |d0
 |d1 (a:Int)
 |q0 (a:Int)
 |q1 (a:Int)
 |y0 (a:Int)
 |y1 (a:Int)
 |z0 (a:Int)
 |z1 (a:Int)
def Q4z(op line a b:Int):Fr:=⟨op,line,a,b,0,Wk.zero,0⟩
def Q2B:WfP→Fr×Int
 |.idle h=>(Fr.zero,h)
 |.r0=>(Q4z 1 0 0 0,0)
 |.r1 a=>(Q4z 1 1 a 0,0)
 |.r2 a=>(Q4z 1 2 a 0,0)
 |.r3 a=>(Q4z 1 3 a 0,0)
 |.u0=>(Q4z 2 0 0 0,0)
 |.l0=>(Q4z 3 0 0 0,0)
 |.l1 a=>(Q4z 3 1 a 0,0)
 |.v0=>(Q4z 4 0 0 0,0)
 |.v1 a=>(Q4z 4 1 a 0,0)
 |.d0=>(Q4z 8 0 0 0,1)
 |.d1 a=>(Q4z 8 1 a 0,1)
 |.q0 a=>(Q4z 5 0 a 0,0)
 |.q1 a=>(Q4z 5 1 a 0,0)
 |.y0 a=>(Q4z 6 0 a 0,0)
 |.y1 a=>(Q4z 6 1 a 0,0)
 |.z0 a=>(Q4z 7 0 a 0,1)
 |.z1 a=>(Q4z 7 1 a 0,1)
def Q3r:WfP→Option (Nat×(Int→Bool))
 |.r2 a=>some (0,Q1B)
 |.l1 a=>some (0,fun v=>wfT v==wfG a &&wfR v==0)
 |_=>none
def Q6j(v:Int):WfP→WfP
 |.r2 _=> .r1 v
 |.l1 _=> .idle 2
 |p=>p
def wfKeep(v:Int):WfP→Int
 |.r2 _=>v
 |.l1 a=>a
 |_=>0
def Q1O(x0:Int):WfP→WfP×Option (Nat×Int)×Option Nat
 |.r0=>(if Q1B x0 then .r1 x0 else .r2 x0,none,none)
 |.r1 a=>if x0=a then(.idle 1,some (0,(a+1)%4294967296),none)else(.r3 a,none,none)
 |.r3 _=>(if Q1B x0 then .r1 x0 else .r2 x0,none,none)
 |.u0=>(.idle 0,some (0,(x0+4294967295)%4294967296),some 0)
 |.l0=>(.l1 x0,some (0,(x0+65536)%4294967296),none)
 |.v0=>(.v1 x0,none,none)
 |.d0=>(.d1 x0,none,none)
 |.v1 a=>(.idle 0,some (0,(x0+Q3w a)%4294967296),some 0)
 |.d1 a=>(.idle 1,some (0,(x0+(Q3w a+1)%4294967296)%4294967296),some 0)
 |.q0 _=>(if Q1B x0 then .q1 x0 else .idle 0,none,none)
 |.y0 _=>(if Q1B x0 &&wfR x0==0 then .y1 x0 else .idle 0,none,none)
 |.z0 _=>(if Q1B x0 &&wfR x0==1 then .z1 x0 else .idle 1,none,none)
 |.q1 a=>if x0=a then(.idle 1,some (0,(a+1)%4294967296),none)else(.q0 a,none,none)
 |.y1 a=>if x0=a then(.idle 2,some (0,(a+65536)%4294967296),none)else(.y0 a,none,none)
 |.z1 a=>if x0=a then(.idle 2,some (0,(a+65535)%4294967296),none)else(.z0 a,none,none)
 |p=>(p,none,none)
def Q8g(op h:Int):WfP:=if op=1 then .r0 else if op=2 then .u0 else if op=3 then .l0 else if op=4 then .v0 else if op=5 then .q0 0 else if op=6 then .y0 0 else if op=7 then .z0 0 else .d0
def wfK:Q3D WfP:=⟨wfA,Q2B,fun p v=>wfKeep v p,fun _ p=>Q3r p,fun p v=>Q6j v p,fun _ p m=>Q1O (m 0) p, .idle,Q8g,fun _=>True⟩
theorem Y2S(n:Nat)(mode:Int):wfK.Good n mode:=by
 refine⟨fun p=>by cases p<;>exact⟨rfl,rfl,rfl⟩,fun h=>rfl,fun p hp=> ?_,fun p hp=> ?_,fun t p c pr hw=> ?_,fun op h hm=> ?_,fun t op h hm=> ?_,fun t p c pr _ _ hw=> ?_,fun t p c pr v hw hh=> ?_,fun p t s hok ht hw hop hn hmd htk hf hl=> ?_,fun p t c pr st s hok ht hw h0 h3 hn hmd htk hf hl=> ?_,fun p t c pr v s hok ht hm2 hw hpr hn hmd htk hf hl=> ?_⟩
 ·cases p<;>first|rfl|(simp[wfK,Q2B,Q4z]at hp)
 ·cases p<;>first|(simp[wfK,Q2B,Q4z]at hp;done)|(simp[wfK,Q2B,Q4z]at hp;rw[hp];rfl)
 ·cases p<;>simp[wfK,Q3r]at hw<;>simp[wfK,Q2B,Q4z]
 ·rcases Q2L hm with⟨rfl,rfl|rfl|rfl|rfl⟩|⟨rfl,rfl|rfl⟩|⟨_,_,rfl|rfl⟩<;>simp[Q8g,wfK,Q2B,Q4z,Q4h,Q0w]
 ·rcases Q2L hm with⟨rfl,rfl|rfl|rfl|rfl⟩|⟨rfl,rfl|rfl⟩|⟨_,_,rfl|rfl⟩<;>simp[wfK,Q8g,Q3r]
 ·cases p<;>simp[wfK,Q3r]at hw<;>omega
 ·cases p<;>simp[wfK,Q3r]at hw<;>simp[Q6j,wfK,Q2B,Q4z]at hh⊢
 ·obtain⟨sn,sm,st,f,acc,notes,L⟩:=s
  simp only at hn hmd htk hf hl
  subst hn hmd htk hf
  have l0:=Q6f (n:=n) (L:=L) (c:=0) hl (by decide) (by omega)
  have a0:=fun x=>Q7B (n:=n) (L:=L) (c:=0) (x:=x) hl (by decide) (by omega)
  have s0:=fun x=>Q3Y (n:=n) (L:=L) (c:=0) (x:=x) hl (by decide) (by omega)
  have c0:=fun x y=>Q4T (n:=n) (L:=L) (c:=0) (x:=x) (y:=y) hl (by decide) (by omega)
  have d0:=fun x y=>Q3Z (n:=n) (L:=L) (c:=0) (x:=x) (y:=y) hl (by decide) (by omega)
  simp only[show(0:Int).toNat=0 from rfl]at l0 a0 s0 c0 d0
  show X3e wfK n p (Q1O (Q0j n L 0) p) _ _
  generalize Q0j n L 0=x0 at l0 a0 s0 c0 d0
  cases p<;>simp[wfK,Q3r]at hw<;>simp[wfK,Q2B,Q4z,Fr.zero]at hop
  case r0=>by_cases q0:Q1B x0=true<;>constructor<;>simp[wfK,Q2B,Q4z,wfA,Q1O,Rn.fresh,Rn.did,Rn.Q0h,Rn.setB,Rn.note,Rn.goto,Rn.Q0d,Rn.fin,Rn.wake,Q0e,Q0o,Q0c,Q1f,q0,Y4K,Q0I,l0,a0,s0,c0,d0]<;>omega
  case r1 a=>by_cases q0:x0=a<;>constructor<;>simp[wfK,Q2B,Q4z,wfA,Q1O,Rn.fresh,Rn.did,Rn.Q0h,Rn.setB,Rn.note,Rn.goto,Rn.Q0d,Rn.fin,Rn.wake,Q0e,Q0o,Q0c,Q1f,q0,Y4J,Rn.Q1Q,l0,a0,s0,c0,d0]<;>omega
  case r3 a=>by_cases q0:Q1B x0=true<;>constructor<;>simp[wfK,Q2B,Q4z,wfA,Q1O,Rn.fresh,Rn.did,Rn.Q0h,Rn.setB,Rn.note,Rn.goto,Rn.Q0d,Rn.fin,Rn.wake,Q0e,Q0o,Q0c,Q1f,q0,Y4I,Q0I,l0,a0,s0,c0,d0]<;>omega
  case u0=>constructor<;>simp[wfK,Q2B,Q4z,wfA,Q1O,Rn.fresh,Rn.did,Rn.Q0h,Rn.setB,Rn.note,Rn.goto,Rn.Q0d,Rn.fin,Rn.wake,Q0e,Q0o,Q0c,Q1f,Y4H,Rn.Q1Q,l0,a0,s0,c0,d0]<;>omega
  case l0=>constructor<;>simp[wfK,Q2B,Q4z,wfA,Q1O,Rn.fresh,Rn.did,Rn.Q0h,Rn.setB,Rn.note,Rn.goto,Rn.Q0d,Rn.fin,Rn.wake,Q0e,Q0o,Q0c,Q1f,Y4G,l0,a0,s0,c0,d0]<;>omega
  case v0=>constructor<;>simp[wfK,Q2B,Q4z,wfA,Q1O,Rn.fresh,Rn.did,Rn.Q0h,Rn.setB,Rn.note,Rn.goto,Rn.Q0d,Rn.fin,Rn.wake,Q0e,Q0o,Q0c,Q1f,Y4F,l0,a0,s0,c0,d0]<;>omega
  case v1 a=>constructor<;>simp[wfK,Q2B,Q4z,wfA,Q1O,Rn.fresh,Rn.did,Rn.Q0h,Rn.setB,Rn.note,Rn.goto,Rn.Q0d,Rn.fin,Rn.wake,Q0e,Q0o,Q0c,Q1f,Y4E,Rn.Q1Q,l0,a0,s0,c0,d0]<;>omega
  case d0=>constructor<;>simp[wfK,Q2B,Q4z,wfA,Q1O,Rn.fresh,Rn.did,Rn.Q0h,Rn.setB,Rn.note,Rn.goto,Rn.Q0d,Rn.fin,Rn.wake,Q0e,Q0o,Q0c,Q1f,Y4x,l0,a0,s0,c0,d0]<;>omega
  case d1 a=>constructor<;>simp[wfK,Q2B,Q4z,wfA,Q1O,Rn.fresh,Rn.did,Rn.Q0h,Rn.setB,Rn.note,Rn.goto,Rn.Q0d,Rn.fin,Rn.wake,Q0e,Q0o,Q0c,Q1f,Y4w,Rn.Q1Q,l0,a0,s0,c0,d0]<;>omega
  case q0 a=>by_cases q0:Q1B x0=true<;>constructor<;>simp[wfK,Q2B,Q4z,wfA,Q1O,Rn.fresh,Rn.did,Rn.Q0h,Rn.setB,Rn.note,Rn.goto,Rn.Q0d,Rn.fin,Rn.wake,Q0e,Q0o,Q0c,Q1f,q0,Y4D,Rn.Q4A,l0,a0,s0,c0,d0]<;>omega
  case q1 a=>by_cases q0:x0=a<;>constructor<;>simp[wfK,Q2B,Q4z,wfA,Q1O,Rn.fresh,Rn.did,Rn.Q0h,Rn.setB,Rn.note,Rn.goto,Rn.Q0d,Rn.fin,Rn.wake,Q0e,Q0o,Q0c,Q1f,q0,Y4C,Rn.Q3K,Rn.Q1Q,l0,a0,s0,c0,d0]<;>omega
  case y0 a=>by_cases q0:(Q1B x0=true∧wfR x0=0)<;>constructor<;>simp[wfK,Q2B,Q4z,wfA,Q1O,Rn.fresh,Rn.did,Rn.Q0h,Rn.setB,Rn.note,Rn.goto,Rn.Q0d,Rn.fin,Rn.wake,Q0e,Q0o,Q0c,Q1f,q0,Y4B,Rn.Q4A,l0,a0,s0,c0,d0]<;>omega
  case y1 a=>by_cases q0:x0=a<;>constructor<;>simp[wfK,Q2B,Q4z,wfA,Q1O,Rn.fresh,Rn.did,Rn.Q0h,Rn.setB,Rn.note,Rn.goto,Rn.Q0d,Rn.fin,Rn.wake,Q0e,Q0o,Q0c,Q1f,q0,Y4A,Rn.Q3K,Rn.Q1Q,l0,a0,s0,c0,d0]<;>omega
  case z0 a=>by_cases q0:(Q1B x0=true∧wfR x0=1)<;>constructor<;>simp[wfK,Q2B,Q4z,wfA,Q1O,Rn.fresh,Rn.did,Rn.Q0h,Rn.setB,Rn.note,Rn.goto,Rn.Q0d,Rn.fin,Rn.wake,Q0e,Q0o,Q0c,Q1f,q0,Y4z,Rn.Q4A,l0,a0,s0,c0,d0]<;>omega
  case z1 a=>by_cases q0:x0=a<;>constructor<;>simp[wfK,Q2B,Q4z,wfA,Q1O,Rn.fresh,Rn.did,Rn.Q0h,Rn.setB,Rn.note,Rn.goto,Rn.Q0d,Rn.fin,Rn.wake,Q0e,Q0o,Q0c,Q1f,q0,Y4y,Rn.Q3K,Rn.Q1Q,l0,a0,s0,c0,d0]<;>omega
 ·obtain⟨sn,sm,stk,f,acc,notes,L⟩:=s
  simp only at hn hmd htk hf hl
  subst hn hmd htk hf
  cases p<;>simp[wfK,Q3r]at hw
  case r2 a=>
   obtain⟨rfl,rfl⟩:=hw
   have hd:=fun h=>Q1u (L:=L) (n:=n) (mode:=sm) (task:=t) (st:=st) (c:=0) (p:=Q1B) h
   have hs:=fun h=>Q2i (L:=L) (n:=n) (mode:=sm) (task:=t) (st:=st) (c:=0) (p:=Q1B) h0 h3 h
   simp[wfK,Q2B,Q4z,wfA,Rn.fresh,Rn.waited,wfKeep,Q6j,Y2W,Rn.keep]
   generalize Q0t L n sm t st 0 (Q1B)=R at hd hs⊢
   obtain⟨rs,ra,rsn,rd,rw_⟩:=R
   cases rsn<;>cases rd<;>simp[Rn.note,Rn.fin,Rn.goto,Rn.Q0h,Q0o,Q0c]at hd hs⊢ <;>simp[hd,Wk.zero]
  case l1 a=>
   obtain⟨rfl,rfl⟩:=hw
   have hd:=fun h=>Q1u (L:=L) (n:=n) (mode:=sm) (task:=t) (st:=st) (c:=0) (p:=fun v=>wfT v==wfG a &&wfR v==0) h
   have hs:=fun h=>Q2i (L:=L) (n:=n) (mode:=sm) (task:=t) (st:=st) (c:=0) (p:=fun v=>wfT v==wfG a &&wfR v==0) h0 h3 h
   simp[wfK,Q2B,Q4z,wfA,Rn.fresh,Rn.waited,wfKeep,Q6j,Y2V]
   generalize Q0t L n sm t st 0 (fun v=>wfT v==wfG a &&wfR v==0)=R at hd hs⊢
   obtain⟨rs,ra,rsn,rd,rw_⟩:=R
   cases rsn<;>cases rd<;>simp[Rn.note,Rn.fin,Rn.goto,Rn.Q0h,Q0o,Q0c]at hd hs⊢ <;>simp[hd,Wk.zero]
 ·obtain⟨sn,sm,stk,f,acc,notes,L⟩:=s
  simp only at hn hmd htk hf hl
  subst hn hmd htk hf
  cases p<;>simp[wfK,Q3r]at hw
  case r2 a=>
   obtain⟨rfl,rfl⟩:=hw
   have hd:=Q1b (L:=L) (n:=n) (task:=t) (c:=0) (p:=Q1B) hm2
   have hs:=Q1i (L:=L) (n:=n) (task:=t) (c:=0) (p:=Q1B) hm2
   simp[wfK,Q2B,Q4z,wfA,Rn.fresh,Rn.waited,wfKeep,Q6j,Y2W,Rn.keep]
   generalize Q0t L n sm t 4 0 (Q1B)=R at hd hs⊢
   obtain⟨rs,ra,rsn,rd,rw_⟩:=R
   obtain⟨rfl,rfl⟩:=hd
   obtain rfl:=hs
   simp[Rn.note,Rn.fin,Rn.goto,Rn.Q0h,Q0o,Q0c,Wk.zero]
  case l1 a=>
   obtain⟨rfl,rfl⟩:=hw
   have hd:=Q1b (L:=L) (n:=n) (task:=t) (c:=0) (p:=fun v=>wfT v==wfG a &&wfR v==0) hm2
   have hs:=Q1i (L:=L) (n:=n) (task:=t) (c:=0) (p:=fun v=>wfT v==wfG a &&wfR v==0) hm2
   simp[wfK,Q2B,Q4z,wfA,Rn.fresh,Rn.waited,wfKeep,Q6j,Y2V]
   generalize Q0t L n sm t 4 0 (fun v=>wfT v==wfG a &&wfR v==0)=R at hd hs⊢
   obtain⟨rs,ra,rsn,rd,rw_⟩:=R
   obtain⟨rfl,rfl⟩:=hd
   obtain rfl:=hs
   simp[Rn.note,Rn.fin,Rn.goto,Rn.Q0h,Q0o,Q0c,Wk.zero]
def Q4J:WfP→Int
 |.idle h=>if h=2 then 1 else 0
 |.l1 _=>1
 |.v0=>1
 |.v1 _=>1
 |.d0=>1
 |.d1 _=>1
 |_=>0
def Q5m:WfP→Int
 |.idle h=>if h=1 then 1 else 0
 |.u0=>1
 |.z0 _=>1
 |.z1 _=>1
 |_=>0
theorem Y5P: ∀x,Q4J x≤1:=by intro x;cases x<;>simp[Q4J];split<;>omega
theorem X2e: ∀x,0≤Q5m x:=by intro x;cases x<;>simp[Q5m];split<;>omega
theorem Y5Q: ∀x,Q5m x≤1:=by intro x;cases x<;>simp[Q5m];split<;>omega
def X0M(R U t:Int):WfP→Prop
 |.idle h=>h=0∨h=1∨(h=2∧t=U∧R=0)
 |.r1 a=>Q1B a=true
 |.l1 a=>wfG a=t%256
 |.v0=>t=U∧R=0
 |.v1 a=>t=U∧R=0∧wfT a=U%256
 |.d0=>t=U∧R=0
 |.d1 a=>t=U∧R=0∧wfT a=U%256
 |.q1 a=>Q1B a=true
 |.y1 a=>Q1B a=true∧wfR a=0
 |.z1 a=>Q1B a=true∧wfR a=1
 |_=>True
structure X5S(n:Nat)(ps:List WfP)(x:Int)(R U G:Int)(T:Nat→Int):Prop where
 w:0≤x∧x<4294967296
 r:wfR x=R
 t:wfT x=U%256
 g:wfG x=G%256
 ug:U≤G
 nt:G-U=ws Q4J ps
 nr:R=ws Q5m ps
 rng: ∀i,i<n→Q4J (ps.getD i (wfK.idle 0))=1→U≤T i∧T i<G
 inj: ∀i j,i<n→j<n→i≠j→Q4J (ps.getD i (wfK.idle 0))=1→Q4J (ps.getD j (wfK.idle 0))=1→T i≠T j
 sur: ∀t,U≤t→t<G→ ∃i,i<n∧Q4J (ps.getD i (wfK.idle 0))=1∧T i=t
 at_: ∀i,i<n→X0M R U (T i) (ps.getD i (wfK.idle 0))
def wfI(n b:Nat)(ps:List WfP)(m:Nat→Int):Prop:=n≤64∧ps.length=n∧ ∃R U G T,X5S n ps (m 0) R U G T
section
variable {R U G x x':Int}{n:Nat}{ps:List WfP}{T:Nat→Int}{i:Nat}{p p':WfP}
theorem X5S.few(H:X5S n ps x R U G T)(hn:n≤64)(hl:ps.length=n):0≤R∧R≤64∧G-U≤64∧Q1B x=(G==U):=by
 have a1:=Q1w X2e ps
 have a2:=Q8b Y5Q ps
 have a3:=Q8b Y5P ps
 have h1:=H.nr
 have h2:=H.nt
 have h3:=H.ug
 refine⟨by omega,by omega,by omega,?_⟩
 unfold Q1B
 rw[H.t,H.g]
 by_cases e:G=U
 ·rw[e];simp
 ·have e1:(G==U)=false:=by simpa using e
  rw[e1]
  have: ¬U%256=G%256:=by omega
  simpa using this
theorem Q5I(hl:ps.length=n)(hi:i<n){j:Nat}:(ps.set i p').getD j (wfK.idle 0)=if i=j then p' else ps.getD j (wfK.idle 0):=Q2K (by omega)
theorem X5S.same(H:X5S n ps x R U G T)(hl:ps.length=n)(hi:i<n)(hp:ps.getD i (wfK.idle 0)=p)(ht:Q4J p'=Q4J p){R':Int}(hd:R'=R-Q5m p+Q5m p')(ha:X0M R' U (T i) p')(hw:0≤x'∧x'<4294967296)(e:wfR x'=R'∧wfT x'=wfT x∧wfG x'=wfG x)
 (ho:R'=R∨G=U∨1≤R):X5S n (ps.set i p') x' R' U G T:=by
 have s1:=Q0l (f:=Q4J) (d:=wfK.idle 0) (x:=p') (l:=ps) (i:=i) (by omega)
 have s2:=Q0l (f:=Q5m) (d:=wfK.idle 0) (x:=p') (l:=ps) (i:=i) (by omega)
 rw[hp]at s1 s2
 have hT: ∀j,Q4J ((ps.set i p').getD j (wfK.idle 0))=Q4J (ps.getD j (wfK.idle 0)):=fun j=>by
  rw[Q5I hl hi]
  split
  ·rename_i e;subst e;rw[hp,ht]
  ·rfl
 refine⟨hw,e.1,e.2.1.trans H.t,e.2.2.trans H.g,H.ug,by have:=H.nt;omega,by have:=H.nr;omega,fun j hj h=>H.rng j hj (by rw[←hT];exact h),fun j k hj hk hjk h1 h2=>H.inj j k hj hk hjk (by rw[←hT];exact h1) (by rw[←hT];exact h2),fun t h1 h2=> ?_,fun j hj=> ?_⟩
 ·obtain⟨j,g1,g2,g3⟩:=H.sur t h1 h2
  exact⟨j,g1,by rw[hT];exact g2,g3⟩
 ·rw[Q5I hl hi]
  split
  ·rename_i e;subst e;exact ha
  ·have hrj:=H.rng j hj
   have hj:=H.at_ j hj
   generalize ps.getD j (wfK.idle 0)=q at hj hrj
   cases q<;>simp only[X0M,Q4J]at hj hrj⊢ <;>first|exact hj|skip
   case idle h=>
    rcases hj with h1|h1|⟨h1,h3,h4⟩
    ·exact Or.inl h1
    ·exact Or.inr (Or.inl h1)
    ·have:=hrj (by rw[if_pos h1])
     exact Or.inr (Or.inr ⟨h1,h3,by omega⟩)
   all_goals(have:=hrj trivial;omega)
theorem X5S.take(H:X5S n ps x R U G T)(hl:ps.length=n)(hi:i<n)(hp:ps.getD i (wfK.idle 0)=p)(ht0:Q4J p=0)(ht:Q4J p'=1){R':Int}(hd:R'=R-Q5m p+Q5m p')(ha:X0M R' U G p')(hw:0≤x'∧x'<4294967296)(e:wfR x'=R'∧wfT x'=wfT x∧wfG x'=(wfG x+1)%256)(ho:R'=R∨G=U):
 ∃T',X5S n (ps.set i p') x' R' U (G+1) T':=by
 have s1:=Q0l (f:=Q4J) (d:=wfK.idle 0) (x:=p') (l:=ps) (i:=i) (by omega)
 have s2:=Q0l (f:=Q5m) (d:=wfK.idle 0) (x:=p') (l:=ps) (i:=i) (by omega)
 rw[hp]at s1 s2
 have hug:=H.ug
 refine⟨fun j=>if j=i then G else T j,hw,e.1,e.2.1.trans H.t,by rw[e.2.2,H.g];omega,by omega,by have:=H.nt;omega,by have:=H.nr;omega,fun j hj h=> ?_,fun j k hj hk hjk h1 h2=> ?_,fun t h1 h2=> ?_,fun j hj=> ?_⟩
 ·rw[Q5I hl hi]at h
  by_cases e:i=j
  ·subst e;simp only[if_true];omega
  ·rw[if_neg e]at h
   simp only[if_neg (fun h:j=i=>e h.symm)]
   have:=H.rng j hj h
   omega
 ·rw[Q5I hl hi]at h1 h2
  by_cases e1:i=j
  ·subst e1
   rw[if_neg hjk]at h2
   have:=H.rng k hk h2
   simp only[if_true,if_neg (fun h:k=i=>hjk h.symm)]
   omega
  ·rw[if_neg e1]at h1
   by_cases e2:i=k
   ·subst e2
    have:=H.rng j hj h1
    simp only[if_true,if_neg (fun h:j=i=>e1 h.symm)]
    omega
   ·rw[if_neg e2]at h2
    simp only[if_neg (fun h:j=i=>e1 h.symm),if_neg (fun h:k=i=>e2 h.symm)]
    exact H.inj j k hj hk hjk h1 h2
 ·by_cases hu:t=G
  ·exact⟨i,hi,by rw[Q5I hl hi,if_pos rfl];exact ht,by simp[hu]⟩
  ·obtain⟨j,g1,g2,g3⟩:=H.sur t h1 (by omega)
   have hji: ¬i=j:=by rintro rfl;rw[hp,ht0]at g2;omega
   exact⟨j,g1,by rw[Q5I hl hi,if_neg hji];exact g2,by simp only[if_neg (fun h:j=i=>hji h.symm)];exact g3⟩
 ·rw[Q5I hl hi]
  by_cases e1:i=j
  ·subst e1;simp only[if_true];exact ha
  ·simp only[if_neg e1,if_neg (fun h:j=i=>e1 h.symm)]
   have hrj:=H.rng j hj
   have hj:=H.at_ j hj
   generalize ps.getD j (wfK.idle 0)=q at hj hrj
   cases q<;>simp only[X0M,Q4J]at hj hrj⊢ <;>first|exact hj|skip
   case idle h=>
    rcases hj with h1|h1|⟨h1,h3,h4⟩
    ·exact Or.inl h1
    ·exact Or.inr (Or.inl h1)
    ·have:=hrj (by rw[if_pos h1])
     exact Or.inr (Or.inr ⟨h1,h3,by omega⟩)
   all_goals(have:=hrj trivial;omega)
theorem X5S.turn(H:X5S n ps x R U G T)(hl:ps.length=n)(hi:i<n)(hp:ps.getD i (wfK.idle 0)=p)(ht0:Q4J p=1)(hR:T i=U)(ht:Q4J p'=0){R':Int}(hd:R'=R-Q5m p+Q5m p')(ha:X0M R' (U+1) (T i) p')(hw:0≤x'∧x'<4294967296)(e:wfR x'=R'∧wfT x'=(wfT x+1)%256∧wfG x'=wfG x):
 X5S n (ps.set i p') x' R' (U+1) G T:=by
 have s1:=Q0l (f:=Q4J) (d:=wfK.idle 0) (x:=p') (l:=ps) (i:=i) (by omega)
 have s2:=Q0l (f:=Q5m) (d:=wfK.idle 0) (x:=p') (l:=ps) (i:=i) (by omega)
 rw[hp]at s1 s2
 have hru:=(H.rng i hi (by rw[hp];exact ht0)).2
 refine⟨hw,e.1,by rw[e.2.1,H.t];omega,e.2.2.trans H.g,by omega,by have:=H.nt;omega,by have:=H.nr;omega,fun j hj h=> ?_,fun j k hj hk hjk h1 h2=> ?_,fun t h1 h2=> ?_,fun j hj=> ?_⟩
 ·rw[Q5I hl hi]at h
  by_cases e:i=j
  ·subst e;rw[if_pos rfl,ht]at h;omega
  ·rw[if_neg e]at h
   have g1:=H.rng j hj h
   have g2:=H.inj i j hi hj e (by rw[hp];exact ht0) h
   omega
 ·rw[Q5I hl hi]at h1 h2
  have e1: ¬i=j:=by rintro rfl;rw[if_pos rfl,ht]at h1;omega
  have e2: ¬i=k:=by rintro rfl;rw[if_pos rfl,ht]at h2;omega
  rw[if_neg e1]at h1
  rw[if_neg e2]at h2
  exact H.inj j k hj hk hjk h1 h2
 ·obtain⟨j,g1,g2,g3⟩:=H.sur t (by omega) h2
  have hji: ¬i=j:=by rintro rfl;omega
  exact⟨j,g1,by rw[Q5I hl hi,if_neg hji];exact g2,g3⟩
 ·rw[Q5I hl hi]
  by_cases e1:i=j
  ·subst e1;rw[if_pos rfl];exact ha
  ·rw[if_neg e1]
   have g2:=fun h=>H.inj i j hi hj e1 (by rw[hp];exact ht0) h
   have hj:=H.at_ j hj
   generalize ps.getD j (wfK.idle 0)=q at hj g2
   cases q<;>simp only[X0M,Q4J]at hj g2⊢ <;>first|exact hj|skip
   case idle h=>
    rcases hj with h1|h1|⟨h1,h3,h4⟩
    ·exact Or.inl h1
    ·exact Or.inr (Or.inl h1)
    ·exact absurd (hR.trans h3.symm) (g2 (by rw[if_pos h1]))
   all_goals(exfalso;simp at g2;omega)
end
theorem Q6F{v:Int}(h:0≤v∧v<4294967296)(hr:wfR v<255):(0≤(v+1)%4294967296∧(v+1)%4294967296<4294967296)∧wfR ((v+1)%4294967296)=wfR v+1∧wfT ((v+1)%4294967296)=wfT v∧wfG ((v+1)%4294967296)=wfG v:=by
 unfold wfR wfT wfG at*;omega
theorem X9L{v:Int}(h:0≤v∧v<4294967296)(hr:1≤wfR v):(0≤(v+4294967295)%4294967296∧(v+4294967295)%4294967296<4294967296)∧wfR ((v+4294967295)%4294967296)=wfR v-1∧wfT ((v+4294967295)%4294967296)=wfT v∧wfG ((v+4294967295)%4294967296)=wfG v:=by
 unfold wfR wfT wfG at*;omega
theorem Q5X{v:Int}(h:0≤v∧v<4294967296):(0≤(v+65536)%4294967296∧(v+65536)%4294967296<4294967296)∧wfR ((v+65536)%4294967296)=wfR v∧wfT ((v+65536)%4294967296)=wfT v∧wfG ((v+65536)%4294967296)=(wfG v+1)%256:=by
 unfold wfR wfT wfG at*;omega
theorem Y1S{v:Int}(h:0≤v∧v<4294967296)(hr:1≤wfR v):(0≤(v+65535)%4294967296∧(v+65535)%4294967296<4294967296)∧wfR ((v+65535)%4294967296)=wfR v-1∧wfT ((v+65535)%4294967296)=wfT v∧wfG ((v+65535)%4294967296)=(wfG v+1)%256:=by
 unfold wfR wfT wfG at*;omega
theorem X3j{v:Int}(h:0≤v∧v<4294967296):(0≤(v+Q3w v)%4294967296∧(v+Q3w v)%4294967296<4294967296)∧wfR ((v+Q3w v)%4294967296)=wfR v∧wfT ((v+Q3w v)%4294967296)=(wfT v+1)%256∧wfG ((v+Q3w v)%4294967296)=wfG v:=by
 have e:(v+Q3w v)%4294967296=v-v/256%256*256+(v/256%256+1)%256*256:=by unfold Q3w;omega
 rw[e]
 unfold wfR wfT wfG at*
 refine⟨⟨by omega,by omega⟩,by omega,by omega,by omega⟩
theorem X5Z{v:Int}(h:0≤v∧v<4294967296)(hr:wfR v=0):(0≤(v+(Q3w v+1)%4294967296)%4294967296∧(v+(Q3w v+1)%4294967296)%4294967296<4294967296)∧wfR ((v+(Q3w v+1)%4294967296)%4294967296)=1∧wfT ((v+(Q3w v+1)%4294967296)%4294967296)=(wfT v+1)%256∧wfG ((v+(Q3w v+1)%4294967296)%4294967296)=wfG v:=by
 have h1:=X3j h
 have e:(v+(Q3w v+1)%4294967296)%4294967296=((v+Q3w v)%4294967296+1)%4294967296:=by omega
 rw[e]
 obtain⟨h2,h3,h4,h5⟩:=h1
 have:=Q6F h2 (by omega)
 rw[h3,h4,h5]at this
 refine⟨this.1,by omega,this.2.2.1,this.2.2.2⟩
theorem X0c{a x:Int}(h:wfT a=wfT x):Q3w a=Q3w x:=by
 unfold wfT at h
 unfold Q3w
 rw[h]
theorem Y2U{n b:Nat}{ps:List WfP}{m:Nat→Int}{R U G:Int}{T:Nat→Int}(h1:n≤64)(h2:ps.length=n)(H:X5S n ps (m 0) R U G T):wfI n b ps m:=⟨h1,h2,R,U,G,T,H⟩
theorem Y2Q(n:Nat):wfK.Q5D n (wfI n):=by
 refine⟨fun b ps m H=>H,fun b ps m i _ _ _=>trivial,fun b ps m i op h H hi hl hp hm=> ?_,fun b ps m i H hi hl hw hop=> ?_,fun b ps m i c pr H hi hl hw hpr=> ?_,fun b ps m i j c pr H hi hj hij hl hw hop hwj hpr=> ?_⟩
 ·obtain⟨h1,h2,R,U,G,T,H⟩:=H
  have ha:=H.at_ i hi
  rw[hp]at ha
  have ha:h=0∨h=1∨(h=2∧T i=U∧R=0):=ha
  have key:Q4J (wfK.start op h)=Q4J (wfK.idle h)∧Q5m (wfK.start op h)=Q5m (wfK.idle h)∧X0M R U (T i) (wfK.start op h):=by
   rcases Q2L hm with⟨rfl,rfl|rfl|rfl|rfl⟩|⟨rfl,rfl|rfl⟩|⟨g1,g2,rfl|rfl⟩<;>simp[wfK,Q8g,Q4J,Q5m,X0M]<;>omega
  exact Y2U h1 (by simpa using h2) (H.same hl hi hp key.1 (R':=R) (by rw[key.2.1];omega) key.2.2 H.w ⟨H.r,rfl,rfl⟩ (Or.inl rfl))
 ·obtain⟨h1,h2,R,U,G,T,H⟩:=H
  have ha:=H.at_ i hi
  have hrg:=H.rng i hi
  have hact:wfK.act i (ps.getD i (wfK.idle 0)) m=Q1O (m 0) (ps.getD i (wfK.idle 0)):=rfl
  rw[hact]
  obtain⟨p,hp⟩: ∃p,ps.getD i (wfK.idle 0)=p:=⟨_,rfl⟩
  rw[hp]at ha hrg hw hop⊢
  have hl2: ∀q,(ps.set i q).length=n:=fun q=>by simpa using h2
  obtain⟨f1,f2,f3,f4⟩:=H.few h1 h2
  have hr:=H.r
  have ht:=H.t
  have hg:=H.g
  have hug:=H.ug
  have hx:=H.w
  have d1:=Q0m (d:=wfK.idle 0) X2e (l:=ps) (i:=i) (by omega)
  rw[hp,←H.nr]at d1
  have hwr: ∀v,written m (some (0,v)) 0=v:=fun v=>by simp[written,upd]
  have nowr: ∀q,Q4J q=Q4J p→Q5m q=Q5m p→X0M R U (T i) q→wfI n b (ps.set i q) m:=fun q g1 g2 g3=>Y2U h1 (hl2 q) (H.same hl hi hp g1 (by rw[g2];omega) g3 H.w ⟨H.r,rfl,rfl⟩ (Or.inl rfl))
  have read: ∀q v R',R'=R-Q5m p+Q5m q→Q4J q=Q4J p→X0M R' U (T i) q→(0≤v∧v<4294967296)→(wfR v=R'∧wfT v=wfT (m 0)∧wfG v=wfG (m 0))→(R'=R∨G=U∨1≤R)→wfI n b (ps.set i q) (written m (some (0,v))):=fun q v R' g1 g2 g3 g4 g5 g6=>
   Y2U h1 (hl2 q) (R:=R') (by rw[hwr];exact H.same hl hi hp g2 g1 g3 g4 g5 g6)
  have taken: ∀q v R',Q4J p=0→Q4J q=1→R'=R-Q5m p+Q5m q→X0M R' U G q→(0≤v∧v<4294967296)→(wfR v=R'∧wfT v=wfT (m 0)∧wfG v=(wfG (m 0)+1)%256)→(R'=R∨G=U)→wfI n b (ps.set i q) (written m (some (0,v))):=fun q v R' g1 g2 g3 g4 g5 g6 g7=>by
   obtain⟨T',H'⟩:=H.take hl hi hp g1 g2 g3 g4 g5 g6 g7
   exact Y2U h1 (hl2 q) (by rw[hwr];exact H')
  have turned: ∀q v R',Q4J p=1→T i=U→Q4J q=0→R'=R-Q5m p+Q5m q→X0M R' (U+1) (T i) q→(0≤v∧v<4294967296)→(wfR v=R'∧wfT v=(wfT (m 0)+1)%256∧wfG v=wfG (m 0))→wfI n b (ps.set i q) (written m (some (0,v))):=fun q v R' g1 g2 g3 g4 g5 g6 g7=>
   Y2U h1 (hl2 q) (by rw[hwr];exact H.turn hl hi hp g1 g2 g3 g4 g5 g6 g7)
  have calm: ∀a,m 0=a→Q1B a=true→G=U:=fun a g1 g2=>by rw[←g1,f4]at g2;simpa using g2
  cases p<;>simp[wfK,Q3r]at hw<;>simp[wfK,Q2B,Q4z,Fr.zero]at hop<;>simp only[X0M]at ha<;>simp only[Q4J]at hrg<;>simp only[Q5m]at d1<;>simp only[Q1O]
  case r0=>
   split
   ·exact nowr _ rfl rfl (by assumption)
   ·exact nowr _ rfl rfl trivial
  case r3 a=>
   split
   ·exact nowr _ rfl rfl (by assumption)
   ·exact nowr _ rfl rfl trivial
  case r1 a=>
   by_cases hq:m 0=a
   ·rw[if_pos hq,←hq]
    have k:=Q6F hx (by omega)
    exact read _ _ (R+1) (by simp[Q5m]) rfl (Or.inr (Or.inl rfl)) k.1 ⟨by omega,k.2.2.1,k.2.2.2⟩ (Or.inr (Or.inl (calm a hq ha)))
   ·rw[if_neg hq];exact nowr _ rfl rfl trivial
  case q1 a=>
   by_cases hq:m 0=a
   ·rw[if_pos hq,←hq]
    have k:=Q6F hx (by omega)
    exact read _ _ (R+1) (by simp[Q5m]) rfl (Or.inr (Or.inl rfl)) k.1 ⟨by omega,k.2.2.1,k.2.2.2⟩ (Or.inr (Or.inl (calm a hq ha)))
   ·rw[if_neg hq];exact nowr _ rfl rfl trivial
  case u0=>
   have k:=X9L hx (by omega)
   exact read _ _ (R-1) (by simp[Q5m]) rfl (Or.inl rfl) k.1 ⟨by omega,k.2.2.1,k.2.2.2⟩ (Or.inr (Or.inr (by omega)))
  case l0=>
   have k:=Q5X hx
   exact taken _ _ R rfl rfl (by simp[Q5m]) hg k.1 ⟨by omega,k.2.2.1,k.2.2.2⟩ (Or.inl rfl)
  case v0=>exact nowr _ rfl rfl ⟨ha.1,ha.2,ht⟩
  case d0=>exact nowr _ rfl rfl ⟨ha.1,ha.2,ht⟩
  case v1 a=>
   have k:=X3j hx
   rw[X0c (x:=m 0) (by rw[ha.2.2,ht])]
   exact turned _ _ R rfl ha.1 rfl (by simp[Q5m]) (Or.inl rfl) k.1 ⟨by omega,k.2.2.1,k.2.2.2⟩
  case d1 a=>
   have k:=X5Z hx (by omega)
   rw[X0c (x:=m 0) (by rw[ha.2.2,ht])]
   exact turned _ _ 1 rfl ha.1 rfl (by simp[Q5m];omega) (Or.inr (Or.inl rfl)) k.1 ⟨k.2.1,k.2.2.1,k.2.2.2⟩
  case q0 a=>
   split
   ·exact nowr _ rfl rfl (by assumption)
   ·exact nowr _ rfl rfl (Or.inl rfl)
  case y0 a=>
   split
   ·rename_i hq
    simp at hq
    exact nowr _ rfl rfl hq
   ·exact nowr _ rfl rfl (Or.inl rfl)
  case z0 a=>
   split
   ·rename_i hq
    simp at hq
    exact nowr _ rfl rfl hq
   ·exact nowr _ rfl rfl (Or.inr (Or.inl rfl))
  case y1 a=>
   by_cases hq:m 0=a
   ·rw[if_pos hq,←hq]
    have hc:=calm a hq ha.1
    rw[←hq]at ha
    have k:=Q5X hx
    exact taken _ _ R rfl rfl (by simp[Q5m]) (Or.inr (Or.inr ⟨rfl,hc,by omega⟩)) k.1 ⟨by omega,k.2.2.1,k.2.2.2⟩ (Or.inl rfl)
   ·rw[if_neg hq];exact nowr _ rfl rfl trivial
  case z1 a=>
   by_cases hq:m 0=a
   ·rw[if_pos hq,←hq]
    have hc:=calm a hq ha.1
    rw[←hq]at ha
    have k:=Y1S hx (by omega)
    exact taken _ _ 0 rfl rfl (by simp[Q5m];omega) (Or.inr (Or.inr ⟨rfl,hc,rfl⟩)) k.1 ⟨by omega,k.2.2.1,k.2.2.2⟩ (Or.inr hc)
   ·rw[if_neg hq];exact nowr _ rfl rfl trivial
 ·obtain⟨h1,h2,R,U,G,T,H⟩:=H
  have ha:=H.at_ i hi
  have hrg:=H.rng i hi
  have hpost:wfK.post (ps.getD i (wfK.idle 0)) (m c)=Q6j (m c) (ps.getD i (wfK.idle 0)):=rfl
  rw[hpost]
  obtain⟨p,hp⟩: ∃p,ps.getD i (wfK.idle 0)=p:=⟨_,rfl⟩
  rw[hp]at ha hrg hw⊢
  obtain⟨f1,f2,f3,f4⟩:=H.few h1 h2
  have hr:=H.r
  have ht:=H.t
  cases p<;>simp[wfK,Q3r]at hw<;>simp only[X0M]at ha<;>simp only[Q4J]at hrg
  case r2 a=>
   obtain⟨rfl,rfl⟩:=hw
   exact Y2U h1 (by simpa using h2) (H.same (p':= .r1 (m 0)) (R':=R) hl hi hp rfl (by simp[Q5m]) hpr H.w ⟨H.r,rfl,rfl⟩ (Or.inl rfl))
  case l1 a=>
   obtain⟨rfl,rfl⟩:=hw
   have hq:wfT (m 0)=wfG a∧wfR (m 0)=0:=by simpa using hpr
   have hr2:=hrg trivial
   exact Y2U h1 (by simpa using h2) (H.same (p':= .idle 2) (R':=R) hl hi hp rfl (by simp[Q5m]) (Or.inr (Or.inr ⟨rfl,by omega,by omega⟩)) H.w ⟨H.r,rfl,rfl⟩ (Or.inl rfl))
 ·obtain⟨h1,h2,R,U,G,T,H⟩:=H
  have hact:wfK.act i (ps.getD i (wfK.idle 0)) m=Q1O (m 0) (ps.getD i (wfK.idle 0)):=rfl
  rw[hact]at hpr⊢
  have hai:=H.at_ i hi
  have hrj:=H.rng j hj
  obtain⟨p,hp⟩: ∃p,ps.getD i (wfK.idle 0)=p:=⟨_,rfl⟩
  obtain⟨q,hq⟩: ∃q,ps.getD j (wfK.idle 0)=q:=⟨_,rfl⟩
  rw[hp]at hai hw hop hpr⊢
  rw[hq]at hrj hwj
  obtain⟨f1,f2,f3,f4⟩:=H.few h1 h2
  have hr:=H.r
  have ht:=H.t
  have hg:=H.g
  have hx:=H.w
  have hug:=H.ug
  have hwr: ∀v,written m (some (0,v)) 0=v:=fun v=>by simp[written,upd]
  have hc:c=0∧(pr=Q1B∨ ∃a,q= .l1 a∧pr=(fun v=>wfT v==wfG a &&wfR v==0)):=by
   cases q<;>simp[wfK,Q3r]at hwj
   case r2 a=>exact⟨hwj.1.symm,Or.inl hwj.2.symm⟩
   case l1 a=>exact⟨hwj.1.symm,Or.inr ⟨a,rfl,hwj.2.symm⟩⟩
  obtain⟨rfl,hprs⟩:=hc
  have keep:written m (Q1O (m 0) p).2.1 0=m 0→pr (m 0)=true∨(Q1O (m 0) p).2.2=some 0:=fun e=>Or.inl (by rw[←e];exact hpr)
  have more: ∀v,written m (Q1O (m 0) p).2.1 0=v→wfR v≠0→wfT v=wfT (m 0)→wfG v=wfG (m 0)→pr (m 0)=true∨(Q1O (m 0) p).2.2=some 0:=fun v e e1 e2 e3=>by
   rw[e]at hpr
   rcases hprs with rfl|⟨a,rfl,rfl⟩
   ·left
    unfold Q1B at hpr⊢
    rw[←e2,←e3];exact hpr
   ·simp at hpr
    exact absurd hpr.2 e1
  have tick: ∀v,written m (Q1O (m 0) p).2.1 0=v→(wfR v=wfR (m 0)∨G=U)→wfT v=wfT (m 0)→wfG v=(wfG (m 0)+1)%256→pr (m 0)=true∨(Q1O (m 0) p).2.2=some 0:=fun v e e1 e2 e3=>by
   rw[e]at hpr
   rcases hprs with rfl|⟨a,rfl,rfl⟩
   ·exfalso
    unfold Q1B at hpr
    rw[e2,e3,ht,hg]at hpr
    have:U%256=(G%256+1)%256:=by simpa using hpr
    omega
   ·have hr2:=hrj rfl
    rcases e1 with e1|e1
    ·left
     simp only at hpr⊢
     rw[e1,e2]at hpr
     exact hpr
    ·omega
  cases p<;>simp[wfK,Q3r]at hw<;>simp[wfK,Q2B,Q4z,Fr.zero]at hop<;>simp only[X0M]at hai
  case u0=>exact Or.inr rfl
  case v1 a=>exact Or.inr rfl
  case d1 a=>exact Or.inr rfl
  case r0=>exact keep rfl
  case r3 a=>exact keep rfl
  case v0=>exact keep rfl
  case d0=>exact keep rfl
  case q0 a=>exact keep rfl
  case y0 a=>exact keep rfl
  case z0 a=>exact keep rfl
  case l0=>
   have k:=Q5X hx
   exact tick _ (hwr _) (Or.inl k.2.1) k.2.2.1 k.2.2.2
  case r1 a=>
   by_cases hq:m 0=a
   ·have k:=Q6F hx (by omega)
    exact more ((m 0+1)%4294967296) (by simp only[Q1O,if_pos hq];rw[hwr,hq]) (by omega) k.2.2.1 k.2.2.2
   ·exact keep (by simp only[Q1O,if_neg hq];rfl)
  case q1 a=>
   by_cases hq:m 0=a
   ·have k:=Q6F hx (by omega)
    exact more ((m 0+1)%4294967296) (by simp only[Q1O,if_pos hq];rw[hwr,hq]) (by omega) k.2.2.1 k.2.2.2
   ·exact keep (by simp only[Q1O,if_neg hq];rfl)
  case y1 a=>
   by_cases hq:m 0=a
   ·have k:=Q5X hx
    exact tick ((m 0+65536)%4294967296) (by simp only[Q1O,if_pos hq];rw[hwr,hq]) (Or.inl k.2.1) k.2.2.1 k.2.2.2
   ·exact keep (by simp only[Q1O,if_neg hq];rfl)
  case z1 a=>
   by_cases hq:m 0=a
   ·have hc:G=U:=by
     have:=hai.1
     rw[←hq,f4]at this
     simpa using this
    rw[←hq]at hai
    have k:=Y1S hx (by omega)
    exact tick ((m 0+65535)%4294967296) (by simp only[Q1O,if_pos hq];rw[hwr,hq]) (Or.inr hc) k.2.2.1 k.2.2.2
   ·exact keep (by simp only[Q1O,if_neg hq];rfl)
def Q9c:WfP→Nat
 |.idle h=>if h=0 then 0 else 1
 |.u0=>1
 |.l1 _=>1
 |.v0=>1
 |.v1 _=>1
 |_=>2
def Q9d:WfP→Nat
 |.idle h=>if h=0 then 0 else 1
 |.d0=>2
 |.d1 _=>2
 |_=>1
def Q8Z(x:Int):WfP→Nat
 |.idle h=>if h=0 then 0 else if h=1 then 1 else 2
 |.r0=>6| .r3 _=>6
 |.r1 a=>if x=a then 1 else 7
 |.r2 _=>if Q1B x then 2 else 5
 |.l1 a=>if wfT x==wfG a &&wfR x==0 then 3 else 5
 |.v0=>2| .d0=>2
 |.q0 _=>2| .y0 _=>2| .z0 _=>2
 |.q1 a=>if x=a then 1 else 3
 |.y1 a=>if x=a then 1 else 3
 |.z1 a=>if x=a then 1 else 3
 |_=>1
theorem Y2P(n:Nat):wfK.Live n (wfI n) 2 2 9 Q9c Q9d (fun m _ p=>Q8Z (m 0) p):=by
 refine⟨fun p=>by cases p<;>simp[Q9c]<;>(repeat' split)<;>omega,fun p=>by cases p<;>simp[Q9d]<;>(repeat' split)<;>omega,by decide,fun m t p=>Q8R (by cases p<;>simp[Q8Z]<;>(repeat' split)<;>omega),fun m t p c pr hw hpr=> ?_,fun m t p c pr hw hpr=> ?_,fun t p c pr v hw=> ?_,
  fun m t p w hw hop he=> ?_,fun b ps m t p hI hpl ht hpt hw hop he=> ?_,fun m t h hh=> ?_,fun m t=>rfl,fun m t p hw hz=> ?_,fun b ps m H hl hall=> ?_⟩
 ·cases p<;>simp[wfK,Q3r]at hw
  ·obtain⟨rfl,rfl⟩:=hw
   simp[wfK,Q6j,Q8Z,hpr]
  ·obtain⟨rfl,rfl⟩:=hw
   simp only[wfK,Q6j,Q8Z,hpr]
   decide
 ·cases p<;>simp[wfK,Q3r]at hw
  ·obtain⟨rfl,rfl⟩:=hw
   simp[Q8Z,hpr]
  ·obtain⟨rfl,rfl⟩:=hw
   simp only[Q8Z,hpr]
   decide
 ·cases p<;>simp[wfK,Q3r]at hw<;>simp[wfK,Q6j,Q9c,Q9d]
 ·have hact:wfK.act t p m=Q1O (m 0) p:=rfl
  rw[hact]at he⊢
  cases p<;>simp[wfK,Q3r]at hw<;>simp[wfK,Q2B,Q4z,Fr.zero]at hop
  case r1 a=>by_cases hq:m 0=a<;>simp[Q1O,hq]at he<;>simp[Q1O,Q9c,Q9d,hq]
  case q1 a=>by_cases hq:m 0=a<;>simp[Q1O,hq]at he<;>simp[Q1O,Q9c,Q9d,hq]
  case y1 a=>by_cases hq:m 0=a<;>simp[Q1O,hq]at he<;>simp[Q1O,Q9c,Q9d,hq]
  case z1 a=>by_cases hq:m 0=a<;>simp[Q1O,hq]at he<;>simp[Q1O,Q9c,Q9d,hq]
  all_goals first|(simp[Q1O]at he;done)|simp[Q1O,Q9c,Q9d]
 ·have hact:wfK.act t p m=Q1O (m 0) p:=rfl
  rw[hact]at he⊢
  show _∧_∧_∧Q8Z (m 0) (Q1O (m 0) p).1+1≤Q8Z (m 0) p
  clear hact hpt hI
  cases p<;>simp[wfK,Q3r]at hw<;>simp[wfK,Q2B,Q4z,Fr.zero]at hop
  case r0=>by_cases hq:Q1B (m 0)=true<;>simp[Q1O,Q9c,Q9d,Q8Z,hq]
  case r3 a=>by_cases hq:Q1B (m 0)=true<;>simp[Q1O,Q9c,Q9d,Q8Z,hq]
  case v0=>simp[Q1O,Q9c,Q9d,Q8Z]
  case d0=>simp[Q1O,Q9c,Q9d,Q8Z]
  case q0 a=>by_cases hq:Q1B (m 0)=true<;>simp[Q1O,Q9c,Q9d,Q8Z,hq]
  case y0 a=>simp only[Q1O];split<;>simp[Q9c,Q9d,Q8Z]
  case z0 a=>simp only[Q1O];split<;>simp[Q9c,Q9d,Q8Z]
  case r1 a=>by_cases hq:m 0=a<;>simp[Q1O,hq]at he<;>simp[Q1O,Q9c,Q9d,Q8Z,hq]
  case q1 a=>by_cases hq:m 0=a<;>simp[Q1O,hq]at he<;>simp[Q1O,Q9c,Q9d,Q8Z,hq]
  case y1 a=>by_cases hq:m 0=a<;>simp[Q1O,hq]at he<;>simp[Q1O,Q9c,Q9d,Q8Z,hq]
  case z1 a=>by_cases hq:m 0=a<;>simp[Q1O,hq]at he<;>simp[Q1O,Q9c,Q9d,Q8Z,hq]
  all_goals(simp[Q1O]at he)
 ·rcases hh with rfl|rfl<;>simp[wfK,Q8g,Q9c,Q9d,Q8Z]
 ·cases p<;>simp[wfK,Q3r]at hw<;>simp[Q8Z]at hz
  case idle h=>
   rcases Decidable.em (h=0)with h0|h0
   ·subst h0;rfl
   ·have hz:=hz h0
    split at hz<;>simp at hz
  all_goals(split at hz<;>simp at hz)
 ·obtain⟨h1,h2,R,U,G,T,H⟩:=H
  obtain⟨f1,f2,f3,f4⟩:=H.few h1 h2
  have hd0:ws Q5m ps=0:=by
   refine Q5H (d:=wfK.idle 0) hl (fun i hi=> ?_)
   rcases hall i hi with h|⟨c,pr,hw,_⟩
   ·rw[h];rfl
   ·generalize ps.getD i (wfK.idle 0)=p at hw⊢
    cases p<;>simp[wfK,Q3r]at hw<;>rfl
  have hnr:=H.nr
  have hr:=H.r
  have ht:=H.t
  intro i hi
  rcases hall i hi with h|⟨c,pr,hw,hpr⟩
  ·exact h
  ·exfalso
   have hgu:U<G:=by
    have hug:=H.ug
    have hrg:=H.rng i hi
    generalize ps.getD i (wfK.idle 0)=p at hw hrg
    cases p<;>simp[wfK,Q3r]at hw
    ·obtain⟨rfl,rfl⟩:=hw
     rw[f4]at hpr
     have:G≠U:=by simpa using hpr
     omega
    ·have:=hrg rfl
     omega
   obtain⟨j,hj,g2,g3⟩:=H.sur U (Int.le_refl _) hgu
   have haj:=H.at_ j hj
   rcases hall j hj with h|⟨c,pr,hw,hpr⟩
   ·rw[h,show Q4J (wfK.idle 0)=0 from rfl]at g2;exact absurd g2 (by decide)
   ·generalize ps.getD j (wfK.idle 0)=p at hw haj g2
    cases p<;>simp[wfK,Q3r]at hw<;>simp only[X0M]at haj
    ·simp[Q4J]at g2
    ·obtain⟨rfl,rfl⟩:=hw
     simp at hpr
     exact hpr (by rw[ht,haj,g3]) (by omega)
theorem X3k(n:Nat)(mode:Int):wfK.All n mode (wfI n) 2 2 9 Q9c Q9d (fun m _ p=>Q8Z (m 0) p):=by
 refine⟨Y2S n mode,Y2Q n,Y2P n,fun b ps m i h H hi hl hp=> ?_,fun b ps m i j H hl hi hj hji hp=> ?_,fun t h=>rfl⟩
 ·obtain⟨h1,h2,R,U,G,T,H⟩:=H
  have:=H.at_ i hi
  rw[hp]at this
  have this:h=0∨h=1∨(h=2∧T i=U∧R=0):=this
  omega
 ·obtain⟨h1,h2,R,U,G,T,H⟩:=H
  have hai:=H.at_ i hi
  have haj:=H.at_ j hj
  have hin:=H.inj i j hi hj (fun h=>hji h.symm)
  have d1:=Q0m (d:=wfK.idle 0) X2e (l:=ps) (i:=j) (by omega)
  rw[←H.nr]at d1
  rw[hp]at hai hin
  have hai:(2:Int)=0∨(2:Int)=1∨((2:Int)=2∧T i=U∧R=0):=hai
  have e2:Q4J (wfK.idle 2)=1:=rfl
  have hin:=hin e2
  generalize ps.getD j (wfK.idle 0)=p at haj hin d1
  cases p<;>simp only[X0M,Q4J,Q5m]at haj hin d1<;>first|rfl|skip
  case idle h=>
   show h=0
   rcases haj with rfl|rfl|⟨rfl,h3,h4⟩
   ·rfl
   ·simp at d1;omega
   ·simp at hin;omega
  all_goals first|omega|(have:=hin trivial;omega)
def tw(d v:Int):Int:=v%256+256*((v/256+d)%256)+65536*((v/65536+d)%65536)
def twT(d:Int):Nat→Int→Int:=fun j v=>if j=0 then tw d v else v
theorem twT_far(d:Int):Far (twT d):=fun j v hj=>by unfold twT;rw[if_neg (by omega)]
section
variable {d:Int}
theorem tw_rng(hd:0≤d∧d<65536){v:Int}(h:0≤v∧v<4294967296):0≤tw d v∧tw d v<4294967296:=by unfold tw;omega
theorem tw_R{v:Int}:wfR (tw d v)=wfR v:=by unfold tw wfR;omega
theorem tw_T{v:Int}:wfT (tw d v)=(wfT v+d)%256:=by unfold tw wfT;omega
theorem tw_G{v:Int}(h:0≤v∧v<4294967296):wfG (tw d v)=(wfG v+d)%256:=by unfold tw wfG;omega
theorem tw_calm{v:Int}(h:0≤v∧v<4294967296):Q1B (tw d v)=Q1B v:=by
 unfold Q1B
 rw[tw_T,tw_G h,Bool.eq_iff_iff,beq_iff_eq,beq_iff_eq]
 have h1:0≤wfT v∧wfT v<256:=by unfold wfT;omega
 have h2:0≤wfG v∧wfG v<256:=by unfold wfG;omega
 omega
theorem tw_inj{v x:Int}(hv:0≤v∧v<4294967296)(hx:0≤x∧x<4294967296):tw d v=tw d x↔v=x:=by
 constructor
 ·intro h
  have h1:tw d v%256=tw d x%256:=by rw[h]
  have h2:tw d v/65536=tw d x/65536:=by rw[h]
  have h3:tw d v/256%256=tw d x/256%256:=by rw[h]
  unfold tw at h1 h2 h3
  omega
 ·intro h;rw[h]
theorem tw_add1{v:Int}(h:0≤v∧v<4294967296)(hr:wfR v<255):(tw d v+1)%4294967296=tw d ((v+1)%4294967296):=by unfold wfR at hr;unfold tw;omega
theorem tw_sub1{v:Int}(h:0≤v∧v<4294967296)(hr:1≤wfR v):(tw d v+4294967295)%4294967296=tw d ((v+4294967295)%4294967296):=by unfold wfR at hr;unfold tw;omega
theorem tw_ticket{v:Int}(h:0≤v∧v<4294967296):(tw d v+65536)%4294967296=tw d ((v+65536)%4294967296):=by unfold tw;omega
theorem tw_up{v:Int}(h:0≤v∧v<4294967296)(hr:1≤wfR v):(tw d v+65535)%4294967296=tw d ((v+65535)%4294967296):=by unfold wfR at hr;unfold tw;omega
theorem bump8_is{v:Int}(h:0≤v∧v<4294967296):(v+Q3w v)%4294967296=v-v/256%256*256+(v/256%256+1)%256*256:=by unfold Q3w;omega
theorem tw_next(hd:0≤d∧d<65536){v:Int}(h:0≤v∧v<4294967296):(tw d v+Q3w (tw d v))%4294967296=tw d ((v+Q3w v)%4294967296):=by
 rw[bump8_is (tw_rng hd h),bump8_is h]
 unfold tw
 omega
structure DW(d:Int)(R1 R2:Acc×Bool×List Int):Prop where
 kind:R2.1.kind=R1.1.kind
 cell:R2.1.cell=R1.1.cell
 L:R2.2.2=shL (twT d) R1.2.2
 old:R2.1.old=tw d R1.1.old
 rng:0≤R1.1.old∧R1.1.old<4294967296
variable {s1 s2:Rn}
theorem dw_of(H:Rl (twT d) s1 s2)(ok:OkU s1){k x1 y1 x2 y2:Int}(hk:k=1∨k=2∨k=3∨k=4∨k=5)
 (h:(k=3→(tw d (s1.L.getD 0 0)+x2)%4294967296=tw d ((s1.L.getD 0 0+x1)%4294967296))∧(k≠2∧k≠4)∧(k=5→(tw d (s1.L.getD 0 0)=x2↔s1.L.getD 0 0=x1)∧(s1.L.getD 0 0=x1→y2=tw d y1))):DW d (doA s1.L ⟨k,0,x1,y1,0⟩) (doA s2.L ⟨k,0,x2,y2,0⟩):=by
 have h8:=ok.2.2.2
 have hg:=okU_get ok (j:=0) (by decide)
 obtain⟨o1,_⟩:=old_is (L:=s1.L) (x:=x1) (y:=y1) (j:=0) (show 0<s1.L.length by omega) hk
 have o1:(doA s1.L ⟨k,0,x1,y1,0⟩).1.old=s1.L.getD 0 0:=o1
 by_cases h5:k=5∧ ¬s1.L.getD 0 0=x1
 ·obtain⟨rfl,hne⟩:=h5
  have hne2: ¬tw d (s1.L.getD 0 0)=x2:=fun e=>hne ((h.2.2 rfl).1.1 e)
  have e2:(shL (twT d) s1.L).getD 0 0=tw d (s1.L.getD 0 0):=shL_get (by omega)
  have d1:doA s1.L ⟨5,0,x1,y1,0⟩=(⟨5,0,x1,y1,s1.L.getD 0 0⟩,true,s1.L):=by
   unfold doA
   rw[if_pos ⟨by show(0:Int)≤0;omega,by show(0:Int)<s1.L.length;omega⟩]
   simp only[Int.toNat_zero]
   rw[if_neg (by decide),if_neg (by decide),if_pos trivial,if_neg hne]
  have d2:doA s2.L ⟨5,0,x2,y2,0⟩=(⟨5,0,x2,y2,tw d (s1.L.getD 0 0)⟩,true,shL (twT d) s1.L):=by
   rw[H.L]
   unfold doA
   rw[if_pos ⟨by show(0:Int)≤0;omega,by rw[shL_len];show(0:Int)<s1.L.length;omega⟩]
   simp only[Int.toNat_zero,e2]
   rw[if_neg (by decide),if_neg (by decide),if_pos trivial,if_neg hne2]
  rw[d1,d2]
  exact⟨rfl,rfl,rfl,rfl,hg⟩
 ·obtain⟨l1,l2,l3,l4,l5,l6⟩:=doA_sh (τ:=twT d) (L:=s1.L) (k:=k) (cc:=0) (x1:=x1) (x2:=x2) (y1:=y1) (y2:=y2) (fun i hi hl=>by
   obtain rfl:i=0:=by omega
   exact⟨h.1,fun e=>by omega,fun e=>⟨(h.2.2 e).1,(h.2.2 e).2 (Decidable.byContradiction fun hc=>h5 ⟨e,hc⟩)⟩⟩)
  rw[H.L]
  exact⟨l1,l2,l4,by rw[l5 0 rfl (by omega) hk,o1];rfl,by rw[o1];exact hg⟩
def wfRA(d:Int)(op line a1 a2:Int):Prop:=line=0∨op=0∨op=2∨a2=tw d a1
def wfRB(d:Int)(op line a1 a2:Int):Prop:=0=0
def OkW(s:Rn):Prop:=OkU s∧wfR (s.L.getD 0 0)≤64∧(s.f.op=2∧s.f.line=0→1≤wfR (s.L.getD 0 0))∧((s.f.op=4∨s.f.op=8)∧s.f.line=1→wfT s.f.a=wfT (s.L.getD 0 0))∧(s.f.op=7∧s.f.line=1→wfR s.f.a=1)
theorem wf13_s(hd:0≤d∧d<65536){s1 s2:Rn}(H:RnSh (twT d) (wfRA d) (wfRB d) s1 s2)(ok:OkW s1)(h:s1.f.op=1∧s1.f.line=3):RnSh (twT d) (wfRA d) (wfRB d) (Y4I s1) (Y4I s2):=by
 have HL:=H.1
 obtain⟨ou,hr64,h2,h4,h7⟩:=ok
 have hx:=okU_get ou (j:=0) (by decide)
 have ra:=ou.1
 have D:DW d (doA s1.L ⟨1,0,0,0,0⟩) (doA s2.L ⟨1,0,0,0,0⟩):=dw_of H.1 ou (by simp) ⟨fun e=>by omega,by decide,fun e=>by omega⟩
 have hO:=D.old
 have hR:=D.rng
 dsimp only[Y4I,Q0I]
 have ec:Q1B (doA s2.L ⟨1,0,0,0,0⟩).1.old=Q1B (doA s1.L ⟨1,0,0,0,0⟩).1.old:=by rw[hO,tw_calm hR]
 rw[ec]
 refine rn_ite (fun h1=> ?_) (fun h1=> ?_)
 all_goals exact⟨by(repeat' first|with_reducible exact HL|with_reducible refine rl_goto ?_ _|with_reducible refine rl_fin ?_ _|with_reducible refine rl_note ?_ _ _|with_reducible refine rl_noted _ ?_|with_reducible refine rl_setA ?_ _ _|with_reducible refine rl_setB ?_ _ _|with_reducible refine rl_wake ?_ _|with_reducible refine rl_did ?_ D.kind D.cell D.L),by(unfold wfRA;(try simp only[Rn.goto,Rn.fin,Rn.note,Rn.Q0d,Rn.Q0h,Rn.setB,Rn.wake,Rn.did,Rn.waited,List.foldl_cons,List.foldl_nil]);omega),rfl⟩
theorem wf10_s(hd:0≤d∧d<65536){s1 s2:Rn}(H:RnSh (twT d) (wfRA d) (wfRB d) s1 s2)(ok:OkW s1)(h:s1.f.op=1∧s1.f.line=0):RnSh (twT d) (wfRA d) (wfRB d) (Y4K s1) (Y4K s2):=by
 have HL:=H.1
 obtain⟨ou,hr64,h2,h4,h7⟩:=ok
 have hx:=okU_get ou (j:=0) (by decide)
 have ra:=ou.1
 have D:DW d (doA s1.L ⟨1,0,0,0,0⟩) (doA s2.L ⟨1,0,0,0,0⟩):=dw_of H.1 ou (by simp) ⟨fun e=>by omega,by decide,fun e=>by omega⟩
 have hO:=D.old
 have hR:=D.rng
 dsimp only[Y4K,Q0I]
 have ec:Q1B (doA s2.L ⟨1,0,0,0,0⟩).1.old=Q1B (doA s1.L ⟨1,0,0,0,0⟩).1.old:=by rw[hO,tw_calm hR]
 rw[ec]
 generalize Q1B (doA s1.L ⟨1,0,0,0,0⟩).1.old=b
 cases b<;>simp only[if_true,Bool.false_eq_true,if_false]
 all_goals exact⟨by(repeat' first|with_reducible exact HL|with_reducible refine rl_goto ?_ _|with_reducible refine rl_fin ?_ _|with_reducible refine rl_note ?_ _ _|with_reducible refine rl_noted _ ?_|with_reducible refine rl_setA ?_ _ _|with_reducible refine rl_setB ?_ _ _|with_reducible refine rl_wake ?_ _|with_reducible refine rl_did ?_ D.kind D.cell D.L),by(unfold wfRA;(try simp only[Rn.goto,Rn.fin,Rn.note,Rn.Q0d,Rn.Q0h,Rn.setB,Rn.wake,Rn.did,Rn.waited,List.foldl_cons,List.foldl_nil]);omega),rfl⟩
theorem wf11_s(hd:0≤d∧d<65536){s1 s2:Rn}(H:RnSh (twT d) (wfRA d) (wfRB d) s1 s2)(ok:OkW s1)(h:s1.f.op=1∧s1.f.line=1):RnSh (twT d) (wfRA d) (wfRB d) (Y4J s1) (Y4J s2):=by
 have HL:=H.1
 obtain⟨ou,hr64,h2,h4,h7⟩:=ok
 have hx:=okU_get ou (j:=0) (by decide)
 have ra:=ou.1
 have ea:s2.f.a=tw d s1.f.a:=by
  have e:=H.2.1
  unfold wfRA at e
  omega
 have D:DW d (doA s1.L ⟨5,0,s1.f.a,((s1.f.a+1)%4294967296),0⟩) (doA s2.L ⟨5,0,s2.f.a,((s2.f.a+1)%4294967296),0⟩):=dw_of H.1 ou (by simp) ⟨fun e=>by omega,by decide,fun _=>⟨by rw[ea];exact tw_inj hx ra,fun e=>by rw[ea];exact tw_add1 ra (by rw[←e];omega)⟩⟩
 have hO:=D.old
 have hR:=D.rng
 have ec:Q7N s2.L 0 s2.f.a ((s2.f.a+1)%4294967296)=Q7N s1.L 0 s1.f.a ((s1.f.a+1)%4294967296):=by
  unfold Q7N
  rw[D.kind,D.old,ea]
  congr 1
  rw[Bool.eq_iff_iff,beq_iff_eq,beq_iff_eq]
  exact tw_inj hR ra
 cases hb:Q7N s1.L 0 s1.f.a ((s1.f.a+1)%4294967296)<;>rw[hb]at ec<;>simp only[Y4J,hb,ec,Rn.Q1Q,if_true,Bool.false_eq_true,if_false]
 all_goals exact⟨by(repeat' first|with_reducible exact HL|with_reducible refine rl_goto ?_ _|with_reducible refine rl_fin ?_ _|with_reducible refine rl_note ?_ _ _|with_reducible refine rl_noted _ ?_|with_reducible refine rl_setA ?_ _ _|with_reducible refine rl_setB ?_ _ _|with_reducible refine rl_wake ?_ _|with_reducible refine rl_did ?_ D.kind D.cell D.L),by(unfold wfRA;(try simp only[Rn.goto,Rn.fin,Rn.note,Rn.Q0d,Rn.Q0h,Rn.setB,Rn.wake,Rn.did,Rn.waited,List.foldl_cons,List.foldl_nil]);omega),rfl⟩
theorem wf51_s(hd:0≤d∧d<65536){s1 s2:Rn}(H:RnSh (twT d) (wfRA d) (wfRB d) s1 s2)(ok:OkW s1)(h:s1.f.op=5∧s1.f.line=1):RnSh (twT d) (wfRA d) (wfRB d) (Y4C s1) (Y4C s2):=by
 have HL:=H.1
 obtain⟨ou,hr64,h2,h4,h7⟩:=ok
 have hx:=okU_get ou (j:=0) (by decide)
 have ra:=ou.1
 have ea:s2.f.a=tw d s1.f.a:=by
  have e:=H.2.1
  unfold wfRA at e
  omega
 have D:DW d (doA s1.L ⟨5,0,s1.f.a,((s1.f.a+1)%4294967296),0⟩) (doA s2.L ⟨5,0,s2.f.a,((s2.f.a+1)%4294967296),0⟩):=dw_of H.1 ou (by simp) ⟨fun e=>by omega,by decide,fun _=>⟨by rw[ea];exact tw_inj hx ra,fun e=>by rw[ea];exact tw_add1 ra (by rw[←e];omega)⟩⟩
 have hO:=D.old
 have hR:=D.rng
 have ec:Q7N s2.L 0 s2.f.a ((s2.f.a+1)%4294967296)=Q7N s1.L 0 s1.f.a ((s1.f.a+1)%4294967296):=by
  unfold Q7N
  rw[D.kind,D.old,ea]
  congr 1
  rw[Bool.eq_iff_iff,beq_iff_eq,beq_iff_eq]
  exact tw_inj hR ra
 cases hb:Q7N s1.L 0 s1.f.a ((s1.f.a+1)%4294967296)<;>rw[hb]at ec<;>simp only[Y4C,Rn.Q3K,show¬((1:Int)=0)by decide,hb,ec,Rn.Q1Q,if_true,Bool.false_eq_true,if_false]
 all_goals exact⟨by(repeat' first|with_reducible exact HL|with_reducible refine rl_goto ?_ _|with_reducible refine rl_fin ?_ _|with_reducible refine rl_note ?_ _ _|with_reducible refine rl_noted _ ?_|with_reducible refine rl_setA ?_ _ _|with_reducible refine rl_setB ?_ _ _|with_reducible refine rl_wake ?_ _|with_reducible refine rl_did ?_ D.kind D.cell D.L),by(unfold wfRA;(try simp only[Rn.goto,Rn.fin,Rn.note,Rn.Q0d,Rn.Q0h,Rn.setB,Rn.wake,Rn.did,Rn.waited,List.foldl_cons,List.foldl_nil]);omega),rfl⟩
theorem wf61_s(hd:0≤d∧d<65536){s1 s2:Rn}(H:RnSh (twT d) (wfRA d) (wfRB d) s1 s2)(ok:OkW s1)(h:s1.f.op=6∧s1.f.line=1):RnSh (twT d) (wfRA d) (wfRB d) (Y4A s1) (Y4A s2):=by
 have HL:=H.1
 obtain⟨ou,hr64,h2,h4,h7⟩:=ok
 have hx:=okU_get ou (j:=0) (by decide)
 have ra:=ou.1
 have ea:s2.f.a=tw d s1.f.a:=by
  have e:=H.2.1
  unfold wfRA at e
  omega
 have D:DW d (doA s1.L ⟨5,0,s1.f.a,((s1.f.a+65536)%4294967296),0⟩) (doA s2.L ⟨5,0,s2.f.a,((s2.f.a+65536)%4294967296),0⟩):=dw_of H.1 ou (by simp) ⟨fun e=>by omega,by decide,fun _=>⟨by rw[ea];exact tw_inj hx ra,fun e=>by rw[ea];exact tw_ticket ra⟩⟩
 have hO:=D.old
 have hR:=D.rng
 have ec:Q7N s2.L 0 s2.f.a ((s2.f.a+65536)%4294967296)=Q7N s1.L 0 s1.f.a ((s1.f.a+65536)%4294967296):=by
  unfold Q7N
  rw[D.kind,D.old,ea]
  congr 1
  rw[Bool.eq_iff_iff,beq_iff_eq,beq_iff_eq]
  exact tw_inj hR ra
 cases hb:Q7N s1.L 0 s1.f.a ((s1.f.a+65536)%4294967296)<;>rw[hb]at ec<;>simp only[Y4A,Rn.Q3K,show¬((2:Int)=0)by decide,hb,ec,Rn.Q1Q,if_true,Bool.false_eq_true,if_false]
 all_goals exact⟨by(repeat' first|with_reducible exact HL|with_reducible refine rl_goto ?_ _|with_reducible refine rl_fin ?_ _|with_reducible refine rl_note ?_ _ _|with_reducible refine rl_noted _ ?_|with_reducible refine rl_setA ?_ _ _|with_reducible refine rl_setB ?_ _ _|with_reducible refine rl_wake ?_ _|with_reducible refine rl_did ?_ D.kind D.cell D.L),by(unfold wfRA;(try simp only[Rn.goto,Rn.fin,Rn.note,Rn.Q0d,Rn.Q0h,Rn.setB,Rn.wake,Rn.did,Rn.waited,List.foldl_cons,List.foldl_nil]);omega),rfl⟩
theorem wf71_s(hd:0≤d∧d<65536){s1 s2:Rn}(H:RnSh (twT d) (wfRA d) (wfRB d) s1 s2)(ok:OkW s1)(h:s1.f.op=7∧s1.f.line=1):RnSh (twT d) (wfRA d) (wfRB d) (Y4y s1) (Y4y s2):=by
 have HL:=H.1
 obtain⟨ou,hr64,h2,h4,h7⟩:=ok
 have hx:=okU_get ou (j:=0) (by decide)
 have ra:=ou.1
 have ea:s2.f.a=tw d s1.f.a:=by
  have e:=H.2.1
  unfold wfRA at e
  omega
 have D:DW d (doA s1.L ⟨5,0,s1.f.a,((s1.f.a+65535)%4294967296),0⟩) (doA s2.L ⟨5,0,s2.f.a,((s2.f.a+65535)%4294967296),0⟩):=dw_of H.1 ou (by simp) ⟨fun e=>by omega,by decide,fun _=>⟨by rw[ea];exact tw_inj hx ra,fun e=>by rw[ea];exact tw_up ra (by have:=h7 h;omega)⟩⟩
 have hO:=D.old
 have hR:=D.rng
 have ec:Q7N s2.L 0 s2.f.a ((s2.f.a+65535)%4294967296)=Q7N s1.L 0 s1.f.a ((s1.f.a+65535)%4294967296):=by
  unfold Q7N
  rw[D.kind,D.old,ea]
  congr 1
  rw[Bool.eq_iff_iff,beq_iff_eq,beq_iff_eq]
  exact tw_inj hR ra
 cases hb:Q7N s1.L 0 s1.f.a ((s1.f.a+65535)%4294967296)<;>rw[hb]at ec<;>simp only[Y4y,Rn.Q3K,hb,ec,Rn.Q1Q,if_true,Bool.false_eq_true,if_false]
 all_goals exact⟨by(repeat' first|with_reducible exact HL|with_reducible refine rl_goto ?_ _|with_reducible refine rl_fin ?_ _|with_reducible refine rl_note ?_ _ _|with_reducible refine rl_noted _ ?_|with_reducible refine rl_setA ?_ _ _|with_reducible refine rl_setB ?_ _ _|with_reducible refine rl_wake ?_ _|with_reducible refine rl_did ?_ D.kind D.cell D.L),by(unfold wfRA;(try simp only[Rn.goto,Rn.fin,Rn.note,Rn.Q0d,Rn.Q0h,Rn.setB,Rn.wake,Rn.did,Rn.waited,List.foldl_cons,List.foldl_nil]);omega),rfl⟩
theorem wf20_s(hd:0≤d∧d<65536){s1 s2:Rn}(H:RnSh (twT d) (wfRA d) (wfRB d) s1 s2)(ok:OkW s1)(h:s1.f.op=2∧s1.f.line=0):RnSh (twT d) (wfRA d) (wfRB d) (Y4H s1) (Y4H s2):=by
 have HL:=H.1
 obtain⟨ou,hr64,h2,h4,h7⟩:=ok
 have hx:=okU_get ou (j:=0) (by decide)
 have ra:=ou.1
 have D:DW d (doA s1.L ⟨3,0,4294967295,0,0⟩) (doA s2.L ⟨3,0,4294967295,0,0⟩):=dw_of H.1 ou (by simp) ⟨fun _=>tw_sub1 hx (h2 h),by decide,fun e=>by omega⟩
 have hO:=D.old
 have hR:=D.rng
 simp only[Y4H,Rn.Q1Q,if_true]
 exact⟨by(repeat' first|with_reducible exact HL|with_reducible refine rl_goto ?_ _|with_reducible refine rl_fin ?_ _|with_reducible refine rl_note ?_ _ _|with_reducible refine rl_noted _ ?_|with_reducible refine rl_setA ?_ _ _|with_reducible refine rl_setB ?_ _ _|with_reducible refine rl_wake ?_ _|with_reducible refine rl_did ?_ D.kind D.cell D.L),by(unfold wfRA;(try simp only[Rn.goto,Rn.fin,Rn.note,Rn.Q0d,Rn.Q0h,Rn.setB,Rn.wake,Rn.did,Rn.waited,List.foldl_cons,List.foldl_nil]);omega),rfl⟩
theorem wf30_s(hd:0≤d∧d<65536){s1 s2:Rn}(H:RnSh (twT d) (wfRA d) (wfRB d) s1 s2)(ok:OkW s1)(h:s1.f.op=3∧s1.f.line=0):RnSh (twT d) (wfRA d) (wfRB d) (Y4G s1) (Y4G s2):=by
 have HL:=H.1
 obtain⟨ou,hr64,h2,h4,h7⟩:=ok
 have hx:=okU_get ou (j:=0) (by decide)
 have ra:=ou.1
 have D:DW d (doA s1.L ⟨3,0,65536,0,0⟩) (doA s2.L ⟨3,0,65536,0,0⟩):=dw_of H.1 ou (by simp) ⟨fun _=>tw_ticket hx,by decide,fun e=>by omega⟩
 have hO:=D.old
 have hR:=D.rng
 dsimp only[Y4G]
 exact⟨by(repeat' first|with_reducible exact HL|with_reducible refine rl_goto ?_ _|with_reducible refine rl_fin ?_ _|with_reducible refine rl_note ?_ _ _|with_reducible refine rl_noted _ ?_|with_reducible refine rl_setA ?_ _ _|with_reducible refine rl_setB ?_ _ _|with_reducible refine rl_wake ?_ _|with_reducible refine rl_did ?_ D.kind D.cell D.L),by(unfold wfRA;(try simp only[Rn.goto,Rn.fin,Rn.note,Rn.Q0d,Rn.Q0h,Rn.setB,Rn.wake,Rn.did,Rn.waited,List.foldl_cons,List.foldl_nil]);omega),rfl⟩
theorem wf40_s(hd:0≤d∧d<65536){s1 s2:Rn}(H:RnSh (twT d) (wfRA d) (wfRB d) s1 s2)(ok:OkW s1)(h:s1.f.op=4∧s1.f.line=0):RnSh (twT d) (wfRA d) (wfRB d) (Y4F s1) (Y4F s2):=by
 have HL:=H.1
 obtain⟨ou,hr64,h2,h4,h7⟩:=ok
 have hx:=okU_get ou (j:=0) (by decide)
 have ra:=ou.1
 have D:DW d (doA s1.L ⟨1,0,0,0,0⟩) (doA s2.L ⟨1,0,0,0,0⟩):=dw_of H.1 ou (by simp) ⟨fun e=>by omega,by decide,fun e=>by omega⟩
 have hO:=D.old
 have hR:=D.rng
 dsimp only[Y4F]
 exact⟨by(repeat' first|with_reducible exact HL|with_reducible refine rl_goto ?_ _|with_reducible refine rl_fin ?_ _|with_reducible refine rl_note ?_ _ _|with_reducible refine rl_noted _ ?_|with_reducible refine rl_setA ?_ _ _|with_reducible refine rl_setB ?_ _ _|with_reducible refine rl_wake ?_ _|with_reducible refine rl_did ?_ D.kind D.cell D.L),by(unfold wfRA;(try simp only[Rn.goto,Rn.fin,Rn.note,Rn.Q0d,Rn.Q0h,Rn.setB,Rn.wake,Rn.did,Rn.waited,List.foldl_cons,List.foldl_nil]);omega),rfl⟩
theorem wf80_s(hd:0≤d∧d<65536){s1 s2:Rn}(H:RnSh (twT d) (wfRA d) (wfRB d) s1 s2)(ok:OkW s1)(h:s1.f.op=8∧s1.f.line=0):RnSh (twT d) (wfRA d) (wfRB d) (Y4x s1) (Y4x s2):=by
 have HL:=H.1
 obtain⟨ou,hr64,h2,h4,h7⟩:=ok
 have hx:=okU_get ou (j:=0) (by decide)
 have ra:=ou.1
 have D:DW d (doA s1.L ⟨1,0,0,0,0⟩) (doA s2.L ⟨1,0,0,0,0⟩):=dw_of H.1 ou (by simp) ⟨fun e=>by omega,by decide,fun e=>by omega⟩
 have hO:=D.old
 have hR:=D.rng
 dsimp only[Y4x]
 exact⟨by(repeat' first|with_reducible exact HL|with_reducible refine rl_goto ?_ _|with_reducible refine rl_fin ?_ _|with_reducible refine rl_note ?_ _ _|with_reducible refine rl_noted _ ?_|with_reducible refine rl_setA ?_ _ _|with_reducible refine rl_setB ?_ _ _|with_reducible refine rl_wake ?_ _|with_reducible refine rl_did ?_ D.kind D.cell D.L),by(unfold wfRA;(try simp only[Rn.goto,Rn.fin,Rn.note,Rn.Q0d,Rn.Q0h,Rn.setB,Rn.wake,Rn.did,Rn.waited,List.foldl_cons,List.foldl_nil]);omega),rfl⟩
theorem wf41_s(hd:0≤d∧d<65536){s1 s2:Rn}(H:RnSh (twT d) (wfRA d) (wfRB d) s1 s2)(ok:OkW s1)(h:s1.f.op=4∧s1.f.line=1):RnSh (twT d) (wfRA d) (wfRB d) (Y4E s1) (Y4E s2):=by
 have HL:=H.1
 obtain⟨ou,hr64,h2,h4,h7⟩:=ok
 have hx:=okU_get ou (j:=0) (by decide)
 have ra:=ou.1
 have ea:s2.f.a=tw d s1.f.a:=by
  have e:=H.2.1
  unfold wfRA at e
  omega
 have hT:=h4 (by omega)
 have b1:Q3w s1.f.a=Q3w (s1.L.getD 0 0):=X0c hT
 have b2:Q3w s2.f.a=Q3w (tw d (s1.L.getD 0 0)):=by rw[ea];exact X0c (by rw[tw_T,tw_T,hT])
 have D:DW d (doA s1.L ⟨3,0,(Q3w s1.f.a),0,0⟩) (doA s2.L ⟨3,0,(Q3w s2.f.a),0,0⟩):=dw_of H.1 ou (by simp) ⟨fun _=>by rw[b1,b2];exact tw_next hd hx,by decide,fun e=>by omega⟩
 have hO:=D.old
 have hR:=D.rng
 simp only[Y4E,Rn.Q1Q,if_true]
 exact⟨by(repeat' first|with_reducible exact HL|with_reducible refine rl_goto ?_ _|with_reducible refine rl_fin ?_ _|with_reducible refine rl_note ?_ _ _|with_reducible refine rl_noted _ ?_|with_reducible refine rl_setA ?_ _ _|with_reducible refine rl_setB ?_ _ _|with_reducible refine rl_wake ?_ _|with_reducible refine rl_did ?_ D.kind D.cell D.L),by(unfold wfRA;(try simp only[Rn.goto,Rn.fin,Rn.note,Rn.Q0d,Rn.Q0h,Rn.setB,Rn.wake,Rn.did,Rn.waited,List.foldl_cons,List.foldl_nil]);omega),rfl⟩
theorem wf81_s(hd:0≤d∧d<65536){s1 s2:Rn}(H:RnSh (twT d) (wfRA d) (wfRB d) s1 s2)(ok:OkW s1)(h:s1.f.op=8∧s1.f.line=1):RnSh (twT d) (wfRA d) (wfRB d) (Y4w s1) (Y4w s2):=by
 have HL:=H.1
 obtain⟨ou,hr64,h2,h4,h7⟩:=ok
 have hx:=okU_get ou (j:=0) (by decide)
 have ra:=ou.1
 have ea:s2.f.a=tw d s1.f.a:=by
  have e:=H.2.1
  unfold wfRA at e
  omega
 have hT:=h4 (by omega)
 have b1:Q3w s1.f.a=Q3w (s1.L.getD 0 0):=X0c hT
 have b2:Q3w s2.f.a=Q3w (tw d (s1.L.getD 0 0)):=by rw[ea];exact X0c (by rw[tw_T,tw_T,hT])
 have hn:=X3j hx
 have ha:=tw_add1 (d:=d) hn.1 (by rw[hn.2.1];omega)
 have D:DW d (doA s1.L ⟨3,0,((Q3w s1.f.a+1)%4294967296),0,0⟩) (doA s2.L ⟨3,0,((Q3w s2.f.a+1)%4294967296),0,0⟩):=dw_of H.1 ou (by simp) ⟨fun _=>by
  rw[b1,b2]
  have e1:=tw_next hd hx
  have e2:(s1.L.getD 0 0+(Q3w (s1.L.getD 0 0)+1)%4294967296)%4294967296=((s1.L.getD 0 0+Q3w (s1.L.getD 0 0))%4294967296+1)%4294967296:=by omega
  rw[e2,←ha,←e1]
  omega,by decide,fun e=>by omega⟩
 have hO:=D.old
 have hR:=D.rng
 simp only[Y4w,Rn.Q1Q,if_true]
 exact⟨by(repeat' first|with_reducible exact HL|with_reducible refine rl_goto ?_ _|with_reducible refine rl_fin ?_ _|with_reducible refine rl_note ?_ _ _|with_reducible refine rl_noted _ ?_|with_reducible refine rl_setA ?_ _ _|with_reducible refine rl_setB ?_ _ _|with_reducible refine rl_wake ?_ _|with_reducible refine rl_did ?_ D.kind D.cell D.L),by(unfold wfRA;(try simp only[Rn.goto,Rn.fin,Rn.note,Rn.Q0d,Rn.Q0h,Rn.setB,Rn.wake,Rn.did,Rn.waited,List.foldl_cons,List.foldl_nil]);omega),rfl⟩
theorem wf50_s(hd:0≤d∧d<65536){s1 s2:Rn}(H:RnSh (twT d) (wfRA d) (wfRB d) s1 s2)(ok:OkW s1)(h:s1.f.op=5∧s1.f.line=0):RnSh (twT d) (wfRA d) (wfRB d) (Y4D s1) (Y4D s2):=by
 have HL:=H.1
 obtain⟨ou,hr64,h2,h4,h7⟩:=ok
 have hx:=okU_get ou (j:=0) (by decide)
 have ra:=ou.1
 have D:DW d (doA s1.L ⟨1,0,0,0,0⟩) (doA s2.L ⟨1,0,0,0,0⟩):=dw_of H.1 ou (by simp) ⟨fun e=>by omega,by decide,fun e=>by omega⟩
 have hO:=D.old
 have hR:=D.rng
 simp only[Y4D,Rn.Q4A]
 have ec:Q1B (doA s2.L ⟨1,0,0,0,0⟩).1.old=Q1B (doA s1.L ⟨1,0,0,0,0⟩).1.old:=by rw[hO,tw_calm hR]
 have er:wfR (doA s2.L ⟨1,0,0,0,0⟩).1.old=wfR (doA s1.L ⟨1,0,0,0,0⟩).1.old:=by rw[hO,tw_R]
 simp only[ec]
 refine rn_ite (fun h1=> ?_) (fun h1=> ?_)
 all_goals exact⟨by(repeat' first|with_reducible exact HL|with_reducible refine rl_goto ?_ _|with_reducible refine rl_fin ?_ _|with_reducible refine rl_note ?_ _ _|with_reducible refine rl_noted _ ?_|with_reducible refine rl_setA ?_ _ _|with_reducible refine rl_setB ?_ _ _|with_reducible refine rl_wake ?_ _|with_reducible refine rl_did ?_ D.kind D.cell D.L),by(unfold wfRA;(try simp only[Rn.goto,Rn.fin,Rn.note,Rn.Q0d,Rn.Q0h,Rn.setB,Rn.wake,Rn.did,Rn.waited,List.foldl_cons,List.foldl_nil]);omega),rfl⟩
theorem wf60_s(hd:0≤d∧d<65536){s1 s2:Rn}(H:RnSh (twT d) (wfRA d) (wfRB d) s1 s2)(ok:OkW s1)(h:s1.f.op=6∧s1.f.line=0):RnSh (twT d) (wfRA d) (wfRB d) (Y4B s1) (Y4B s2):=by
 have HL:=H.1
 obtain⟨ou,hr64,h2,h4,h7⟩:=ok
 have hx:=okU_get ou (j:=0) (by decide)
 have ra:=ou.1
 have D:DW d (doA s1.L ⟨1,0,0,0,0⟩) (doA s2.L ⟨1,0,0,0,0⟩):=dw_of H.1 ou (by simp) ⟨fun e=>by omega,by decide,fun e=>by omega⟩
 have hO:=D.old
 have hR:=D.rng
 simp only[Y4B,Rn.Q4A]
 have ec:Q1B (doA s2.L ⟨1,0,0,0,0⟩).1.old=Q1B (doA s1.L ⟨1,0,0,0,0⟩).1.old:=by rw[hO,tw_calm hR]
 have er:wfR (doA s2.L ⟨1,0,0,0,0⟩).1.old=wfR (doA s1.L ⟨1,0,0,0,0⟩).1.old:=by rw[hO,tw_R]
 simp only[ec,er]
 refine rn_ite (fun h1=> ?_) (fun h1=> ?_)
 all_goals exact⟨by(repeat' first|with_reducible exact HL|with_reducible refine rl_goto ?_ _|with_reducible refine rl_fin ?_ _|with_reducible refine rl_note ?_ _ _|with_reducible refine rl_noted _ ?_|with_reducible refine rl_setA ?_ _ _|with_reducible refine rl_setB ?_ _ _|with_reducible refine rl_wake ?_ _|with_reducible refine rl_did ?_ D.kind D.cell D.L),by(unfold wfRA;(try simp only[Rn.goto,Rn.fin,Rn.note,Rn.Q0d,Rn.Q0h,Rn.setB,Rn.wake,Rn.did,Rn.waited,List.foldl_cons,List.foldl_nil]);omega),rfl⟩
theorem wf70_s(hd:0≤d∧d<65536){s1 s2:Rn}(H:RnSh (twT d) (wfRA d) (wfRB d) s1 s2)(ok:OkW s1)(h:s1.f.op=7∧s1.f.line=0):RnSh (twT d) (wfRA d) (wfRB d) (Y4z s1) (Y4z s2):=by
 have HL:=H.1
 obtain⟨ou,hr64,h2,h4,h7⟩:=ok
 have hx:=okU_get ou (j:=0) (by decide)
 have ra:=ou.1
 have D:DW d (doA s1.L ⟨1,0,0,0,0⟩) (doA s2.L ⟨1,0,0,0,0⟩):=dw_of H.1 ou (by simp) ⟨fun e=>by omega,by decide,fun e=>by omega⟩
 have hO:=D.old
 have hR:=D.rng
 simp only[Y4z,Rn.Q4A]
 have ec:Q1B (doA s2.L ⟨1,0,0,0,0⟩).1.old=Q1B (doA s1.L ⟨1,0,0,0,0⟩).1.old:=by rw[hO,tw_calm hR]
 have er:wfR (doA s2.L ⟨1,0,0,0,0⟩).1.old=wfR (doA s1.L ⟨1,0,0,0,0⟩).1.old:=by rw[hO,tw_R]
 simp only[ec,er]
 refine rn_ite (fun h1=> ?_) (fun h1=> ?_)
 all_goals exact⟨by(repeat' first|with_reducible exact HL|with_reducible refine rl_goto ?_ _|with_reducible refine rl_fin ?_ _|with_reducible refine rl_note ?_ _ _|with_reducible refine rl_noted _ ?_|with_reducible refine rl_setA ?_ _ _|with_reducible refine rl_setB ?_ _ _|with_reducible refine rl_wake ?_ _|with_reducible refine rl_did ?_ D.kind D.cell D.L),by(unfold wfRA;(try simp only[Rn.goto,Rn.fin,Rn.note,Rn.Q0d,Rn.Q0h,Rn.setB,Rn.wake,Rn.did,Rn.waited,List.foldl_cons,List.foldl_nil]);omega),rfl⟩
theorem wait_old{L:List Int}{n mode task st:Int}{p1 p2:Int→Bool}(h8:8≤L.length)(hp:p2 (tw d (L.getD 0 0))=p1 (L.getD 0 0)):(Q0t L n mode task st 0 p1).seen=true→(Q0t (shL (twT d) L) n mode task st 0 p2).acc.old=tw d (Q0t L n mode task st 0 p1).acc.old:=by
 have e1:(doA L ⟨1,0,0,0,0⟩).1.old=L.getD 0 0:=(old_is (j:=0) (by omega) (Or.inl rfl)).1
 have e2:(doA (shL (twT d) L) ⟨1,0,0,0,0⟩).1.old=tw d (L.getD 0 0):=((old_is (j:=0) (by rw[shL_len];omega) (Or.inl rfl)).1).trans (shL_get (by omega))
 unfold Q0t
 dsimp only
 intro hs
 by_cases q1:Q1y mode st=1
 ·rw[if_pos q1]at hs;cases hs
 rw[if_neg q1]at hs⊢
 rw[if_neg q1]
 by_cases q2:Q1y mode st=2
 ·rw[if_pos q2,if_pos q2];show _=tw d _;rw[e1];exact e2
 rw[if_neg q2]at hs⊢
 rw[if_neg q2]
 by_cases q3:Q1y mode st=3
 ·rw[if_pos q3]at hs;cases hs
 rw[if_neg q3]at hs⊢
 rw[if_neg q3]
 by_cases q4:Q1y mode st=4
 ·rw[if_pos q4]at hs;cases hs
 rw[if_neg q4]at hs⊢
 rw[if_neg q4]
 show _=tw d _;rw[e1];exact e2
theorem wf31_s(hd:0≤d∧d<65536){s1 s2:Rn}(H:RnSh (twT d) (wfRA d) (wfRB d) s1 s2)(ok:OkW s1)(h:s1.f.op=3∧s1.f.line=1):RnSh (twT d) (wfRA d) (wfRB d) (Y2V s1) (Y2V s2):=by
 have HL:=H.1
 obtain⟨ou,hr64,h2,h4,h7⟩:=ok
 have hx:=okU_get ou (j:=0) (by decide)
 have ra:=ou.1
 have ea:s2.f.a=tw d s1.f.a:=by
  have e:=H.2.1
  unfold wfRA at e
  omega
 have h8:=ou.2.2.2
 have W:WaitSh (twT d) (Q0t s1.L s1.n s1.mode s1.task s1.f.st 0 (fun v=>wfT v==wfG s1.f.a &&wfR v==0)) (Q0t s2.L s2.n s2.mode s2.task s2.f.st 0 (fun v=>wfT v==wfG s2.f.a &&wfR v==0)):=by
  rw[H.1.L,H.1.n,H.1.mode,H.1.task,H.1.st]
  refine wait_sh (twT_far d) (fun i hi hl=> ?_) (fun h0=>absurd (h0 0 rfl) (by omega))
  obtain rfl:i=0:=by omega
  show _=_
  show(wfT (tw d _)==wfG s2.f.a &&wfR (tw d _)==0)=_
  rw[ea,tw_R,tw_T,tw_G ra]
  congr 1
  rw[Bool.eq_iff_iff,beq_iff_eq,beq_iff_eq]
  have q1:0≤wfT (s1.L.getD 0 0)∧wfT (s1.L.getD 0 0)<256:=by unfold wfT;omega
  have q2:0≤wfG s1.f.a∧wfG s1.f.a<256:=by unfold wfG;omega
  omega
 have es:=W.seen
 have ed:=W.done
 dsimp only[Y2V]
 rw[ed,es]
 generalize (Q0t s1.L s1.n s1.mode s1.task s1.f.st 0 (fun v=>wfT v==wfG s1.f.a &&wfR v==0)).done=db
 generalize (Q0t s1.L s1.n s1.mode s1.task s1.f.st 0 (fun v=>wfT v==wfG s1.f.a &&wfR v==0)).seen=sb
 cases sb<;>cases db<;>simp only[if_true,Bool.false_eq_true,if_false]
 all_goals exact⟨by(repeat' first|with_reducible exact HL|with_reducible refine rl_goto ?_ _|with_reducible refine rl_fin ?_ _|with_reducible refine rl_note ?_ _ _|with_reducible refine rl_noted _ ?_|with_reducible refine rl_setA ?_ _ _|with_reducible refine rl_setB ?_ _ _|with_reducible refine rl_wake ?_ _|with_reducible refine rl_waited ?_ W.stage W.kind W.cell W.words|with_reducible refine rl_keep ?_ W.seen),by(unfold wfRA;(try simp only[Rn.goto,Rn.fin,Rn.note,Rn.Q0d,Rn.Q0h,Rn.setB,Rn.wake,Rn.did,Rn.waited,List.foldl_cons,List.foldl_nil]);omega),rfl⟩
theorem wf12_s(hd:0≤d∧d<65536){s1 s2:Rn}(H:RnSh (twT d) (wfRA d) (wfRB d) s1 s2)(ok:OkW s1)(h:s1.f.op=1∧s1.f.line=2):RnSh (twT d) (wfRA d) (wfRB d) (Y2W s1) (Y2W s2):=by
 have HL:=H.1
 obtain⟨ou,hr64,h2,h4,h7⟩:=ok
 have hx:=okU_get ou (j:=0) (by decide)
 have ra:=ou.1
 have h8:=ou.2.2.2
 have W:WaitSh (twT d) (Q0t s1.L s1.n s1.mode s1.task s1.f.st 0 (Q1B)) (Q0t s2.L s2.n s2.mode s2.task s2.f.st 0 (Q1B)):=by
  rw[H.1.L,H.1.n,H.1.mode,H.1.task,H.1.st]
  refine wait_sh (twT_far d) (fun i hi hl=> ?_) (fun h0=>absurd (h0 0 rfl) (by omega))
  obtain rfl:i=0:=by omega
  show _=_
  exact tw_calm hx
 have es:=W.seen
 have ed:=W.done
 have ho:=wait_old (d:=d) (L:=s1.L) (n:=s1.n) (mode:=s1.mode) (task:=s1.task) (st:=s1.f.st) h8 (tw_calm hx)
 have eW:Q0t s2.L s2.n s2.mode s2.task s2.f.st 0 Q1B=Q0t (shL (twT d) s1.L) s1.n s1.mode s1.task s1.f.st 0 Q1B:=by rw[H.1.L,H.1.n,H.1.mode,H.1.task,H.1.st]
 rw[←eW]at ho
 have ea:s2.f.a=tw d s1.f.a:=by
  have e:=H.2.1
  unfold wfRA at e
  omega
 dsimp only[Y2W]
 rw[ed]
 have hk:(s2.keep (Q0t s2.L s2.n s2.mode s2.task s2.f.st 0 Q1B)).f.a=tw d (s1.keep (Q0t s1.L s1.n s1.mode s1.task s1.f.st 0 Q1B)).f.a:=by
  unfold Rn.keep
  rw[es]
  cases hs:(Q0t s1.L s1.n s1.mode s1.task s1.f.st 0 Q1B).seen with
  |true=>exact ho hs
  |false=>exact ea
 have hKl:Rl (twT d) (s1.keep (Q0t s1.L s1.n s1.mode s1.task s1.f.st 0 Q1B)) (s2.keep (Q0t s2.L s2.n s2.mode s2.task s2.f.st 0 Q1B)):=rl_keep HL es
 have hop:(s1.keep (Q0t s1.L s1.n s1.mode s1.task s1.f.st 0 Q1B)).f.op=1∧(s1.keep (Q0t s1.L s1.n s1.mode s1.task s1.f.st 0 Q1B)).f.line=2:=by
  unfold Rn.keep
  split<;>exact h
 generalize s1.keep (Q0t s1.L s1.n s1.mode s1.task s1.f.st 0 Q1B)=k1 at hk hKl hop⊢
 generalize s2.keep (Q0t s2.L s2.n s2.mode s2.task s2.f.st 0 Q1B)=k2 at hk hKl⊢
 refine rn_ite (fun h1=> ?_) (fun h1=> ?_)
 ·exact⟨rl_goto (rl_waited hKl W.stage W.kind W.cell W.words) _,Or.inr (Or.inr (Or.inr hk)),rfl⟩
 ·exact⟨rl_waited hKl W.stage W.kind W.cell W.words,Or.inr (Or.inr (Or.inr hk)),rfl⟩
theorem wf_sh(hd:0≤d∧d<65536):LineSh (twT d) (wfRA d) (wfRB d) OkW wfA:=by
 intro s1 s2 H hn ok
 unfold wfA
 rw[H.1.op,H.1.line]
 refine rn_ite (fun h=>wf10_s hd H ok h) (fun _=> ?_)
 refine rn_ite (fun h=>wf11_s hd H ok h) (fun _=> ?_)
 refine rn_ite (fun h=>wf12_s hd H ok h) (fun _=> ?_)
 refine rn_ite (fun h=>wf13_s hd H ok h) (fun _=> ?_)
 refine rn_ite (fun h=>wf20_s hd H ok h) (fun _=> ?_)
 refine rn_ite (fun h=>wf30_s hd H ok h) (fun _=> ?_)
 refine rn_ite (fun h=>wf31_s hd H ok h) (fun _=> ?_)
 refine rn_ite (fun h=>wf40_s hd H ok h) (fun _=> ?_)
 refine rn_ite (fun h=>wf80_s hd H ok h) (fun _=> ?_)
 refine rn_ite (fun h=>wf41_s hd H ok h) (fun _=> ?_)
 refine rn_ite (fun h=>wf81_s hd H ok h) (fun _=> ?_)
 refine rn_ite (fun h=>wf50_s hd H ok h) (fun _=> ?_)
 refine rn_ite (fun h=>wf60_s hd H ok h) (fun _=> ?_)
 refine rn_ite (fun h=>wf70_s hd H ok h) (fun _=> ?_)
 refine rn_ite (fun h=>wf51_s hd H ok h) (fun _=> ?_)
 refine rn_ite (fun h=>wf61_s hd H ok h) (fun _=> ?_)
 refine rn_ite (fun h=>wf71_s hd H ok h) (fun _=> ?_)
 exact H
end
end Go.Proofs.YthnimpkoidablaaGreat.Z
