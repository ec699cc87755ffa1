import Derived.Test.YthnimpkoidablaaGreatZB01
set_option linter.unusedVariables false
set_option linter.unusedSimpArgs false
set_option maxHeartbeats 3200000
namespace Go.Proofs.YthnimpkoidablaaGreat.Z
open Go.RowKit
inductive TfP
 |idle (h:Int)
 |r0
 |r1 (a:Int)
 |r2 (a:Int)
 |u0
 |l0
 |l1 (a:Int)
 |v0
 |v1
 |d0
 |q0 (a:Int) (b:Int)
 |q1 (a:Int) (b:Int)
 |q2 (a:Int) (b:Int)
 |q3 (a:Int) (b:Int)
 |y0 (a:Int) (b:Int)
 |y1 (a:Int) (b:Int)
 |y2 (a:Int) (b:Int)
 |z0 (a:Int) (b:Int)
 |z1 (a:Int) (b:Int)
 |z2 (a:Int) (b:Int)
 |z3 (a:Int) (b:Int)
def Q4d(op line a b:Int):Fr:=⟨op,line,a,b,0,Wk.zero,0⟩
def Q2o:TfP→Fr×Int
 |.idle h=>(Fr.zero,h)
 |.r0=>(Q4d 1 0 0 0,0)
 |.r1 a=>(Q4d 1 1 a 0,0)
 |.r2 a=>(Q4d 1 2 a 0,0)
 |.u0=>(Q4d 2 0 0 0,0)
 |.l0=>(Q4d 3 0 0 0,0)
 |.l1 a=>(Q4d 3 1 a 0,0)
 |.v0=>(Q4d 4 0 0 0,0)
 |.v1=>(Q4d 4 1 0 0,0)
 |.d0=>(Q4d 8 0 0 0,1)
 |.q0 a b=>(Q4d 5 0 a b,0)
 |.q1 a b=>(Q4d 5 1 a b,0)
 |.q2 a b=>(Q4d 5 2 a b,0)
 |.q3 a b=>(Q4d 5 3 a b,0)
 |.y0 a b=>(Q4d 6 0 a b,0)
 |.y1 a b=>(Q4d 6 1 a b,0)
 |.y2 a b=>(Q4d 6 2 a b,0)
 |.z0 a b=>(Q4d 7 0 a b,1)
 |.z1 a b=>(Q4d 7 1 a b,1)
 |.z2 a b=>(Q4d 7 2 a b,1)
 |.z3 a b=>(Q4d 7 3 a b,1)
def Q3s:TfP→Option (Nat×(Int→Bool))
 |.r1 a=>some (1,fun v=>v==a)
 |.l1 a=>some (2,fun v=>v==a)
 |_=>none
def Q6l:TfP→TfP
 |.r1 a=> .r2 a
 |.l1 _=> .idle 2
 |p=>p
def X1b:TfP→Int
 |.r1 a=>a
 |.l1 a=>a
 |_=>0
def Q1R(x0 x1 x2:Int):TfP→TfP×Option (Nat×Int)×Option Nat
 |.r0=>(.r1 x0,some (0,(x0+1)%4294967296),none)
 |.r2 _=>(.idle 1,some (1,(x1+1)%4294967296),some 1)
 |.u0=>(.idle 0,some (2,(x2+1)%4294967296),some 2)
 |.l0=>(.l1 x0,some (0,(x0+1)%4294967296),none)
 |.v0=>(.v1,some (1,(x1+1)%4294967296),some 1)
 |.v1=>(.idle 0,some (2,(x2+1)%4294967296),some 2)
 |.d0=>(.idle 1,some (1,(x1+1)%4294967296),some 1)
 |.q0 a b=>(.q1 x0 b,none,none)
 |.q1 a b=>(if 0<Q1s a x1 then .idle 0 else if Q1s a x1<0 then .q0 a x1 else .q2 a x1,none,none)
 |.q2 a b=>if x0=a then(.q3 a b,some (0,(a+1)%4294967296),none)else(.q0 a b,none,none)
 |.y0 a b=>(.y1 x0 b,none,none)
 |.y1 a b=>(if 0<Q1s a x2 then .idle 0 else if Q1s a x2<0 then .y0 a x2 else .y2 a x2,none,none)
 |.y2 a b=>if x0=a then(.idle 2,some (0,(a+1)%4294967296),none)else(.y0 a b,none,none)
 |.z0 a b=>(.z1 x0 b,none,none)
 |.z1 a b=>(if 1<Q1s a x2 then .idle 1 else if Q1s a x2<1 then .z0 a x2 else .z2 a x2,none,none)
 |.z2 a b=>if x0=a then(.z3 a b,some (0,(a+1)%4294967296),none)else(.z0 a b,none,none)
 |.q3 _ _=>(.idle 1,some (1,(x1+1)%4294967296),some 1)
 |.z3 _ _=>(.idle 2,some (2,(x2+1)%4294967296),none)
 |p=>(p,none,none)
def Q8k(op h:Int):TfP:=if op=1 then .r0 else if op=2 then .u0 else if op=3 then .l0 else if op=4 then .v0 else if op=5 then .q0 0 0 else if op=6 then .y0 0 0 else if op=7 then .z0 0 0 else .d0
def tfK:Q3D TfP:=⟨tfA,Q2o,fun p v=>X1b p,fun _ p=>Q3s p,fun p v=>Q6l p,fun _ p m=>Q1R (m 0) (m 1) (m 2) p, .idle,Q8k,fun _=>True⟩
theorem Y3c(n:Nat)(mode:Int):tfK.Good n mode:=by
 refine⟨fun p=>by cases p<;>exact⟨rfl,rfl,rfl⟩,fun h=>rfl,fun p hp=> ?_,fun p hp=> ?_,fun t p c pr hw=> ?_,fun op h hm=> ?_,fun t op h hm=> ?_,fun t p c pr _ _ hw=> ?_,fun t p c pr v hw hh=> ?_,fun p t s hok ht hw hop hn hmd htk hf hl=> ?_,fun p t c pr st s hok ht hw h0 h3 hn hmd htk hf hl=> ?_,fun p t c pr v s hok ht hm2 hw hpr hn hmd htk hf hl=> ?_⟩
 ·cases p<;>first|rfl|(simp[tfK,Q2o,Q4d]at hp)
 ·cases p<;>first|(simp[tfK,Q2o,Q4d]at hp;done)|(simp[tfK,Q2o,Q4d]at hp;rw[hp];rfl)
 ·cases p<;>simp[tfK,Q3s]at hw<;>simp[tfK,Q2o,Q4d]
 ·rcases Q2L hm with⟨rfl,rfl|rfl|rfl|rfl⟩|⟨rfl,rfl|rfl⟩|⟨_,_,rfl|rfl⟩<;>simp[Q8k,tfK,Q2o,Q4d,Q4h,Q0w]
 ·rcases Q2L hm with⟨rfl,rfl|rfl|rfl|rfl⟩|⟨rfl,rfl|rfl⟩|⟨_,_,rfl|rfl⟩<;>simp[tfK,Q8k,Q3s]
 ·cases p<;>simp[tfK,Q3s]at hw<;>omega
 ·cases p<;>simp[tfK,Q3s]at hw<;>simp[Q6l,tfK,Q2o,Q4d]at hh⊢
 ·obtain⟨sn,sm,st,f,acc,notes,L⟩:=s
  simp only at hn hmd htk hf hl
  subst hn hmd htk hf
  have l0:=Q6f (n:=n) (L:=L) (c:=0) hl (by decide) (by omega)
  have a0:=fun x=>Q7B (n:=n) (L:=L) (c:=0) (x:=x) hl (by decide) (by omega)
  have s0:=fun x=>Q3Y (n:=n) (L:=L) (c:=0) (x:=x) hl (by decide) (by omega)
  have c0:=fun x y=>Q4T (n:=n) (L:=L) (c:=0) (x:=x) (y:=y) hl (by decide) (by omega)
  have d0:=fun x y=>Q3Z (n:=n) (L:=L) (c:=0) (x:=x) (y:=y) hl (by decide) (by omega)
  simp only[show(0:Int).toNat=0 from rfl]at l0 a0 s0 c0 d0
  have l1:=Q6f (n:=n) (L:=L) (c:=1) hl (by decide) (by omega)
  have a1:=fun x=>Q7B (n:=n) (L:=L) (c:=1) (x:=x) hl (by decide) (by omega)
  have s1:=fun x=>Q3Y (n:=n) (L:=L) (c:=1) (x:=x) hl (by decide) (by omega)
  have c1:=fun x y=>Q4T (n:=n) (L:=L) (c:=1) (x:=x) (y:=y) hl (by decide) (by omega)
  have d1:=fun x y=>Q3Z (n:=n) (L:=L) (c:=1) (x:=x) (y:=y) hl (by decide) (by omega)
  simp only[show(1:Int).toNat=1 from rfl]at l1 a1 s1 c1 d1
  have l2:=Q6f (n:=n) (L:=L) (c:=2) hl (by decide) (by omega)
  have a2:=fun x=>Q7B (n:=n) (L:=L) (c:=2) (x:=x) hl (by decide) (by omega)
  have s2:=fun x=>Q3Y (n:=n) (L:=L) (c:=2) (x:=x) hl (by decide) (by omega)
  have c2:=fun x y=>Q4T (n:=n) (L:=L) (c:=2) (x:=x) (y:=y) hl (by decide) (by omega)
  have d2:=fun x y=>Q3Z (n:=n) (L:=L) (c:=2) (x:=x) (y:=y) hl (by decide) (by omega)
  simp only[show(2:Int).toNat=2 from rfl]at l2 a2 s2 c2 d2
  show X3e tfK n p (Q1R (Q0j n L 0) (Q0j n L 1) (Q0j n L 2) p) _ _
  generalize Q0j n L 0=x0 at l0 a0 s0 c0 d0
  generalize Q0j n L 1=x1 at l1 a1 s1 c1 d1
  generalize Q0j n L 2=x2 at l2 a2 s2 c2 d2
  cases p<;>simp[tfK,Q3s]at hw<;>simp[tfK,Q2o,Q4d,Fr.zero]at hop
  case r0=>constructor<;>simp[tfK,Q2o,Q4d,tfA,Q1R,Rn.fresh,Rn.did,Rn.Q0h,Rn.setB,Rn.note,Rn.goto,Rn.Q0d,Rn.fin,Rn.wake,Q0e,Q0o,Q0c,Q1f,Y5d,Q0x,l0,a0,s0,c0,d0,l1,a1,s1,c1,d1,l2,a2,s2,c2,d2]<;>omega
  case r2 a=>constructor<;>simp[tfK,Q2o,Q4d,tfA,Q1R,Rn.fresh,Rn.did,Rn.Q0h,Rn.setB,Rn.note,Rn.goto,Rn.Q0d,Rn.fin,Rn.wake,Q0e,Q0o,Q0c,Q1f,Y5c,Q0J,l0,a0,s0,c0,d0,l1,a1,s1,c1,d1,l2,a2,s2,c2,d2]<;>omega
  case u0=>constructor<;>simp[tfK,Q2o,Q4d,tfA,Q1R,Rn.fresh,Rn.did,Rn.Q0h,Rn.setB,Rn.note,Rn.goto,Rn.Q0d,Rn.fin,Rn.wake,Q0e,Q0o,Q0c,Q1f,Y5b,l0,a0,s0,c0,d0,l1,a1,s1,c1,d1,l2,a2,s2,c2,d2]<;>omega
  case l0=>constructor<;>simp[tfK,Q2o,Q4d,tfA,Q1R,Rn.fresh,Rn.did,Rn.Q0h,Rn.setB,Rn.note,Rn.goto,Rn.Q0d,Rn.fin,Rn.wake,Q0e,Q0o,Q0c,Q1f,Y5a,Q0x,l0,a0,s0,c0,d0,l1,a1,s1,c1,d1,l2,a2,s2,c2,d2]<;>omega
  case v0=>constructor<;>simp[tfK,Q2o,Q4d,tfA,Q1R,Rn.fresh,Rn.did,Rn.Q0h,Rn.setB,Rn.note,Rn.goto,Rn.Q0d,Rn.fin,Rn.wake,Q0e,Q0o,Q0c,Q1f,Y4Z,l0,a0,s0,c0,d0,l1,a1,s1,c1,d1,l2,a2,s2,c2,d2]<;>omega
  case v1=>constructor<;>simp[tfK,Q2o,Q4d,tfA,Q1R,Rn.fresh,Rn.did,Rn.Q0h,Rn.setB,Rn.note,Rn.goto,Rn.Q0d,Rn.fin,Rn.wake,Q0e,Q0o,Q0c,Q1f,Y4Y,l0,a0,s0,c0,d0,l1,a1,s1,c1,d1,l2,a2,s2,c2,d2]<;>omega
  case d0=>constructor<;>simp[tfK,Q2o,Q4d,tfA,Q1R,Rn.fresh,Rn.did,Rn.Q0h,Rn.setB,Rn.note,Rn.goto,Rn.Q0d,Rn.fin,Rn.wake,Q0e,Q0o,Q0c,Q1f,Y4M,Q0J,l0,a0,s0,c0,d0,l1,a1,s1,c1,d1,l2,a2,s2,c2,d2]<;>omega
  case q0 a b=>constructor<;>simp[tfK,Q2o,Q4d,tfA,Q1R,Rn.fresh,Rn.did,Rn.Q0h,Rn.setB,Rn.note,Rn.goto,Rn.Q0d,Rn.fin,Rn.wake,Q0e,Q0o,Q0c,Q1f,Y4X,l0,a0,s0,c0,d0,l1,a1,s1,c1,d1,l2,a2,s2,c2,d2]<;>omega
  case q1 a b=>by_cases q0:0<Q1s a x1<;>by_cases q1:Q1s a x1<0<;>constructor<;>simp[tfK,Q2o,Q4d,tfA,Q1R,Rn.fresh,Rn.did,Rn.Q0h,Rn.setB,Rn.note,Rn.goto,Rn.Q0d,Rn.fin,Rn.wake,Q0e,Q0o,Q0c,Q1f,q0,q1,Y4W,Q5J,l0,a0,s0,c0,d0,l1,a1,s1,c1,d1,l2,a2,s2,c2,d2]<;>omega
  case q2 a b=>by_cases q0:x0=a<;>constructor<;>simp[tfK,Q2o,Q4d,tfA,Q1R,Rn.fresh,Rn.did,Rn.Q0h,Rn.setB,Rn.note,Rn.goto,Rn.Q0d,Rn.fin,Rn.wake,Q0e,Q0o,Q0c,Q1f,q0,Y4V,Q2t,l0,a0,s0,c0,d0,l1,a1,s1,c1,d1,l2,a2,s2,c2,d2]<;>omega
  case q3 a b=>constructor<;>simp[tfK,Q2o,Q4d,tfA,Q1R,Rn.fresh,Rn.did,Rn.Q0h,Rn.setB,Rn.note,Rn.goto,Rn.Q0d,Rn.fin,Rn.wake,Q0e,Q0o,Q0c,Q1f,Y4U,Q0J,l0,a0,s0,c0,d0,l1,a1,s1,c1,d1,l2,a2,s2,c2,d2]<;>omega
  case y0 a b=>constructor<;>simp[tfK,Q2o,Q4d,tfA,Q1R,Rn.fresh,Rn.did,Rn.Q0h,Rn.setB,Rn.note,Rn.goto,Rn.Q0d,Rn.fin,Rn.wake,Q0e,Q0o,Q0c,Q1f,Y4T,l0,a0,s0,c0,d0,l1,a1,s1,c1,d1,l2,a2,s2,c2,d2]<;>omega
  case y1 a b=>by_cases q0:0<Q1s a x2<;>by_cases q1:Q1s a x2<0<;>constructor<;>simp[tfK,Q2o,Q4d,tfA,Q1R,Rn.fresh,Rn.did,Rn.Q0h,Rn.setB,Rn.note,Rn.goto,Rn.Q0d,Rn.fin,Rn.wake,Q0e,Q0o,Q0c,Q1f,q0,q1,Y4S,Q5J,l0,a0,s0,c0,d0,l1,a1,s1,c1,d1,l2,a2,s2,c2,d2]<;>omega
  case y2 a b=>by_cases q0:x0=a<;>constructor<;>simp[tfK,Q2o,Q4d,tfA,Q1R,Rn.fresh,Rn.did,Rn.Q0h,Rn.setB,Rn.note,Rn.goto,Rn.Q0d,Rn.fin,Rn.wake,Q0e,Q0o,Q0c,Q1f,q0,Y4R,Q2t,l0,a0,s0,c0,d0,l1,a1,s1,c1,d1,l2,a2,s2,c2,d2]<;>omega
  case z0 a b=>constructor<;>simp[tfK,Q2o,Q4d,tfA,Q1R,Rn.fresh,Rn.did,Rn.Q0h,Rn.setB,Rn.note,Rn.goto,Rn.Q0d,Rn.fin,Rn.wake,Q0e,Q0o,Q0c,Q1f,Y4Q,l0,a0,s0,c0,d0,l1,a1,s1,c1,d1,l2,a2,s2,c2,d2]<;>omega
  case z1 a b=>by_cases q0:1<Q1s a x2<;>by_cases q1:Q1s a x2<1<;>constructor<;>simp[tfK,Q2o,Q4d,tfA,Q1R,Rn.fresh,Rn.did,Rn.Q0h,Rn.setB,Rn.note,Rn.goto,Rn.Q0d,Rn.fin,Rn.wake,Q0e,Q0o,Q0c,Q1f,q0,q1,Y4P,Q5J,l0,a0,s0,c0,d0,l1,a1,s1,c1,d1,l2,a2,s2,c2,d2]<;>omega
  case z2 a b=>by_cases q0:x0=a<;>constructor<;>simp[tfK,Q2o,Q4d,tfA,Q1R,Rn.fresh,Rn.did,Rn.Q0h,Rn.setB,Rn.note,Rn.goto,Rn.Q0d,Rn.fin,Rn.wake,Q0e,Q0o,Q0c,Q1f,q0,Y4O,Q2t,l0,a0,s0,c0,d0,l1,a1,s1,c1,d1,l2,a2,s2,c2,d2]<;>omega
  case z3 a b=>constructor<;>simp[tfK,Q2o,Q4d,tfA,Q1R,Rn.fresh,Rn.did,Rn.Q0h,Rn.setB,Rn.note,Rn.goto,Rn.Q0d,Rn.fin,Rn.wake,Q0e,Q0o,Q0c,Q1f,Y4N,l0,a0,s0,c0,d0,l1,a1,s1,c1,d1,l2,a2,s2,c2,d2]<;>omega
 ·obtain⟨sn,sm,stk,f,acc,notes,L⟩:=s
  simp only at hn hmd htk hf hl
  subst hn hmd htk hf
  cases p<;>simp[tfK,Q3s]at hw
  case r1 a=>
   obtain⟨rfl,rfl⟩:=hw
   have hd:=fun h=>Q1u (L:=L) (n:=n) (mode:=sm) (task:=t) (st:=st) (c:=1) (p:=fun v=>v==a) h
   have hs:=fun h=>Q2i (L:=L) (n:=n) (mode:=sm) (task:=t) (st:=st) (c:=1) (p:=fun v=>v==a) h0 h3 h
   simp[tfK,Q2o,Q4d,tfA,Rn.fresh,Rn.waited,X1b,Q6l,Y3g]
   generalize Q0t L n sm t st 1 (fun v=>v==a)=R at hd hs⊢
   obtain⟨rs,ra,rsn,rd,rw_⟩:=R
   cases rsn<;>cases rd<;>simp[Rn.note,Rn.fin,Rn.goto,Rn.Q0h,Q0o,Q0c]at hd hs⊢ <;>simp[hd,Wk.zero]
  case l1 a=>
   obtain⟨rfl,rfl⟩:=hw
   have hd:=fun h=>Q1u (L:=L) (n:=n) (mode:=sm) (task:=t) (st:=st) (c:=2) (p:=fun v=>v==a) h
   have hs:=fun h=>Q2i (L:=L) (n:=n) (mode:=sm) (task:=t) (st:=st) (c:=2) (p:=fun v=>v==a) h0 h3 h
   simp[tfK,Q2o,Q4d,tfA,Rn.fresh,Rn.waited,X1b,Q6l,Y3f]
   generalize Q0t L n sm t st 2 (fun v=>v==a)=R at hd hs⊢
   obtain⟨rs,ra,rsn,rd,rw_⟩:=R
   cases rsn<;>cases rd<;>simp[Rn.note,Rn.fin,Rn.goto,Rn.Q0h,Q0o,Q0c]at hd hs⊢ <;>simp[hd,Wk.zero]
 ·obtain⟨sn,sm,stk,f,acc,notes,L⟩:=s
  simp only at hn hmd htk hf hl
  subst hn hmd htk hf
  cases p<;>simp[tfK,Q3s]at hw
  case r1 a=>
   obtain⟨rfl,rfl⟩:=hw
   have hd:=Q1b (L:=L) (n:=n) (task:=t) (c:=1) (p:=fun v=>v==a) hm2
   have hs:=Q1i (L:=L) (n:=n) (task:=t) (c:=1) (p:=fun v=>v==a) hm2
   simp[tfK,Q2o,Q4d,tfA,Rn.fresh,Rn.waited,X1b,Q6l,Y3g]
   generalize Q0t L n sm t 4 1 (fun v=>v==a)=R at hd hs⊢
   obtain⟨rs,ra,rsn,rd,rw_⟩:=R
   obtain⟨rfl,rfl⟩:=hd
   obtain rfl:=hs
   simp[Rn.note,Rn.fin,Rn.goto,Rn.Q0h,Q0o,Q0c,Wk.zero]
  case l1 a=>
   obtain⟨rfl,rfl⟩:=hw
   have hd:=Q1b (L:=L) (n:=n) (task:=t) (c:=2) (p:=fun v=>v==a) hm2
   have hs:=Q1i (L:=L) (n:=n) (task:=t) (c:=2) (p:=fun v=>v==a) hm2
   simp[tfK,Q2o,Q4d,tfA,Rn.fresh,Rn.waited,X1b,Q6l,Y3f]
   generalize Q0t L n sm t 4 2 (fun v=>v==a)=R at hd hs⊢
   obtain⟨rs,ra,rsn,rd,rw_⟩:=R
   obtain⟨rfl,rfl⟩:=hd
   obtain rfl:=hs
   simp[Rn.note,Rn.fin,Rn.goto,Rn.Q0h,Q0o,Q0c,Wk.zero]
def tfT:TfP→Int
 |.idle h=>if h=2 then 1 else 0
 |.r1 _=>1
 |.r2 _=>1
 |.q3 _ _=>1
 |.l1 _=>1
 |.v0=>1
 |.d0=>1
 |.z3 _ _=>1
 |_=>0
def tfD:TfP→Int
 |.idle h=>if h=1 then 1 else 0
 |.u0=>1
 |.z0 _ _=>1
 |.z1 _ _=>1
 |.z2 _ _=>1
 |.z3 _ _=>1
 |.v1=>1
 |_=>0
theorem X1c: ∀x,0≤tfD x:=by intro x;cases x<;>simp[tfD];split<;>omega
def X0k(base U R W t:Int):TfP→Prop
 |.idle h=>h=0∨h=1∨(h=2∧t=R∧W=R)
 |.r1 a=>a=t%4294967296
 |.r2 _=>t=R
 |.l1 a=>a=t%4294967296
 |.v0=>t=R∧W=R
 |.d0=>t=R∧W=R
 |.q1 a _=> ∃u,base≤u∧u≤U∧a=u%4294967296
 |.q2 a _=> ∃u,base≤u∧u≤U∧a=u%4294967296∧u≤R
 |.q3 _ _=>t=R
 |.y1 a _=> ∃u,base≤u∧u≤U∧a=u%4294967296
 |.y2 a _=> ∃u,base≤u∧u≤U∧a=u%4294967296∧u≤W
 |.z1 a _=> ∃u,base≤u∧u≤U∧a=u%4294967296
 |.z2 a _=> ∃u,base≤u∧u≤U∧a=u%4294967296∧u≤W+1
 |.z3 _ _=>t=R∧W=R-1
 |_=>True
structure X4k(base:Int)(n b:Nat)(ps:List TfP)(m:Nat→Int)(U R W:Int)(T:Nat→Int):Prop where
 m0:m 0=U%4294967296
 m1:m 1=R%4294967296
 m2:m 2=W%4294967296
 lo:base≤W
 wr:W≤R
 ru:R≤U
 hi:U+b≤base+1073741824
 nt:U-R=ws tfT ps
 nd:R-W=ws tfD ps
 rng: ∀i,i<n→tfT (ps.getD i (tfK.idle 0))=1→R≤T i∧T i<U
 inj: ∀i j,i<n→j<n→i≠j→tfT (ps.getD i (tfK.idle 0))=1→tfT (ps.getD j (tfK.idle 0))=1→T i≠T j
 sur: ∀t,R≤t→t<U→ ∃i,i<n∧tfT (ps.getD i (tfK.idle 0))=1∧T i=t
 at_: ∀i,i<n→X0k base U R W (T i) (ps.getD i (tfK.idle 0))
def tfI(base:Int)(n b:Nat)(ps:List TfP)(m:Nat→Int):Prop:=n≤64∧ps.length=n∧ ∃U R W T,X4k base n b ps m U R W T
section
variable {base U R W:Int}{n b:Nat}{ps:List TfP}{m m':Nat→Int}{T:Nat→Int}{i:Nat}{p p':TfP}
theorem Q4X(hl:ps.length=n)(hi:i<n){j:Nat}:(ps.set i p').getD j (tfK.idle 0)=if i=j then p' else ps.getD j (tfK.idle 0):=Q2K (by omega)
theorem X4k.same(H:X4k base n (b+1) ps m U R W T)(hl:ps.length=n)(hi:i<n)(hp:ps.getD i (tfK.idle 0)=p)(ht:tfT p'=tfT p)(hd:tfD p'=tfD p)(ha:X0k base U R W (T i) p')(e:m' 0=m 0∧m' 1=m 1∧m' 2=m 2):X4k base n b (ps.set i p') m' U R W T:=by
 have s1:=Q0l (f:=tfT) (d:=tfK.idle 0) (x:=p') (l:=ps) (i:=i) (by omega)
 have s2:=Q0l (f:=tfD) (d:=tfK.idle 0) (x:=p') (l:=ps) (i:=i) (by omega)
 rw[hp]at s1 s2
 have hT: ∀j,tfT ((ps.set i p').getD j (tfK.idle 0))=tfT (ps.getD j (tfK.idle 0)):=fun j=>by
  rw[Q4X hl hi]
  split
  ·rename_i e;subst e;rw[hp,ht]
  ·rfl
 refine⟨e.1.trans H.m0,e.2.1.trans H.m1,e.2.2.trans H.m2,H.lo,H.wr,H.ru,by have:=H.hi;omega,by have:=H.nt;omega,by have:=H.nd;omega,fun j hj h=>H.rng j hj (by rw[←hT];exact h),fun j k hj hk hjk h1 h2=>H.inj j k hj hk hjk (by rw[←hT];exact h1) (by rw[←hT];exact h2),fun t h1 h2=> ?_,fun j hj=> ?_⟩
 ·obtain⟨j,g1,g2,g3⟩:=H.sur t h1 h2
  exact⟨j,g1,by rw[hT];exact g2,g3⟩
 ·rw[Q4X hl hi]
  split
  ·rename_i e;subst e;exact ha
  ·exact H.at_ j hj
theorem X4k.take(H:X4k base n (b+1) ps m U R W T)(hl:ps.length=n)(hi:i<n)(hp:ps.getD i (tfK.idle 0)=p)(ht0:tfT p=0)(ht:tfT p'=1)(hd:tfD p'=tfD p)(ha:X0k base (U+1) R W U p')(e:m' 0=(U+1)%4294967296∧m' 1=m 1∧m' 2=m 2): ∃T',X4k base n b (ps.set i p') m' (U+1) R W T':=by
 have s1:=Q0l (f:=tfT) (d:=tfK.idle 0) (x:=p') (l:=ps) (i:=i) (by omega)
 have s2:=Q0l (f:=tfD) (d:=tfK.idle 0) (x:=p') (l:=ps) (i:=i) (by omega)
 rw[hp]at s1 s2
 have hru:=H.ru
 refine⟨fun j=>if j=i then U else T j,e.1,e.2.1.trans H.m1,e.2.2.trans H.m2,H.lo,H.wr,by omega,by have:=H.hi;omega,by have:=H.nt;omega,by have:=H.nd;omega,fun j hj h=> ?_,fun j k hj hk hjk h1 h2=> ?_,fun t h1 h2=> ?_,fun j hj=> ?_⟩
 ·rw[Q4X hl hi]at h
  by_cases e:i=j
  ·subst e;simp only[if_true];omega
  ·rw[if_neg e]at h
   simp only[if_neg (fun h:j=i=>e h.symm)]
   have:=H.rng j hj h
   omega
 ·rw[Q4X hl hi]at h1 h2
  by_cases e1:i=j
  ·subst e1
   rw[if_neg hjk]at h2
   have:=H.rng k hk h2
   simp only[if_true,if_neg (fun h:k=i=>hjk h.symm)]
   omega
  ·rw[if_neg e1]at h1
   by_cases e2:i=k
   ·subst e2
    have:=H.rng j hj h1
    simp only[if_true,if_neg (fun h:j=i=>e1 h.symm)]
    omega
   ·rw[if_neg e2]at h2
    simp only[if_neg (fun h:j=i=>e1 h.symm),if_neg (fun h:k=i=>e2 h.symm)]
    exact H.inj j k hj hk hjk h1 h2
 ·by_cases hu:t=U
  ·exact⟨i,hi,by rw[Q4X hl hi,if_pos rfl];exact ht,by simp[hu]⟩
  ·obtain⟨j,g1,g2,g3⟩:=H.sur t h1 (by omega)
   have hji: ¬i=j:=by rintro rfl;rw[hp,ht0]at g2;omega
   exact⟨j,g1,by rw[Q4X hl hi,if_neg hji];exact g2,by simp only[if_neg (fun h:j=i=>hji h.symm)];exact g3⟩
 ·rw[Q4X hl hi]
  by_cases e1:i=j
  ·subst e1;simp only[if_true];exact ha
  ·simp only[if_neg e1,if_neg (fun h:j=i=>e1 h.symm)]
   have hj:=H.at_ j hj
   generalize ps.getD j (tfK.idle 0)=q at hj
   cases q<;>first|exact hj|(obtain⟨u,g1,g2,g3⟩:=hj;exact⟨u,g1,by omega,g3⟩)
theorem X4k.turn(H:X4k base n (b+1) ps m U R W T)(hl:ps.length=n)(hi:i<n)(hp:ps.getD i (tfK.idle 0)=p)(ht0:tfT p=1)(hR:T i=R)(ht:tfT p'=0)(hd:tfD p'=tfD p+1)(ha:X0k base U (R+1) W (T i) p')(e:m' 0=m 0∧m' 1=(R+1)%4294967296∧m' 2=m 2):X4k base n b (ps.set i p') m' U (R+1) W T:=by
 have s1:=Q0l (f:=tfT) (d:=tfK.idle 0) (x:=p') (l:=ps) (i:=i) (by omega)
 have s2:=Q0l (f:=tfD) (d:=tfK.idle 0) (x:=p') (l:=ps) (i:=i) (by omega)
 rw[hp]at s1 s2
 have hru:=(H.rng i hi (by rw[hp];exact ht0)).2
 refine⟨e.1.trans H.m0,e.2.1,e.2.2.trans H.m2,H.lo,by have:=H.wr;omega,by omega,by have:=H.hi;omega,by have:=H.nt;omega,by have:=H.nd;omega,fun j hj h=> ?_,fun j k hj hk hjk h1 h2=> ?_,fun t h1 h2=> ?_,fun j hj=> ?_⟩
 ·rw[Q4X hl hi]at h
  by_cases e:i=j
  ·subst e;rw[if_pos rfl,ht]at h;omega
  ·rw[if_neg e]at h
   have g1:=H.rng j hj h
   have g2:=H.inj i j hi hj e (by rw[hp];exact ht0) h
   omega
 ·rw[Q4X hl hi]at h1 h2
  have e1: ¬i=j:=by rintro rfl;rw[if_pos rfl,ht]at h1;omega
  have e2: ¬i=k:=by rintro rfl;rw[if_pos rfl,ht]at h2;omega
  rw[if_neg e1]at h1
  rw[if_neg e2]at h2
  exact H.inj j k hj hk hjk h1 h2
 ·obtain⟨j,g1,g2,g3⟩:=H.sur t (by omega) h2
  have hji: ¬i=j:=by rintro rfl;omega
  exact⟨j,g1,by rw[Q4X hl hi,if_neg hji];exact g2,g3⟩
 ·rw[Q4X hl hi]
  by_cases e1:i=j
  ·subst e1;rw[if_pos rfl];exact ha
  ·rw[if_neg e1]
   have g2:=fun h=>H.inj i j hi hj e1 (by rw[hp];exact ht0) h
   have hj:=H.at_ j hj
   generalize ps.getD j (tfK.idle 0)=q at hj g2
   cases q<;>simp only[X0k,tfT]at hj g2⊢
   case idle h=>
    rcases hj with h1|h1|⟨h1,h3,h4⟩
    ·exact Or.inl h1
    ·exact Or.inr (Or.inl h1)
    ·exact absurd (hR.trans h3.symm) (g2 (by rw[if_pos h1]))
   all_goals first|exact hj|(exfalso;simp at g2;omega)|(obtain⟨u,k1,k2,k3⟩:=hj;exact⟨u,k1,k2,k3⟩)|(obtain⟨u,k1,k2,k3,k4⟩:=hj;exact⟨u,k1,k2,k3,by omega⟩)
theorem X4k.goes(H:X4k base n (b+1) ps m U R W T)(hl:ps.length=n)(hi:i<n)(hp:ps.getD i (tfK.idle 0)=p)(ht:tfT p'=tfT p)(hd0:tfD p=1)(hd:tfD p'=0)(ha:X0k base U R (W+1) (T i) p')(e:m' 0=m 0∧m' 1=m 1∧m' 2=(W+1)%4294967296):X4k base n b (ps.set i p') m' U R (W+1) T:=by
 have s1:=Q0l (f:=tfT) (d:=tfK.idle 0) (x:=p') (l:=ps) (i:=i) (by omega)
 have s2:=Q0l (f:=tfD) (d:=tfK.idle 0) (x:=p') (l:=ps) (i:=i) (by omega)
 have s3:=Q0m (d:=tfK.idle 0) X1c (l:=ps) (i:=i) (by omega)
 rw[hp]at s1 s2 s3
 have hnd:=H.nd
 have hT: ∀j,tfT ((ps.set i p').getD j (tfK.idle 0))=tfT (ps.getD j (tfK.idle 0)):=fun j=>by
  rw[Q4X hl hi]
  split
  ·rename_i e;subst e;rw[hp,ht]
  ·rfl
 refine⟨e.1.trans H.m0,e.2.1.trans H.m1,e.2.2,by have:=H.lo;omega,by omega,H.ru,by have:=H.hi;omega,by have:=H.nt;omega,by omega,fun j hj h=>H.rng j hj (by rw[←hT];exact h),fun j k hj hk hjk h1 h2=>H.inj j k hj hk hjk (by rw[←hT];exact h1) (by rw[←hT];exact h2),fun t h1 h2=> ?_,fun j hj=> ?_⟩
 ·obtain⟨j,g1,g2,g3⟩:=H.sur t h1 h2
  exact⟨j,g1,by rw[hT];exact g2,g3⟩
 ·rw[Q4X hl hi]
  by_cases e1:i=j
  ·subst e1;rw[if_pos rfl];exact ha
  ·rw[if_neg e1]
   have s4:=X3g (d:=tfK.idle 0) X1c (l:=ps) (i:=i) (j:=j) (by omega) (by omega) e1
   rw[hp,hd0]at s4
   have hj:=H.at_ j hj
   generalize ps.getD j (tfK.idle 0)=q at hj s4
   cases q<;>simp only[X0k,tfD]at hj s4⊢
   case idle h=>
    rcases hj with h1|h1|⟨h1,h3,h4⟩
    ·exact Or.inl h1
    ·exact Or.inr (Or.inl h1)
    ·omega
   all_goals first|exact hj|(exfalso;omega)|(obtain⟨u,k1,k2,k3⟩:=hj;exact⟨u,k1,k2,k3⟩)|(obtain⟨u,k1,k2,k3,k4⟩:=hj;exact⟨u,k1,k2,k3,by omega⟩)
end
theorem Q6d{x y:Int}(h: -1073741824≤x-y∧x-y≤1073741824):Q1s (x%4294967296) (y%4294967296)=x-y:=by
 unfold Q1s
 omega
theorem X4y(m:Nat→Int)(v:Int):(written m (some (0,v)) 0=v∧written m (some (0,v)) 1=m 1∧written m (some (0,v)) 2=m 2)∧(written m (some (1,v)) 0=m 0∧written m (some (1,v)) 1=v∧written m (some (1,v)) 2=m 2)∧(written m (some (2,v)) 0=m 0∧written m (some (2,v)) 1=m 1∧written m (some (2,v)) 2=v):=by
 simp[written,upd]
theorem Y3e{base:Int}{n b:Nat}{ps:List TfP}{m:Nat→Int}{U R W:Int}{T:Nat→Int}(h1:n≤64)(h2:ps.length=n)(H:X4k base n b ps m U R W T):tfI base n b ps m:=⟨h1,h2,U,R,W,T,H⟩
theorem Y0b(base:Int)(n:Nat):tfK.Q5D n (tfI base n):=by
 refine⟨fun b ps m H=> ?_,fun b ps m i _ _ _=>trivial,fun b ps m i op h H hi hl hp hm=> ?_,fun b ps m i H hi hl hw hop=> ?_,fun b ps m i c pr H hi hl hw hpr=> ?_,fun b ps m i j c pr H hi hj hij hl hw hop hwj hpr=> ?_⟩
 ·obtain⟨h1,h2,U,R,W,T,H⟩:=H
  exact⟨h1,h2,U,R,W,T,H.m0,H.m1,H.m2,H.lo,H.wr,H.ru,by have:=H.hi;omega,H.nt,H.nd,H.rng,H.inj,H.sur,H.at_⟩
 ·obtain⟨h1,h2,U,R,W,T,H⟩:=H
  have ha:=H.at_ i hi
  rw[hp]at ha
  have ha:h=0∨h=1∨(h=2∧T i=R∧W=R):=ha
  have key:tfT (tfK.start op h)=tfT (tfK.idle h)∧tfD (tfK.start op h)=tfD (tfK.idle h)∧X0k base U R W (T i) (tfK.start op h):=by
   rcases Q2L hm with⟨rfl,rfl|rfl|rfl|rfl⟩|⟨rfl,rfl|rfl⟩|⟨g1,g2,rfl|rfl⟩<;>simp[tfK,Q8k,tfT,tfD,X0k]<;>omega
  exact Y3e h1 (by simpa using h2) (H.same hl hi hp key.1 key.2.1 key.2.2 ⟨rfl,rfl,rfl⟩)
 ·obtain⟨h1,h2,U,R,W,T,H⟩:=H
  have ha:=H.at_ i hi
  have hrg:=H.rng i hi
  have hact:tfK.act i (ps.getD i (tfK.idle 0)) m=Q1R (m 0) (m 1) (m 2) (ps.getD i (tfK.idle 0)):=rfl
  rw[hact]
  obtain⟨p,hp⟩: ∃p,ps.getD i (tfK.idle 0)=p:=⟨_,rfl⟩
  rw[hp]at ha hrg hw hop⊢
  have hl2: ∀q,(ps.set i q).length=n:=fun q=>by simpa using h2
  have m0:=H.m0
  have m1:=H.m1
  have m2:=H.m2
  have lo:=H.lo
  have wr:=H.wr
  have ru:=H.ru
  have hhi:=H.hi
  have nd:=H.nd
  have d1:=Q0m (d:=tfK.idle 0) X1c (l:=ps) (i:=i) (by omega)
  rw[hp]at d1
  have w0:=fun v=>(X4y m v).1
  have w1:=fun v=>(X4y m v).2.1
  have w2:=fun v=>(X4y m v).2.2
  have nowr: ∀q,tfT q=tfT p→tfD q=tfD p→X0k base U R W (T i) q→tfI base n b (ps.set i q) m:=fun q g1 g2 g3=>Y3e h1 (hl2 q) (H.same hl hi hp g1 g2 g3 ⟨rfl,rfl,rfl⟩)
  have taken: ∀q v,v=(U+1)%4294967296→tfT p=0→tfT q=1→tfD q=tfD p→X0k base (U+1) R W U q→tfI base n b (ps.set i q) (written m (some (0,v))):=fun q v g0 g1 g2 g3 g4=>by
   obtain⟨T',H'⟩:=H.take hl hi hp g1 g2 g3 g4 (m':=written m (some (0,v))) (by obtain⟨k0,k1,k2⟩:=w0 v;exact⟨k0.trans g0,k1,k2⟩)
   exact Y3e h1 (hl2 q) H'
  have turned: ∀q v,v=(R+1)%4294967296→tfT p=1→T i=R→tfT q=0→tfD q=tfD p+1→X0k base U (R+1) W (T i) q→tfI base n b (ps.set i q) (written m (some (1,v))):=fun q v g0 g1 g2 g3 g4 g5=>
   Y3e h1 (hl2 q) (H.turn hl hi hp g1 g2 g3 g4 g5 (by obtain⟨k0,k1,k2⟩:=w1 v;exact⟨k0,k1.trans g0,k2⟩))
  have gone: ∀q v,v=(W+1)%4294967296→tfT q=tfT p→tfD p=1→tfD q=0→X0k base U R (W+1) (T i) q→tfI base n b (ps.set i q) (written m (some (2,v))):=fun q v g0 g1 g2 g3 g4=>
   Y3e h1 (hl2 q) (H.goes hl hi hp g1 g2 g3 g4 (by obtain⟨k0,k1,k2⟩:=w2 v;exact⟨k0,k1,k2.trans g0⟩))
  have e0:(m 0+1)%4294967296=(U+1)%4294967296:=by rw[m0];omega
  have e1:(m 1+1)%4294967296=(R+1)%4294967296:=by rw[m1];omega
  have e2:(m 2+1)%4294967296=(W+1)%4294967296:=by rw[m2];omega
  cases p<;>simp[tfK,Q3s]at hw<;>simp[tfK,Q2o,Q4d,Fr.zero]at hop<;>simp only[X0k]at ha<;>simp only[tfT]at hrg<;>simp only[tfD]at d1<;>simp only[Q1R]
  case r0=>exact taken _ _ e0 rfl rfl rfl m0
  case r2 a=>exact turned _ _ e1 rfl ha rfl rfl (Or.inr (Or.inl rfl))
  case u0=>exact gone _ _ e2 rfl rfl rfl (Or.inl rfl)
  case l0=>exact taken _ _ e0 rfl rfl rfl m0
  case v0=>exact turned _ _ e1 rfl ha.1 rfl rfl trivial
  case v1=>exact gone _ _ e2 rfl rfl rfl (Or.inl rfl)
  case d0=>exact turned _ _ e1 rfl ha.1 rfl rfl (Or.inr (Or.inl rfl))
  case q0 a b'=>exact nowr _ rfl rfl ⟨U,by omega,by omega,m0⟩
  case y0 a b'=>exact nowr _ rfl rfl ⟨U,by omega,by omega,m0⟩
  case z0 a b'=>exact nowr _ rfl rfl ⟨U,by omega,by omega,m0⟩
  case q1 a b'=>
   obtain⟨u,u1,u2,u3⟩:=ha
   have hah:Q1s a (m 1)=u-R:=by rw[u3,m1];exact Q6d (by omega)
   rw[hah]
   split
   ·exact nowr _ rfl rfl (Or.inl rfl)
   split
   ·exact nowr _ rfl rfl trivial
   ·exact nowr _ rfl rfl ⟨u,u1,u2,u3,by omega⟩
  case y1 a b'=>
   obtain⟨u,u1,u2,u3⟩:=ha
   have hah:Q1s a (m 2)=u-W:=by rw[u3,m2];exact Q6d (by omega)
   rw[hah]
   split
   ·exact nowr _ rfl rfl (Or.inl rfl)
   split
   ·exact nowr _ rfl rfl trivial
   ·exact nowr _ rfl rfl ⟨u,u1,u2,u3,by omega⟩
  case z1 a b'=>
   obtain⟨u,u1,u2,u3⟩:=ha
   have hah:Q1s a (m 2)=u-W:=by rw[u3,m2];exact Q6d (by omega)
   rw[hah]
   split
   ·exact nowr _ rfl rfl (Or.inr (Or.inl rfl))
   split
   ·exact nowr _ rfl rfl trivial
   ·exact nowr _ rfl rfl ⟨u,u1,u2,u3,by omega⟩
  case q2 a b'=>
   obtain⟨u,u1,u2,u3,u4⟩:=ha
   by_cases hq:m 0=a
   ·rw[if_pos hq]
    have hU:U=u:=by omega
    exact taken _ _ (by rw[←hq];exact e0) rfl rfl rfl (show U=R by omega)
   ·rw[if_neg hq]
    exact nowr _ rfl rfl trivial
  case y2 a b'=>
   obtain⟨u,u1,u2,u3,u4⟩:=ha
   by_cases hq:m 0=a
   ·rw[if_pos hq]
    have hU:U=u:=by omega
    exact taken _ _ (by rw[←hq];exact e0) rfl rfl rfl (Or.inr (Or.inr ⟨rfl,by omega,by omega⟩))
   ·rw[if_neg hq]
    exact nowr _ rfl rfl trivial
  case z2 a b'=>
   obtain⟨u,u1,u2,u3,u4⟩:=ha
   by_cases hq:m 0=a
   ·rw[if_pos hq]
    have hU:U=u:=by omega
    exact taken _ _ (by rw[←hq];exact e0) rfl rfl rfl (show U=R∧W=R-1 by omega)
   ·rw[if_neg hq]
    exact nowr _ rfl rfl trivial
  case q3 a b'=>exact turned _ _ e1 rfl ha rfl rfl (Or.inr (Or.inl rfl))
  case z3 a b'=>exact gone _ _ e2 rfl rfl rfl (Or.inr (Or.inr ⟨rfl,ha.1,by omega⟩))
 ·obtain⟨h1,h2,U,R,W,T,H⟩:=H
  have ha:=H.at_ i hi
  have hrg:=H.rng i hi
  have hpost:tfK.post (ps.getD i (tfK.idle 0)) (m c)=Q6l (ps.getD i (tfK.idle 0)):=rfl
  rw[hpost]
  obtain⟨p,hp⟩: ∃p,ps.getD i (tfK.idle 0)=p:=⟨_,rfl⟩
  rw[hp]at ha hrg hw⊢
  have m1:=H.m1
  have m2:=H.m2
  have lo:=H.lo
  have wr:=H.wr
  have ru:=H.ru
  have hhi:=H.hi
  cases p<;>simp[tfK,Q3s]at hw<;>simp only[X0k]at ha<;>simp only[tfT]at hrg
  case r1 a=>
   obtain⟨rfl,rfl⟩:=hw
   have hq:m 1=a:=by simpa using hpr
   have hr:=hrg trivial
   exact Y3e h1 (by simpa using h2) (H.same hl hi hp rfl rfl (show T i=R by omega) ⟨rfl,rfl,rfl⟩)
  case l1 a=>
   obtain⟨rfl,rfl⟩:=hw
   have hq:m 2=a:=by simpa using hpr
   have hr:=hrg trivial
   exact Y3e h1 (by simpa using h2) (H.same hl hi hp rfl rfl (Or.inr (Or.inr ⟨rfl,by omega,by omega⟩)) ⟨rfl,rfl,rfl⟩)
 ·obtain⟨h1,h2,U,R,W,T,H⟩:=H
  have hact:tfK.act i (ps.getD i (tfK.idle 0)) m=Q1R (m 0) (m 1) (m 2) (ps.getD i (tfK.idle 0)):=rfl
  rw[hact]at hpr⊢
  have hai:=H.at_ i hi
  have haj:=H.at_ j hj
  have hin:=H.inj i j hi hj hij
  have hrj:=H.rng j hj
  obtain⟨p,hp⟩: ∃p,ps.getD i (tfK.idle 0)=p:=⟨_,rfl⟩
  obtain⟨q,hq⟩: ∃q,ps.getD j (tfK.idle 0)=q:=⟨_,rfl⟩
  rw[hp]at hai hin hw hop hpr⊢
  rw[hq]at haj hin hrj hwj
  have w0:=fun v=>(X4y m v).1
  have w1:=fun v=>(X4y m v).2.1
  have w2:=fun v=>(X4y m v).2.2
  have m2:=H.m2
  have lo:=H.lo
  have wr:=H.wr
  have ru:=H.ru
  have hhi:=H.hi
  have hc:(c=1∧ ∃a,q= .r1 a∧pr=(fun v=>v==a))∨(c=2∧ ∃a,q= .l1 a∧pr=(fun v=>v==a)):=by
   cases q<;>simp[tfK,Q3s]at hwj
   case r1 a=>exact Or.inl ⟨hwj.1.symm,a,rfl,hwj.2.symm⟩
   case l1 a=>exact Or.inr ⟨hwj.1.symm,a,rfl,hwj.2.symm⟩
  have keep: ∀w,(Q1R (m 0) (m 1) (m 2) p).2.1=w→written m w c=m c→pr (m c)=true∨(Q1R (m 0) (m 1) (m 2) p).2.2=some c:=fun w g1 g2=>Or.inl (by rw[←g2,←g1];exact hpr)
  have other: ∀c0 v,(Q1R (m 0) (m 1) (m 2) p).2.1=some (c0,v)→c≠c0→pr (m c)=true∨(Q1R (m 0) (m 1) (m 2) p).2.2=some c:=fun c0 v g1 g2=>keep _ g1 (by simp[written,upd,g2])
  cases p<;>simp[tfK,Q3s]at hw<;>simp[tfK,Q2o,Q4d,Fr.zero]at hop<;>simp only[X0k]at hai
  case r0=>exact other 0 _ rfl (by omega)
  case l0=>exact other 0 _ rfl (by omega)
  case r2 a=>rcases hc with⟨rfl,_⟩|⟨rfl,_⟩;exact Or.inr rfl;exact other 1 _ rfl (by decide)
  case v0=>rcases hc with⟨rfl,_⟩|⟨rfl,_⟩;exact Or.inr rfl;exact other 1 _ rfl (by decide)
  case d0=>rcases hc with⟨rfl,_⟩|⟨rfl,_⟩;exact Or.inr rfl;exact other 1 _ rfl (by decide)
  case q3 a b'=>rcases hc with⟨rfl,_⟩|⟨rfl,_⟩;exact Or.inr rfl;exact other 1 _ rfl (by decide)
  case u0=>rcases hc with⟨rfl,_⟩|⟨rfl,_⟩;exact other 2 _ rfl (by decide);exact Or.inr rfl
  case v1=>rcases hc with⟨rfl,_⟩|⟨rfl,_⟩;exact other 2 _ rfl (by decide);exact Or.inr rfl
  case q0 a b'=>exact keep none rfl rfl
  case y0 a b'=>exact keep none rfl rfl
  case z0 a b'=>exact keep none rfl rfl
  case q1 a b'=>exact keep none rfl rfl
  case y1 a b'=>exact keep none rfl rfl
  case z1 a b'=>exact keep none rfl rfl
  case q2 a b'=>
   by_cases hq:m 0=a
   ·exact other 0 _ (by simp only[Q1R,if_pos hq];rfl) (by omega)
   ·exact keep none (by simp only[Q1R,if_neg hq]) rfl
  case y2 a b'=>
   by_cases hq:m 0=a
   ·exact other 0 _ (by simp only[Q1R,if_pos hq];rfl) (by omega)
   ·exact keep none (by simp only[Q1R,if_neg hq]) rfl
  case z2 a b'=>
   by_cases hq:m 0=a
   ·exact other 0 _ (by simp only[Q1R,if_pos hq];rfl) (by omega)
   ·exact keep none (by simp only[Q1R,if_neg hq]) rfl
  case z3 a b'=>
   rcases hc with⟨rfl,_⟩|⟨rfl,a',rfl,rfl⟩
   ·exact other 2 _ rfl (by decide)
   ·exfalso
    simp only[Q1R,(w2 _).2.2]at hpr
    have hv:(m 2+1)%4294967296=a':=by simpa using hpr
    simp only[tfT,X0k]at hin hrj haj
    have g1:=hin trivial trivial
    have g2:=hrj trivial
    omega
end Go.Proofs.YthnimpkoidablaaGreat.Z
