import Derived.Test.YthnimpkoidablaaGreatZB03
set_option linter.unusedVariables false
set_option linter.unusedSimpArgs false
set_option maxHeartbeats 6400000
namespace Go.Proofs.YthnimpkoidablaaGreat.Z
open Go.RowKit
inductive PfP
 |idle (h:Int)
 |r0
 |r1 (a:Int)
 |u0
 |q0 (a:Int)
 |q1 (a:Int)
 |l0
 |l1 (a:Int)
 |l2 (a:Int)
 |l3 (a:Int) (b:Int)
 |l4 (a:Int) (b:Int)
 |v0
 |v1 (b:Int)
 |v2 (b:Int)
 |v3 (b:Int)
 |d0
 |d1 (b:Int)
 |d2 (b:Int)
 |d3 (b:Int)
 |y0 (a:Int) (b:Int)
 |y1 (a:Int) (b:Int)
 |y2 (a:Int) (b:Int)
 |y3 (a:Int) (b:Int)
 |y4 (a:Int) (b:Int)
 |y5 (a:Int) (b:Int)
 |y6 (a:Int) (b:Int)
 |y7 (a:Int) (b:Int)
 |y9 (a:Int) (b:Int)
 |z0 (a:Int) (b:Int)
 |z1 (a:Int) (b:Int)
 |z2 (a:Int) (b:Int)
 |z3 (a:Int) (b:Int)
 |z4 (a:Int) (b:Int)
 |z5 (a:Int) (b:Int)
 |z6 (a:Int) (b:Int)
 |z7 (a:Int) (b:Int)
 |z8 (a:Int) (b:Int)
 |z9 (a:Int) (b:Int)
def Q2G(op line a b:Int):Fr:=⟨op,line,a,b,0,Wk.zero,0⟩
def Q1v:PfP→Fr×Int
 |.idle h=>(Fr.zero,h)
 |.r0=>(Q2G 1 0 0 0,0)
 |.r1 a=>(Q2G 1 1 a 0,0)
 |.u0=>(Q2G 2 0 0 0,0)
 |.q0 a=>(Q2G 5 0 a 0,0)
 |.q1 a=>(Q2G 5 1 a 0,0)
 |.l0=>(Q2G 3 0 0 0,0)
 |.l1 a=>(Q2G 3 1 a 0,0)
 |.l2 a=>(Q2G 3 2 a 0,0)
 |.l3 a b=>(Q2G 3 3 a b,0)
 |.l4 a b=>(Q2G 3 4 a b,0)
 |.v0=>(Q2G 4 0 0 0,0)
 |.v1 b=>(Q2G 4 1 0 b,0)
 |.v2 b=>(Q2G 4 2 0 b,0)
 |.v3 b=>(Q2G 4 3 0 b,0)
 |.d0=>(Q2G 8 0 0 0,1)
 |.d1 b=>(Q2G 8 1 0 b,1)
 |.d2 b=>(Q2G 8 2 0 b,1)
 |.d3 b=>(Q2G 8 3 0 b,1)
 |.y0 a b=>(Q2G 6 0 a b,0)
 |.y1 a b=>(Q2G 6 1 a b,0)
 |.y2 a b=>(Q2G 6 2 a b,0)
 |.y3 a b=>(Q2G 6 3 a b,0)
 |.y4 a b=>(Q2G 6 4 a b,0)
 |.y5 a b=>(Q2G 6 5 a b,0)
 |.y6 a b=>(Q2G 6 6 a b,0)
 |.y7 a b=>(Q2G 6 7 a b,0)
 |.y9 a b=>(Q2G 6 9 a b,0)
 |.z0 a b=>(Q2G 7 0 a b,1)
 |.z1 a b=>(Q2G 7 1 a b,1)
 |.z2 a b=>(Q2G 7 2 a b,1)
 |.z3 a b=>(Q2G 7 3 a b,1)
 |.z4 a b=>(Q2G 7 4 a b,1)
 |.z5 a b=>(Q2G 7 5 a b,1)
 |.z6 a b=>(Q2G 7 6 a b,1)
 |.z7 a b=>(Q2G 7 7 a b,1)
 |.z8 a b=>(Q2G 7 8 a b,1)
 |.z9 a b=>(Q2G 7 9 a b,1)
def Q3I:PfP→Option (Nat×(Int→Bool))
 |.r1 a=>some (0,fun v=>v%4 !=a%4)
 |.l1 a=>some (3,fun v=>v==a)
 |.l4 a b=>some (1,fun v=>v==a)
 |.y7 a b=>some (1,fun v=>v==a)
 |.z7 a b=>some (1,fun v=>v==(a-256)%4294967296)
 |_=>none
def Q4E:PfP→PfP
 |.r1 _=> .idle 1
 |.l1 a=> .l2 a
 |.l4 _ _=> .idle 2
 |.y7 _ _=> .idle 2
 |.z7 a b=> .z8 a b
 |p=>p
def Q5O:PfP→Int
 |.r1 a=>a
 |.l1 a=>a
 |.l4 a _=>a
 |.y7 a _=>a
 |.z7 a _=>a
 |_=>0
def Q1z(x0 x1 x2 x3 x4:Int):PfP→PfP×Option (Nat×Int)×Option Nat
 |.r0=>(if x0%4=0 then .idle 1 else .r1 x0,some (0,(x0+256)%4294967296),none)
 |.u0=>(.idle 0,some (1,(x1+256)%4294967296),some 1)
 |.q0 _=>(if x0%4=0 then .q1 x0 else .idle 0,none,none)
 |.q1 a=>if x0=a then(.idle 1,some (0,(a+256)%4294967296),none)else(.q0 a,none,none)
 |.l0=>(.l1 x2,some (2,(x2+1)%4294967296),none)
 |.l2 a=>(.l3 a x4,none,none)
 |.l3 _ b=>(.l4 x0 b,some (0,(x0+pfP b)%4294967296),none)
 |.v0=>(.v1 x4,none,none)
 |.v1 b=>(.v2 b,some (0,(x0+ -pfP b%4294967296)%4294967296),some 0)
 |.v2 b=>(.v3 b,some (4,(b+1)%4294967296),none)
 |.v3 _=>(.idle 0,some (3,(x3+1)%4294967296),some 3)
 |.d0=>(.d1 x4,none,none)
 |.d1 b=>(.d2 b,some (0,(x0+(256-pfP b)%4294967296)%4294967296),some 0)
 |.d2 b=>(.d3 b,some (4,(b+1)%4294967296),none)
 |.d3 _=>(.idle 1,some (3,(x3+1)%4294967296),some 3)
 |.y0 _ b=>(.y1 x2 b,none,none)
 |.y1 a _=>(if 0<Q1s a x3 then .idle 0 else if Q1s a x3<0 then .y0 a x3 else .y2 a x3,none,none)
 |.y2 a b=>if x2=a then(.y3 a b,some (2,(a+1)%4294967296),none)else(.y0 a b,none,none)
 |.y3 _ b=>(.y4 x0 b,none,none)
 |.y4 a _=>(if 0<Q1s a x1 then .y9 a x1 else .y5 a x1,none,none)
 |.y5 a _=>(.y6 a x4,none,none)
 |.y6 _ b=>(.y7 x0 b,some (0,(x0+pfP b)%4294967296),none)
 |.y9 _ _=>(.idle 0,some (3,(x3+1)%4294967296),some 3)
 |.z0 _ b=>(.z1 x2 b,none,none)
 |.z1 a _=>(if 0<Q1s a x3 then .idle 1 else if Q1s a x3<0 then .z0 a x3 else .z2 a x3,none,none)
 |.z2 a b=>if x2=a then(.z3 a b,some (2,(a+1)%4294967296),none)else(.z0 a b,none,none)
 |.z3 _ b=>(.z4 x0 b,none,none)
 |.z4 a _=>(if 256<Q1s a x1 then .z9 a x1 else .z5 a x1,none,none)
 |.z5 a _=>(.z6 a x4,none,none)
 |.z6 _ b=>(.z7 x0 b,some (0,(x0+pfP b)%4294967296),none)
 |.z9 _ _=>(.idle 1,some (3,(x3+1)%4294967296),some 3)
 |.z8 _ _=>(.idle 2,some (1,(x1+256)%4294967296),none)
 |p=>(p,none,none)
def X0v(op h:Int):PfP:=if op=1 then .r0 else if op=2 then .u0 else if op=3 then .l0 else if op=4 then .v0 else if op=5 then .q0 0 else if op=6 then .y0 0 0 else if op=7 then .z0 0 0 else .d0
def pfK:Q3D PfP:=⟨pfA,Q1v,fun p v=>Q5O p,fun _ p=>Q3I p,fun p v=>Q4E p,fun _ p m=>Q1z (m 0) (m 1) (m 2) (m 3) (m 4) p, .idle,X0v,fun _=>True⟩
theorem Y3T(n:Nat)(mode:Int):pfK.Good n mode:=by
 refine⟨fun p=>by cases p<;>exact⟨rfl,rfl,rfl⟩,fun h=>rfl,fun p hp=> ?_,fun p hp=> ?_,fun t p c pr hw=> ?_,fun op h hm=> ?_,fun t op h hm=> ?_,fun t p c pr _ _ hw=> ?_,fun t p c pr v hw hh=> ?_,fun p t s hok ht hw hop hn hmd htk hf hl=> ?_,fun p t c pr st s hok ht hw h0 h3 hn hmd htk hf hl=> ?_,fun p t c pr v s hok ht hm2 hw hpr hn hmd htk hf hl=> ?_⟩
 ·cases p<;>first|rfl|(simp[pfK,Q1v,Q2G]at hp)
 ·cases p<;>first|(simp[pfK,Q1v,Q2G]at hp;done)|(simp[pfK,Q1v,Q2G]at hp;rw[hp];rfl)
 ·cases p<;>simp[pfK,Q3I]at hw<;>simp[pfK,Q1v,Q2G]
 ·rcases Q2L hm with⟨rfl,rfl|rfl|rfl|rfl⟩|⟨rfl,rfl|rfl⟩|⟨_,_,rfl|rfl⟩<;>simp[X0v,pfK,Q1v,Q2G,Q4h,Q0w]
 ·rcases Q2L hm with⟨rfl,rfl|rfl|rfl|rfl⟩|⟨rfl,rfl|rfl⟩|⟨_,_,rfl|rfl⟩<;>simp[pfK,X0v,Q3I]
 ·cases p<;>simp[pfK,Q3I]at hw<;>omega
 ·cases p<;>simp[pfK,Q3I]at hw<;>simp[Q4E,pfK,Q1v,Q2G]at hh⊢
 ·obtain⟨sn,sm,st,f,acc,notes,L⟩:=s
  simp only at hn hmd htk hf hl
  subst hn hmd htk hf
  have l0:=Q6f (n:=n) (L:=L) (c:=0) hl (by decide) (by omega)
  have a0:=fun x=>Q7B (n:=n) (L:=L) (c:=0) (x:=x) hl (by decide) (by omega)
  have s0:=fun x=>Q3Y (n:=n) (L:=L) (c:=0) (x:=x) hl (by decide) (by omega)
  have c0:=fun x y=>Q4T (n:=n) (L:=L) (c:=0) (x:=x) (y:=y) hl (by decide) (by omega)
  have d0:=fun x y=>Q3Z (n:=n) (L:=L) (c:=0) (x:=x) (y:=y) hl (by decide) (by omega)
  simp only[show(0:Int).toNat=0 from rfl]at l0 a0 s0 c0 d0
  have l1:=Q6f (n:=n) (L:=L) (c:=1) hl (by decide) (by omega)
  have a1:=fun x=>Q7B (n:=n) (L:=L) (c:=1) (x:=x) hl (by decide) (by omega)
  have s1:=fun x=>Q3Y (n:=n) (L:=L) (c:=1) (x:=x) hl (by decide) (by omega)
  have c1:=fun x y=>Q4T (n:=n) (L:=L) (c:=1) (x:=x) (y:=y) hl (by decide) (by omega)
  have d1:=fun x y=>Q3Z (n:=n) (L:=L) (c:=1) (x:=x) (y:=y) hl (by decide) (by omega)
  simp only[show(1:Int).toNat=1 from rfl]at l1 a1 s1 c1 d1
  have l2:=Q6f (n:=n) (L:=L) (c:=2) hl (by decide) (by omega)
  have a2:=fun x=>Q7B (n:=n) (L:=L) (c:=2) (x:=x) hl (by decide) (by omega)
  have s2:=fun x=>Q3Y (n:=n) (L:=L) (c:=2) (x:=x) hl (by decide) (by omega)
  have c2:=fun x y=>Q4T (n:=n) (L:=L) (c:=2) (x:=x) (y:=y) hl (by decide) (by omega)
  have d2:=fun x y=>Q3Z (n:=n) (L:=L) (c:=2) (x:=x) (y:=y) hl (by decide) (by omega)
  simp only[show(2:Int).toNat=2 from rfl]at l2 a2 s2 c2 d2
  have l3:=Q6f (n:=n) (L:=L) (c:=3) hl (by decide) (by omega)
  have a3:=fun x=>Q7B (n:=n) (L:=L) (c:=3) (x:=x) hl (by decide) (by omega)
  have s3:=fun x=>Q3Y (n:=n) (L:=L) (c:=3) (x:=x) hl (by decide) (by omega)
  have c3:=fun x y=>Q4T (n:=n) (L:=L) (c:=3) (x:=x) (y:=y) hl (by decide) (by omega)
  have d3:=fun x y=>Q3Z (n:=n) (L:=L) (c:=3) (x:=x) (y:=y) hl (by decide) (by omega)
  simp only[show(3:Int).toNat=3 from rfl]at l3 a3 s3 c3 d3
  have l4:=Q6f (n:=n) (L:=L) (c:=4) hl (by decide) (by omega)
  have a4:=fun x=>Q7B (n:=n) (L:=L) (c:=4) (x:=x) hl (by decide) (by omega)
  have s4:=fun x=>Q3Y (n:=n) (L:=L) (c:=4) (x:=x) hl (by decide) (by omega)
  have c4:=fun x y=>Q4T (n:=n) (L:=L) (c:=4) (x:=x) (y:=y) hl (by decide) (by omega)
  have d4:=fun x y=>Q3Z (n:=n) (L:=L) (c:=4) (x:=x) (y:=y) hl (by decide) (by omega)
  simp only[show(4:Int).toNat=4 from rfl]at l4 a4 s4 c4 d4
  show X3e pfK n p (Q1z (Q0j n L 0) (Q0j n L 1) (Q0j n L 2) (Q0j n L 3) (Q0j n L 4) p) _ _
  generalize Q0j n L 0=x0 at l0 a0 s0 c0 d0
  generalize Q0j n L 1=x1 at l1 a1 s1 c1 d1
  generalize Q0j n L 2=x2 at l2 a2 s2 c2 d2
  generalize Q0j n L 3=x3 at l3 a3 s3 c3 d3
  generalize Q0j n L 4=x4 at l4 a4 s4 c4 d4
  cases p<;>simp[pfK,Q3I]at hw<;>simp[pfK,Q1v,Q2G,Fr.zero]at hop
  case r0=>by_cases q0:x0%4=0<;>constructor<;>simp[pfK,Q1v,Q2G,pfA,Q1z,Rn.fresh,Rn.did,Rn.Q0h,Rn.setB,Rn.note,Rn.goto,Rn.Q0d,Rn.fin,Rn.wake,Q0e,Q0o,Q0c,Q1f,q0,X5t,l0,a0,s0,c0,d0,l1,a1,s1,c1,d1,l2,a2,s2,c2,d2,l3,a3,s3,c3,d3,l4,a4,s4,c4,d4]<;>omega
  case u0=>constructor<;>simp[pfK,Q1v,Q2G,pfA,Q1z,Rn.fresh,Rn.did,Rn.Q0h,Rn.setB,Rn.note,Rn.goto,Rn.Q0d,Rn.fin,Rn.wake,Q0e,Q0o,Q0c,Q1f,X5q,l0,a0,s0,c0,d0,l1,a1,s1,c1,d1,l2,a2,s2,c2,d2,l3,a3,s3,c3,d3,l4,a4,s4,c4,d4]<;>omega
  case q0 a=>by_cases q0:x0%4=0<;>constructor<;>simp[pfK,Q1v,Q2G,pfA,Q1z,Rn.fresh,Rn.did,Rn.Q0h,Rn.setB,Rn.note,Rn.goto,Rn.Q0d,Rn.fin,Rn.wake,Q0e,Q0o,Q0c,Q1f,q0,X5o,l0,a0,s0,c0,d0,l1,a1,s1,c1,d1,l2,a2,s2,c2,d2,l3,a3,s3,c3,d3,l4,a4,s4,c4,d4]<;>omega
  case q1 a=>by_cases q0:x0=a<;>constructor<;>simp[pfK,Q1v,Q2G,pfA,Q1z,Rn.fresh,Rn.did,Rn.Q0h,Rn.setB,Rn.note,Rn.goto,Rn.Q0d,Rn.fin,Rn.wake,Q0e,Q0o,Q0c,Q1f,q0,X5m,l0,a0,s0,c0,d0,l1,a1,s1,c1,d1,l2,a2,s2,c2,d2,l3,a3,s3,c3,d3,l4,a4,s4,c4,d4]<;>omega
  case l0=>constructor<;>simp[pfK,Q1v,Q2G,pfA,Q1z,Rn.fresh,Rn.did,Rn.Q0h,Rn.setB,Rn.note,Rn.goto,Rn.Q0d,Rn.fin,Rn.wake,Q0e,Q0o,Q0c,Q1f,Y5x,l0,a0,s0,c0,d0,l1,a1,s1,c1,d1,l2,a2,s2,c2,d2,l3,a3,s3,c3,d3,l4,a4,s4,c4,d4]<;>omega
  case l2 a=>constructor<;>simp[pfK,Q1v,Q2G,pfA,Q1z,Rn.fresh,Rn.did,Rn.Q0h,Rn.setB,Rn.note,Rn.goto,Rn.Q0d,Rn.fin,Rn.wake,Q0e,Q0o,Q0c,Q1f,Y5w,l0,a0,s0,c0,d0,l1,a1,s1,c1,d1,l2,a2,s2,c2,d2,l3,a3,s3,c3,d3,l4,a4,s4,c4,d4]<;>omega
  case l3 a b=>constructor<;>simp[pfK,Q1v,Q2G,pfA,Q1z,Rn.fresh,Rn.did,Rn.Q0h,Rn.setB,Rn.note,Rn.goto,Rn.Q0d,Rn.fin,Rn.wake,Q0e,Q0o,Q0c,Q1f,Y5v,l0,a0,s0,c0,d0,l1,a1,s1,c1,d1,l2,a2,s2,c2,d2,l3,a3,s3,c3,d3,l4,a4,s4,c4,d4]<;>omega
  case v0=>constructor<;>simp[pfK,Q1v,Q2G,pfA,Q1z,Rn.fresh,Rn.did,Rn.Q0h,Rn.setB,Rn.note,Rn.goto,Rn.Q0d,Rn.fin,Rn.wake,Q0e,Q0o,Q0c,Q1f,Y5u,l0,a0,s0,c0,d0,l1,a1,s1,c1,d1,l2,a2,s2,c2,d2,l3,a3,s3,c3,d3,l4,a4,s4,c4,d4]<;>omega
  case v1 b=>constructor<;>simp[pfK,Q1v,Q2G,pfA,Q1z,Rn.fresh,Rn.did,Rn.Q0h,Rn.setB,Rn.note,Rn.goto,Rn.Q0d,Rn.fin,Rn.wake,Q0e,Q0o,Q0c,Q1f,Y5t,l0,a0,s0,c0,d0,l1,a1,s1,c1,d1,l2,a2,s2,c2,d2,l3,a3,s3,c3,d3,l4,a4,s4,c4,d4]<;>omega
  case v2 b=>constructor<;>simp[pfK,Q1v,Q2G,pfA,Q1z,Rn.fresh,Rn.did,Rn.Q0h,Rn.setB,Rn.note,Rn.goto,Rn.Q0d,Rn.fin,Rn.wake,Q0e,Q0o,Q0c,Q1f,Y5s,l0,a0,s0,c0,d0,l1,a1,s1,c1,d1,l2,a2,s2,c2,d2,l3,a3,s3,c3,d3,l4,a4,s4,c4,d4]<;>omega
  case v3 b=>constructor<;>simp[pfK,Q1v,Q2G,pfA,Q1z,Rn.fresh,Rn.did,Rn.Q0h,Rn.setB,Rn.note,Rn.goto,Rn.Q0d,Rn.fin,Rn.wake,Q0e,Q0o,Q0c,Q1f,Y5r,Rn.Q0E,l0,a0,s0,c0,d0,l1,a1,s1,c1,d1,l2,a2,s2,c2,d2,l3,a3,s3,c3,d3,l4,a4,s4,c4,d4]<;>omega
  case d0=>constructor<;>simp[pfK,Q1v,Q2G,pfA,Q1z,Rn.fresh,Rn.did,Rn.Q0h,Rn.setB,Rn.note,Rn.goto,Rn.Q0d,Rn.fin,Rn.wake,Q0e,Q0o,Q0c,Q1f,Y5q,l0,a0,s0,c0,d0,l1,a1,s1,c1,d1,l2,a2,s2,c2,d2,l3,a3,s3,c3,d3,l4,a4,s4,c4,d4]<;>omega
  case d1 b=>constructor<;>simp[pfK,Q1v,Q2G,pfA,Q1z,Rn.fresh,Rn.did,Rn.Q0h,Rn.setB,Rn.note,Rn.goto,Rn.Q0d,Rn.fin,Rn.wake,Q0e,Q0o,Q0c,Q1f,Y5p,l0,a0,s0,c0,d0,l1,a1,s1,c1,d1,l2,a2,s2,c2,d2,l3,a3,s3,c3,d3,l4,a4,s4,c4,d4]<;>omega
  case d2 b=>constructor<;>simp[pfK,Q1v,Q2G,pfA,Q1z,Rn.fresh,Rn.did,Rn.Q0h,Rn.setB,Rn.note,Rn.goto,Rn.Q0d,Rn.fin,Rn.wake,Q0e,Q0o,Q0c,Q1f,Y5o,l0,a0,s0,c0,d0,l1,a1,s1,c1,d1,l2,a2,s2,c2,d2,l3,a3,s3,c3,d3,l4,a4,s4,c4,d4]<;>omega
  case d3 b=>constructor<;>simp[pfK,Q1v,Q2G,pfA,Q1z,Rn.fresh,Rn.did,Rn.Q0h,Rn.setB,Rn.note,Rn.goto,Rn.Q0d,Rn.fin,Rn.wake,Q0e,Q0o,Q0c,Q1f,Y5n,Rn.Q0E,l0,a0,s0,c0,d0,l1,a1,s1,c1,d1,l2,a2,s2,c2,d2,l3,a3,s3,c3,d3,l4,a4,s4,c4,d4]<;>omega
  case y0 a b=>constructor<;>simp[pfK,Q1v,Q2G,pfA,Q1z,Rn.fresh,Rn.did,Rn.Q0h,Rn.setB,Rn.note,Rn.goto,Rn.Q0d,Rn.fin,Rn.wake,Q0e,Q0o,Q0c,Q1f,Y2s,l0,a0,s0,c0,d0,l1,a1,s1,c1,d1,l2,a2,s2,c2,d2,l3,a3,s3,c3,d3,l4,a4,s4,c4,d4]<;>omega
  case y1 a b=>by_cases q0:0<Q1s a x3<;>by_cases q1:Q1s a x3<0<;>constructor<;>simp[pfK,Q1v,Q2G,pfA,Q1z,Rn.fresh,Rn.did,Rn.Q0h,Rn.setB,Rn.note,Rn.goto,Rn.Q0d,Rn.fin,Rn.wake,Q0e,Q0o,Q0c,Q1f,q0,q1,Y2r,l0,a0,s0,c0,d0,l1,a1,s1,c1,d1,l2,a2,s2,c2,d2,l3,a3,s3,c3,d3,l4,a4,s4,c4,d4]<;>omega
  case y2 a b=>by_cases q0:x2=a<;>constructor<;>simp[pfK,Q1v,Q2G,pfA,Q1z,Rn.fresh,Rn.did,Rn.Q0h,Rn.setB,Rn.note,Rn.goto,Rn.Q0d,Rn.fin,Rn.wake,Q0e,Q0o,Q0c,Q1f,q0,Y2q,l0,a0,s0,c0,d0,l1,a1,s1,c1,d1,l2,a2,s2,c2,d2,l3,a3,s3,c3,d3,l4,a4,s4,c4,d4]<;>omega
  case y3 a b=>constructor<;>simp[pfK,Q1v,Q2G,pfA,Q1z,Rn.fresh,Rn.did,Rn.Q0h,Rn.setB,Rn.note,Rn.goto,Rn.Q0d,Rn.fin,Rn.wake,Q0e,Q0o,Q0c,Q1f,Y2p,l0,a0,s0,c0,d0,l1,a1,s1,c1,d1,l2,a2,s2,c2,d2,l3,a3,s3,c3,d3,l4,a4,s4,c4,d4]<;>omega
  case y4 a b=>by_cases q0:0<Q1s a x1<;>constructor<;>simp[pfK,Q1v,Q2G,pfA,Q1z,Rn.fresh,Rn.did,Rn.Q0h,Rn.setB,Rn.note,Rn.goto,Rn.Q0d,Rn.fin,Rn.wake,Q0e,Q0o,Q0c,Q1f,q0,X5h,X8k,l0,a0,s0,c0,d0,l1,a1,s1,c1,d1,l2,a2,s2,c2,d2,l3,a3,s3,c3,d3,l4,a4,s4,c4,d4]<;>omega
  case y5 a b=>constructor<;>simp[pfK,Q1v,Q2G,pfA,Q1z,Rn.fresh,Rn.did,Rn.Q0h,Rn.setB,Rn.note,Rn.goto,Rn.Q0d,Rn.fin,Rn.wake,Q0e,Q0o,Q0c,Q1f,Y2o,l0,a0,s0,c0,d0,l1,a1,s1,c1,d1,l2,a2,s2,c2,d2,l3,a3,s3,c3,d3,l4,a4,s4,c4,d4]<;>omega
  case y6 a b=>constructor<;>simp[pfK,Q1v,Q2G,pfA,Q1z,Rn.fresh,Rn.did,Rn.Q0h,Rn.setB,Rn.note,Rn.goto,Rn.Q0d,Rn.fin,Rn.wake,Q0e,Q0o,Q0c,Q1f,Y2n,l0,a0,s0,c0,d0,l1,a1,s1,c1,d1,l2,a2,s2,c2,d2,l3,a3,s3,c3,d3,l4,a4,s4,c4,d4]<;>omega
  case y9 a b=>constructor<;>simp[pfK,Q1v,Q2G,pfA,Q1z,Rn.fresh,Rn.did,Rn.Q0h,Rn.setB,Rn.note,Rn.goto,Rn.Q0d,Rn.fin,Rn.wake,Q0e,Q0o,Q0c,Q1f,Y2m,Rn.Q0E,l0,a0,s0,c0,d0,l1,a1,s1,c1,d1,l2,a2,s2,c2,d2,l3,a3,s3,c3,d3,l4,a4,s4,c4,d4]<;>omega
  case z0 a b=>constructor<;>simp[pfK,Q1v,Q2G,pfA,Q1z,Rn.fresh,Rn.did,Rn.Q0h,Rn.setB,Rn.note,Rn.goto,Rn.Q0d,Rn.fin,Rn.wake,Q0e,Q0o,Q0c,Q1f,Y2s,l0,a0,s0,c0,d0,l1,a1,s1,c1,d1,l2,a2,s2,c2,d2,l3,a3,s3,c3,d3,l4,a4,s4,c4,d4]<;>omega
  case z1 a b=>by_cases q0:0<Q1s a x3<;>by_cases q1:Q1s a x3<0<;>constructor<;>simp[pfK,Q1v,Q2G,pfA,Q1z,Rn.fresh,Rn.did,Rn.Q0h,Rn.setB,Rn.note,Rn.goto,Rn.Q0d,Rn.fin,Rn.wake,Q0e,Q0o,Q0c,Q1f,q0,q1,Y2r,l0,a0,s0,c0,d0,l1,a1,s1,c1,d1,l2,a2,s2,c2,d2,l3,a3,s3,c3,d3,l4,a4,s4,c4,d4]<;>omega
  case z2 a b=>by_cases q0:x2=a<;>constructor<;>simp[pfK,Q1v,Q2G,pfA,Q1z,Rn.fresh,Rn.did,Rn.Q0h,Rn.setB,Rn.note,Rn.goto,Rn.Q0d,Rn.fin,Rn.wake,Q0e,Q0o,Q0c,Q1f,q0,Y2q,l0,a0,s0,c0,d0,l1,a1,s1,c1,d1,l2,a2,s2,c2,d2,l3,a3,s3,c3,d3,l4,a4,s4,c4,d4]<;>omega
  case z3 a b=>constructor<;>simp[pfK,Q1v,Q2G,pfA,Q1z,Rn.fresh,Rn.did,Rn.Q0h,Rn.setB,Rn.note,Rn.goto,Rn.Q0d,Rn.fin,Rn.wake,Q0e,Q0o,Q0c,Q1f,Y2p,l0,a0,s0,c0,d0,l1,a1,s1,c1,d1,l2,a2,s2,c2,d2,l3,a3,s3,c3,d3,l4,a4,s4,c4,d4]<;>omega
  case z4 a b=>by_cases q0:256<Q1s a x1<;>constructor<;>simp[pfK,Q1v,Q2G,pfA,Q1z,Rn.fresh,Rn.did,Rn.Q0h,Rn.setB,Rn.note,Rn.goto,Rn.Q0d,Rn.fin,Rn.wake,Q0e,Q0o,Q0c,Q1f,q0,X5f,X8j,l0,a0,s0,c0,d0,l1,a1,s1,c1,d1,l2,a2,s2,c2,d2,l3,a3,s3,c3,d3,l4,a4,s4,c4,d4]<;>omega
  case z5 a b=>constructor<;>simp[pfK,Q1v,Q2G,pfA,Q1z,Rn.fresh,Rn.did,Rn.Q0h,Rn.setB,Rn.note,Rn.goto,Rn.Q0d,Rn.fin,Rn.wake,Q0e,Q0o,Q0c,Q1f,Y2o,l0,a0,s0,c0,d0,l1,a1,s1,c1,d1,l2,a2,s2,c2,d2,l3,a3,s3,c3,d3,l4,a4,s4,c4,d4]<;>omega
  case z6 a b=>constructor<;>simp[pfK,Q1v,Q2G,pfA,Q1z,Rn.fresh,Rn.did,Rn.Q0h,Rn.setB,Rn.note,Rn.goto,Rn.Q0d,Rn.fin,Rn.wake,Q0e,Q0o,Q0c,Q1f,Y2n,l0,a0,s0,c0,d0,l1,a1,s1,c1,d1,l2,a2,s2,c2,d2,l3,a3,s3,c3,d3,l4,a4,s4,c4,d4]<;>omega
  case z8 a b=>constructor<;>simp[pfK,Q1v,Q2G,pfA,Q1z,Rn.fresh,Rn.did,Rn.Q0h,Rn.setB,Rn.note,Rn.goto,Rn.Q0d,Rn.fin,Rn.wake,Q0e,Q0o,Q0c,Q1f,X5a,l0,a0,s0,c0,d0,l1,a1,s1,c1,d1,l2,a2,s2,c2,d2,l3,a3,s3,c3,d3,l4,a4,s4,c4,d4]<;>omega
  case z9 a b=>constructor<;>simp[pfK,Q1v,Q2G,pfA,Q1z,Rn.fresh,Rn.did,Rn.Q0h,Rn.setB,Rn.note,Rn.goto,Rn.Q0d,Rn.fin,Rn.wake,Q0e,Q0o,Q0c,Q1f,Y2m,Rn.Q0E,l0,a0,s0,c0,d0,l1,a1,s1,c1,d1,l2,a2,s2,c2,d2,l3,a3,s3,c3,d3,l4,a4,s4,c4,d4]<;>omega
 ·obtain⟨sn,sm,stk,f,acc,notes,L⟩:=s
  simp only at hn hmd htk hf hl
  subst hn hmd htk hf
  cases p<;>simp[pfK,Q3I]at hw
  case r1 a=>
   obtain⟨rfl,rfl⟩:=hw
   have hd:=fun h=>Q1u (L:=L) (n:=n) (mode:=sm) (task:=t) (st:=st) (c:=0) (p:=fun v=>v%4 !=a%4) h
   have hs:=fun h=>Q2i (L:=L) (n:=n) (mode:=sm) (task:=t) (st:=st) (c:=0) (p:=fun v=>v%4 !=a%4) h0 h3 h
   simp[pfK,Q1v,Q2G,pfA,Rn.fresh,Rn.waited,Q5O,Q4E,X2x]
   generalize Q0t L n sm t st 0 (fun v=>v%4 !=a%4)=R at hd hs⊢
   obtain⟨rs,ra,rsn,rd,rw_⟩:=R
   cases rsn<;>cases rd<;>simp[Rn.note,Rn.fin,Rn.goto,Rn.Q0h,Q0o,Q0c]at hd hs⊢ <;>simp[hd,Wk.zero]
  case l1 a=>
   obtain⟨rfl,rfl⟩:=hw
   have hd:=fun h=>Q1u (L:=L) (n:=n) (mode:=sm) (task:=t) (st:=st) (c:=3) (p:=fun v=>v==a) h
   have hs:=fun h=>Q2i (L:=L) (n:=n) (mode:=sm) (task:=t) (st:=st) (c:=3) (p:=fun v=>v==a) h0 h3 h
   simp[pfK,Q1v,Q2G,pfA,Rn.fresh,Rn.waited,Q5O,Q4E,Y3W]
   generalize Q0t L n sm t st 3 (fun v=>v==a)=R at hd hs⊢
   obtain⟨rs,ra,rsn,rd,rw_⟩:=R
   cases rsn<;>cases rd<;>simp[Rn.note,Rn.fin,Rn.goto,Rn.Q0h,Q0o,Q0c]at hd hs⊢ <;>simp[hd,Wk.zero]
  case l4 a b=>
   obtain⟨rfl,rfl⟩:=hw
   have hd:=fun h=>Q1u (L:=L) (n:=n) (mode:=sm) (task:=t) (st:=st) (c:=1) (p:=fun v=>v==a) h
   have hs:=fun h=>Q2i (L:=L) (n:=n) (mode:=sm) (task:=t) (st:=st) (c:=1) (p:=fun v=>v==a) h0 h3 h
   simp[pfK,Q1v,Q2G,pfA,Rn.fresh,Rn.waited,Q5O,Q4E,Y3V]
   generalize Q0t L n sm t st 1 (fun v=>v==a)=R at hd hs⊢
   obtain⟨rs,ra,rsn,rd,rw_⟩:=R
   cases rsn<;>cases rd<;>simp[Rn.note,Rn.fin,Rn.goto,Rn.Q0h,Q0o,Q0c]at hd hs⊢ <;>simp[hd,Wk.zero]
  case y7 a b=>
   obtain⟨rfl,rfl⟩:=hw
   have hd:=fun h=>Q1u (L:=L) (n:=n) (mode:=sm) (task:=t) (st:=st) (c:=1) (p:=fun v=>v==a) h
   have hs:=fun h=>Q2i (L:=L) (n:=n) (mode:=sm) (task:=t) (st:=st) (c:=1) (p:=fun v=>v==a) h0 h3 h
   simp[pfK,Q1v,Q2G,pfA,Rn.fresh,Rn.waited,Q5O,Q4E,X2v,Q7r]
   generalize Q0t L n sm t st 1 (fun v=>v==a)=R at hd hs⊢
   obtain⟨rs,ra,rsn,rd,rw_⟩:=R
   cases rsn<;>cases rd<;>simp[Rn.note,Rn.fin,Rn.goto,Rn.Q0h,Q0o,Q0c]at hd hs⊢ <;>simp[hd,Wk.zero]
  case z7 a b=>
   obtain⟨rfl,rfl⟩:=hw
   have hd:=fun h=>Q1u (L:=L) (n:=n) (mode:=sm) (task:=t) (st:=st) (c:=1) (p:=fun v=>v==(a-256)%4294967296) h
   have hs:=fun h=>Q2i (L:=L) (n:=n) (mode:=sm) (task:=t) (st:=st) (c:=1) (p:=fun v=>v==(a-256)%4294967296) h0 h3 h
   simp[pfK,Q1v,Q2G,pfA,Rn.fresh,Rn.waited,Q5O,Q4E,X2u,Q7q]
   generalize Q0t L n sm t st 1 (fun v=>v==(a-256)%4294967296)=R at hd hs⊢
   obtain⟨rs,ra,rsn,rd,rw_⟩:=R
   cases rsn<;>cases rd<;>simp[Rn.note,Rn.fin,Rn.goto,Rn.Q0h,Q0o,Q0c]at hd hs⊢ <;>simp[hd,Wk.zero]
 ·obtain⟨sn,sm,stk,f,acc,notes,L⟩:=s
  simp only at hn hmd htk hf hl
  subst hn hmd htk hf
  cases p<;>simp[pfK,Q3I]at hw
  case r1 a=>
   obtain⟨rfl,rfl⟩:=hw
   have hd:=Q1b (L:=L) (n:=n) (task:=t) (c:=0) (p:=fun v=>v%4 !=a%4) hm2
   have hs:=Q1i (L:=L) (n:=n) (task:=t) (c:=0) (p:=fun v=>v%4 !=a%4) hm2
   simp[pfK,Q1v,Q2G,pfA,Rn.fresh,Rn.waited,Q5O,Q4E,X2x]
   generalize Q0t L n sm t 4 0 (fun v=>v%4 !=a%4)=R at hd hs⊢
   obtain⟨rs,ra,rsn,rd,rw_⟩:=R
   obtain⟨rfl,rfl⟩:=hd
   obtain rfl:=hs
   simp[Rn.note,Rn.fin,Rn.goto,Rn.Q0h,Q0o,Q0c,Wk.zero]
  case l1 a=>
   obtain⟨rfl,rfl⟩:=hw
   have hd:=Q1b (L:=L) (n:=n) (task:=t) (c:=3) (p:=fun v=>v==a) hm2
   have hs:=Q1i (L:=L) (n:=n) (task:=t) (c:=3) (p:=fun v=>v==a) hm2
   simp[pfK,Q1v,Q2G,pfA,Rn.fresh,Rn.waited,Q5O,Q4E,Y3W]
   generalize Q0t L n sm t 4 3 (fun v=>v==a)=R at hd hs⊢
   obtain⟨rs,ra,rsn,rd,rw_⟩:=R
   obtain⟨rfl,rfl⟩:=hd
   obtain rfl:=hs
   simp[Rn.note,Rn.fin,Rn.goto,Rn.Q0h,Q0o,Q0c,Wk.zero]
  case l4 a b=>
   obtain⟨rfl,rfl⟩:=hw
   have hd:=Q1b (L:=L) (n:=n) (task:=t) (c:=1) (p:=fun v=>v==a) hm2
   have hs:=Q1i (L:=L) (n:=n) (task:=t) (c:=1) (p:=fun v=>v==a) hm2
   simp[pfK,Q1v,Q2G,pfA,Rn.fresh,Rn.waited,Q5O,Q4E,Y3V]
   generalize Q0t L n sm t 4 1 (fun v=>v==a)=R at hd hs⊢
   obtain⟨rs,ra,rsn,rd,rw_⟩:=R
   obtain⟨rfl,rfl⟩:=hd
   obtain rfl:=hs
   simp[Rn.note,Rn.fin,Rn.goto,Rn.Q0h,Q0o,Q0c,Wk.zero]
  case y7 a b=>
   obtain⟨rfl,rfl⟩:=hw
   have hd:=Q1b (L:=L) (n:=n) (task:=t) (c:=1) (p:=fun v=>v==a) hm2
   have hs:=Q1i (L:=L) (n:=n) (task:=t) (c:=1) (p:=fun v=>v==a) hm2
   simp[pfK,Q1v,Q2G,pfA,Rn.fresh,Rn.waited,Q5O,Q4E,X2v,Q7r]
   generalize Q0t L n sm t 4 1 (fun v=>v==a)=R at hd hs⊢
   obtain⟨rs,ra,rsn,rd,rw_⟩:=R
   obtain⟨rfl,rfl⟩:=hd
   obtain rfl:=hs
   simp[Rn.note,Rn.fin,Rn.goto,Rn.Q0h,Q0o,Q0c,Wk.zero]
  case z7 a b=>
   obtain⟨rfl,rfl⟩:=hw
   have hd:=Q1b (L:=L) (n:=n) (task:=t) (c:=1) (p:=fun v=>v==(a-256)%4294967296) hm2
   have hs:=Q1i (L:=L) (n:=n) (task:=t) (c:=1) (p:=fun v=>v==(a-256)%4294967296) hm2
   simp[pfK,Q1v,Q2G,pfA,Rn.fresh,Rn.waited,Q5O,Q4E,X2u,Q7q]
   generalize Q0t L n sm t 4 1 (fun v=>v==(a-256)%4294967296)=R at hd hs⊢
   obtain⟨rs,ra,rsn,rd,rw_⟩:=R
   obtain⟨rfl,rfl⟩:=hd
   obtain rfl:=hs
   simp[Rn.note,Rn.fin,Rn.goto,Rn.Q0h,Q0o,Q0c,Wk.zero]
def Q1C:PfP→Ph
 |.idle h=>⟨decide (h=2),decide (h=2),false,false,false,decide (h=1), .none, .none, .none⟩
 |.r0=>⟨false,false,false,false,false,false, .none, .none, .none⟩
 |.r1 a=>⟨false,false,false,false,false,false,some (a%4), .none, .none⟩
 |.u0=>⟨false,false,false,false,false,true, .none, .none, .none⟩
 |.q0 _=>⟨false,false,false,false,false,false, .none, .none, .none⟩
 |.q1 _=>⟨false,false,false,false,false,false, .none, .none, .none⟩
 |.l0=>⟨false,false,false,false,false,false, .none, .none, .none⟩
 |.l1 _=>⟨false,false,false,false,false,false, .none, .none, .none⟩
 |.l2 _=>⟨true,false,false,false,false,false, .none, .none, .none⟩
 |.l3 _ b=>⟨true,false,false,false,false,false, .none,some b, .none⟩
 |.l4 a _=>⟨true,false,false,true,false,false, .none, .none,some a⟩
 |.v0=>⟨true,true,false,false,false,false, .none, .none, .none⟩
 |.v1 b=>⟨true,true,false,false,false,false, .none,some b, .none⟩
 |.v2 b=>⟨true,false,false,false,true,false, .none,some b, .none⟩
 |.v3 _=>⟨true,false,false,false,false,false, .none, .none, .none⟩
 |.d0=>⟨true,true,false,false,false,false, .none, .none, .none⟩
 |.d1 b=>⟨true,true,false,false,false,false, .none,some b, .none⟩
 |.d2 b=>⟨true,false,false,false,true,true, .none,some b, .none⟩
 |.d3 _=>⟨true,false,false,false,false,true, .none, .none, .none⟩
 |.y0 _ _=>⟨false,false,false,false,false,false, .none, .none, .none⟩
 |.y1 _ _=>⟨false,false,false,false,false,false, .none, .none, .none⟩
 |.y2 _ _=>⟨false,false,false,false,false,false, .none, .none, .none⟩
 |.y3 _ _=>⟨true,false,false,false,false,false, .none, .none, .none⟩
 |.y4 _ _=>⟨true,false,false,false,false,false, .none, .none, .none⟩
 |.y5 _ _=>⟨true,false,false,false,false,false, .none, .none, .none⟩
 |.y6 _ b=>⟨true,false,false,false,false,false, .none,some b, .none⟩
 |.y7 a _=>⟨true,false,false,true,false,false, .none, .none,some a⟩
 |.y9 _ _=>⟨true,false,false,false,false,false, .none, .none, .none⟩
 |.z0 _ _=>⟨false,false,false,false,false,true, .none, .none, .none⟩
 |.z1 _ _=>⟨false,false,false,false,false,true, .none, .none, .none⟩
 |.z2 _ _=>⟨false,false,false,false,false,true, .none, .none, .none⟩
 |.z3 _ _=>⟨true,false,false,false,false,true, .none, .none, .none⟩
 |.z4 _ _=>⟨true,false,false,false,false,true, .none, .none, .none⟩
 |.z5 _ _=>⟨true,false,false,false,false,true, .none, .none, .none⟩
 |.z6 _ b=>⟨true,false,false,false,false,true, .none,some b, .none⟩
 |.z7 a _=>⟨true,false,false,true,false,true, .none, .none,some a⟩
 |.z8 _ _=>⟨true,false,true,false,false,true, .none, .none, .none⟩
 |.z9 _ _=>⟨true,false,false,false,false,true, .none, .none, .none⟩
theorem Y1R{P Q:Type}(f:Q→Int)(g:P→Q): ∀l,ws f (l.map g)=ws (fun x=>f (g x)) l
 |[]=>rfl
 |x::l=>by simp only[List.map_cons,ws,Y1R f g l]
theorem Q4f{P Q:Type}{g:P→Q}{l:List P}{i:Nat}{d:P}{e:Q}(h:i<l.length):(l.map g).getD i e=g (l.getD i d):=by
 simp[List.getD,h]
def pfH(p:PfP):Int:=wHd (Q1C p)
def pfW:PfP→Int
 |.l1 _=>1
 |_=>0
theorem X3O: ∀x,0≤pfH x:=fun x=>Q2Y _
theorem X3N: ∀x,0≤pfW x:=by intro x;cases x<;>simp[pfW]
def X2y(base Wi Wo t:Int):PfP→Prop
 |.l1 a=>a=t%4294967296
 |.y1 a _=> ∃u,base≤u∧u≤Wi∧a=u%4294967296
 |.z1 a _=> ∃u,base≤u∧u≤Wi∧a=u%4294967296
 |.y2 a _=> ∃u,base≤u∧u≤Wi∧a=u%4294967296∧u≤Wo
 |.z2 a _=> ∃u,base≤u∧u≤Wi∧a=u%4294967296∧u≤Wo
 |_=>True
def X8i:PfP→Prop
 |.idle h=>h=0∨h=1∨h=2
 |.q1 a=>a%4=0
 |_=>True
structure X0f(base:Int)(n b:Nat)(ps:List PfP)(m:Nat→Int)(Wi Wo:Int)(T:Nat→Int):Prop where
 m2:m 2=Wi%4294967296
 m3:m 3=Wo%4294967296
 lo:base≤Wo
 le:Wo≤Wi
 hi:Wi+b≤base+1073741824
 nt:Wi-Wo=ws pfH ps+ws pfW ps
 rng: ∀i,i<n→pfW (ps.getD i (pfK.idle 0))=1→Wo+ws pfH ps≤T i∧T i<Wi
 inj: ∀i j,i<n→j<n→i≠j→pfW (ps.getD i (pfK.idle 0))=1→pfW (ps.getD j (pfK.idle 0))=1→T i≠T j
 sur: ∀t,Wo+ws pfH ps≤t→t<Wi→ ∃i,i<n∧pfW (ps.getD i (pfK.idle 0))=1∧T i=t
 at_: ∀i,i<n→X2y base Wi Wo (T i) (ps.getD i (pfK.idle 0))
section
variable {base Wi Wo:Int}{n b:Nat}{ps:List PfP}{m m':Nat→Int}{T:Nat→Int}{i:Nat}{p p':PfP}
theorem Q4D(hl:ps.length=n)(hi:i<n){j:Nat}:(ps.set i p').getD j (pfK.idle 0)=if i=j then p' else ps.getD j (pfK.idle 0):=Q2K (by omega)
theorem Q8y{base Wi Wo Wi' Wo' t:Int}{q:PfP}(h:X2y base Wi Wo t q)(h1:Wi≤Wi')(h2:Wo≤Wo'):X2y base Wi' Wo' t q:=by
 cases q<;>simp only[X2y]at h⊢ <;>first|exact h|(obtain⟨u,k1,k2,k3⟩:=h;exact⟨u,k1,by omega,k3⟩)|(obtain⟨u,k1,k2,k3,k4⟩:=h;exact⟨u,k1,by omega,k3,by omega⟩)
theorem X0f.same(H:X0f base n (b+1) ps m Wi Wo T)(hl:ps.length=n)(hi:i<n)(hp:ps.getD i (pfK.idle 0)=p)(hh:pfH p'=pfH p)(hw:pfW p'=pfW p)(ha:X2y base Wi Wo (T i) p')(e:m' 2=m 2∧m' 3=m 3):X0f base n b (ps.set i p') m' Wi Wo T:=by
 have s1:=Q0l (f:=pfH) (d:=pfK.idle 0) (x:=p') (l:=ps) (i:=i) (by omega)
 have s2:=Q0l (f:=pfW) (d:=pfK.idle 0) (x:=p') (l:=ps) (i:=i) (by omega)
 rw[hp]at s1 s2
 have e1:ws pfH (ps.set i p')=ws pfH ps:=by omega
 have hT: ∀j,pfW ((ps.set i p').getD j (pfK.idle 0))=pfW (ps.getD j (pfK.idle 0)):=fun j=>by
  rw[Q4D hl hi]
  split
  ·rename_i e;subst e;rw[hp,hw]
  ·rfl
 refine⟨e.1.trans H.m2,e.2.trans H.m3,H.lo,H.le,by have:=H.hi;omega,by have:=H.nt;omega,fun j hj h=>by rw[e1];exact H.rng j hj (by rw[←hT];exact h),fun j k hj hk hjk h1 h2=>H.inj j k hj hk hjk (by rw[←hT];exact h1) (by rw[←hT];exact h2),fun t h1 h2=> ?_,fun j hj=> ?_⟩
 ·rw[e1]at h1
  obtain⟨j,g1,g2,g3⟩:=H.sur t h1 h2
  exact⟨j,g1,by rw[hT];exact g2,g3⟩
 ·rw[Q4D hl hi]
  split
  ·rename_i e;subst e;exact ha
  ·exact H.at_ j hj
theorem X0f.ticket(H:X0f base n (b+1) ps m Wi Wo T)(hl:ps.length=n)(hi:i<n)(hp:ps.getD i (pfK.idle 0)=p)(hh:pfH p'=pfH p)(hw0:pfW p=0)(hw:pfW p'=1)(ha:X2y base (Wi+1) Wo Wi p')(e:m' 2=(Wi+1)%4294967296∧m' 3=m 3): ∃T',X0f base n b (ps.set i p') m' (Wi+1) Wo T':=by
 have s1:=Q0l (f:=pfH) (d:=pfK.idle 0) (x:=p') (l:=ps) (i:=i) (by omega)
 have s2:=Q0l (f:=pfW) (d:=pfK.idle 0) (x:=p') (l:=ps) (i:=i) (by omega)
 rw[hp]at s1 s2
 have e1:ws pfH (ps.set i p')=ws pfH ps:=by omega
 have nt:=H.nt
 have w0:=Q1w X3N ps
 refine⟨fun j=>if j=i then Wi else T j,e.1,e.2.trans H.m3,H.lo,by have:=H.le;omega,by have:=H.hi;omega,by omega,fun j hj h=> ?_,fun j k hj hk hjk h1 h2=> ?_,fun t h1 h2=> ?_,fun j hj=> ?_⟩
 ·rw[Q4D hl hi]at h
  rw[e1]
  by_cases e:i=j
  ·subst e;simp only[if_true];omega
  ·rw[if_neg e]at h
   simp only[if_neg (fun h:j=i=>e h.symm)]
   have:=H.rng j hj h
   omega
 ·rw[Q4D hl hi]at h1 h2
  by_cases e1:i=j
  ·subst e1
   rw[if_neg hjk]at h2
   have:=H.rng k hk h2
   simp only[if_true,if_neg (fun h:k=i=>hjk h.symm)]
   omega
  ·rw[if_neg e1]at h1
   by_cases e2:i=k
   ·subst e2
    have:=H.rng j hj h1
    simp only[if_true,if_neg (fun h:j=i=>e1 h.symm)]
    omega
   ·rw[if_neg e2]at h2
    simp only[if_neg (fun h:j=i=>e1 h.symm),if_neg (fun h:k=i=>e2 h.symm)]
    exact H.inj j k hj hk hjk h1 h2
 ·rw[e1]at h1
  by_cases hu:t=Wi
  ·exact⟨i,hi,by rw[Q4D hl hi,if_pos rfl];exact hw,by simp[hu]⟩
  ·obtain⟨j,g1,g2,g3⟩:=H.sur t h1 (by omega)
   have hji: ¬i=j:=by rintro rfl;rw[hp,hw0]at g2;omega
   exact⟨j,g1,by rw[Q4D hl hi,if_neg hji];exact g2,by simp only[if_neg (fun h:j=i=>hji h.symm)];exact g3⟩
 ·rw[Q4D hl hi]
  by_cases e1:i=j
  ·subst e1;simp only[if_true];exact ha
  ·simp only[if_neg e1,if_neg (fun h:j=i=>e1 h.symm)]
   exact Q8y (H.at_ j hj) (by omega) (by omega)
theorem X0f.turn(H:X0f base n (b+1) ps m Wi Wo T)(hl:ps.length=n)(hi:i<n)(hp:ps.getD i (pfK.idle 0)=p)(hT:T i=Wo)(hw0:pfW p=1)(hw:pfW p'=0)(hh0:pfH p=0)(hh:pfH p'=1)(ha:X2y base Wi Wo (T i) p')(e:m' 2=m 2∧m' 3=m 3):ws pfH ps=0∧X0f base n b (ps.set i p') m' Wi Wo T:=by
 have s1:=Q0l (f:=pfH) (d:=pfK.idle 0) (x:=p') (l:=ps) (i:=i) (by omega)
 have s2:=Q0l (f:=pfW) (d:=pfK.idle 0) (x:=p') (l:=ps) (i:=i) (by omega)
 rw[hp]at s1 s2
 have r:=H.rng i hi (by rw[hp];exact hw0)
 have h0:=Q1w X3O ps
 have z:ws pfH ps=0:=by omega
 have e1:ws pfH (ps.set i p')=1:=by omega
 refine⟨z,e.1.trans H.m2,e.2.trans H.m3,H.lo,H.le,by have:=H.hi;omega,by have:=H.nt;omega,fun j hj h=> ?_,fun j k hj hk hjk h1 h2=> ?_,fun t h1 h2=> ?_,fun j hj=> ?_⟩
 ·rw[Q4D hl hi]at h
  by_cases e:i=j
  ·subst e;rw[if_pos rfl,hw]at h;omega
  ·rw[if_neg e]at h
   have g1:=H.rng j hj h
   have g2:=H.inj i j hi hj e (by rw[hp];exact hw0) h
   omega
 ·rw[Q4D hl hi]at h1 h2
  have e1: ¬i=j:=by rintro rfl;rw[if_pos rfl,hw]at h1;omega
  have e2: ¬i=k:=by rintro rfl;rw[if_pos rfl,hw]at h2;omega
  rw[if_neg e1]at h1
  rw[if_neg e2]at h2
  exact H.inj j k hj hk hjk h1 h2
 ·obtain⟨j,g1,g2,g3⟩:=H.sur t (by omega) h2
  have hji: ¬i=j:=by rintro rfl;omega
  exact⟨j,g1,by rw[Q4D hl hi,if_neg hji];exact g2,g3⟩
 ·rw[Q4D hl hi]
  split
  ·rename_i e;subst e;exact ha
  ·exact H.at_ j hj
theorem X0f.pass(H:X0f base n (b+1) ps m Wi Wo T)(hl:ps.length=n)(hi:i<n)(hp:ps.getD i (pfK.idle 0)=p)(hone:ws pfH ps≤1)(hw0:pfW p=0)(hw:pfW p'=0)(hh0:pfH p=1)(hh:pfH p'=0)(ha:X2y base Wi (Wo+1) (T i) p')(e:m' 2=m 2∧m' 3=(Wo+1)%4294967296):X0f base n b (ps.set i p') m' Wi (Wo+1) T:=by
 have s1:=Q0l (f:=pfH) (d:=pfK.idle 0) (x:=p') (l:=ps) (i:=i) (by omega)
 have s2:=Q0l (f:=pfW) (d:=pfK.idle 0) (x:=p') (l:=ps) (i:=i) (by omega)
 have s3:=Q0m (d:=pfK.idle 0) X3O (l:=ps) (i:=i) (by omega)
 rw[hp]at s1 s2 s3
 have w0:=Q1w X3N ps
 have nt:=H.nt
 have hT: ∀j,pfW ((ps.set i p').getD j (pfK.idle 0))=pfW (ps.getD j (pfK.idle 0)):=fun j=>by
  rw[Q4D hl hi]
  split
  ·rename_i e;subst e;rw[hp,hw,hw0]
  ·rfl
 refine⟨e.1.trans H.m2,e.2,by have:=H.lo;omega,by omega,by have:=H.hi;omega,by omega,fun j hj h=>by have:=H.rng j hj (by rw[←hT];exact h);omega,fun j k hj hk hjk h1 h2=>H.inj j k hj hk hjk (by rw[←hT];exact h1) (by rw[←hT];exact h2),fun t h1 h2=> ?_,fun j hj=> ?_⟩
 ·obtain⟨j,g1,g2,g3⟩:=H.sur t (by omega) h2
  exact⟨j,g1,by rw[hT];exact g2,g3⟩
 ·rw[Q4D hl hi]
  split
  ·rename_i e;subst e;exact ha
  ·exact Q8y (H.at_ j hj) (by omega) (by omega)
theorem X0f.takes(H:X0f base n (b+1) ps m Wi Wo T)(hl:ps.length=n)(hi:i<n)(hp:ps.getD i (pfK.idle 0)=p)(heq:Wi=Wo)(hw0:pfW p=0)(hw:pfW p'=0)(hh0:pfH p=0)(hh:pfH p'=1)(ha:X2y base (Wi+1) Wo (T i) p')(e:m' 2=(Wi+1)%4294967296∧m' 3=m 3):ws pfH ps=0∧X0f base n b (ps.set i p') m' (Wi+1) Wo T:=by
 have s1:=Q0l (f:=pfH) (d:=pfK.idle 0) (x:=p') (l:=ps) (i:=i) (by omega)
 have s2:=Q0l (f:=pfW) (d:=pfK.idle 0) (x:=p') (l:=ps) (i:=i) (by omega)
 rw[hp]at s1 s2
 have w0:=Q1w X3N ps
 have h0:=Q1w X3O ps
 have nt:=H.nt
 have hT: ∀j,pfW ((ps.set i p').getD j (pfK.idle 0))=pfW (ps.getD j (pfK.idle 0)):=fun j=>by
  rw[Q4D hl hi]
  split
  ·rename_i e;subst e;rw[hp,hw,hw0]
  ·rfl
 have hno: ∀j,j<n→pfW (ps.getD j (pfK.idle 0))≠1:=fun j hj h=>by
  have:=Q0m (d:=pfK.idle 0) X3N (l:=ps) (i:=j) (by omega)
  omega
 refine⟨by omega,e.1,e.2.trans H.m3,H.lo,by omega,by have:=H.hi;omega,by omega,fun j hj h=>absurd (by rw[←hT];exact h) (hno j hj),fun j k hj hk hjk h1 h2=>absurd (by rw[←hT];exact h1) (hno j hj),fun t h1 h2=>by omega,fun j hj=> ?_⟩
 rw[Q4D hl hi]
 split
 ·rename_i e;subst e;exact ha
 ·exact Q8y (H.at_ j hj) (by omega) (by omega)
end
def pfI(base:Int)(n b:Nat)(ps:List PfP)(m:Nat→Int):Prop:=n≤64∧ps.length=n∧(∃Rin Rout,Q2u (ps.map Q1C) (m 0) (m 1) (m 4) Rin Rout)∧(∃Wi Wo T,X0f base n b ps m Wi Wo T)∧ ∀p,p∈ps→X8i p
theorem X8g{ps:List PfP}{i:Nat}{q:PfP}(h: ∀p,p∈ps→X8i p)(hq:X8i q): ∀p,p∈ps.set i q→X8i p:=fun p hp=>by
 rcases List.mem_or_eq_of_mem_set hp with h1|h1
 ·exact h p h1
 ·rw[h1];exact hq
theorem Y1a{ps:List PfP}{i n:Nat}(h: ∀p,p∈ps→X8i p)(hl:ps.length=n)(hi:i<n):X8i (ps.getD i (pfK.idle 0)):=h _ (by simp[List.getD,hl,hi])
theorem Y0Z(ps:List PfP):ws wHd (ps.map Q1C)=ws pfH ps:=Y1R wHd Q1C ps
theorem Q5Z{x y:Int}(h: -1073741824≤x-y∧x-y≤1073741824):Q1s (x%4294967296) (y%4294967296)=x-y:=by
 unfold Q1s
 omega
theorem X8d(m:Nat→Int)(v:Int):(written m (some (0,v)) 0=v∧written m (some (0,v)) 1=m 1∧written m (some (0,v)) 4=m 4∧written m (some (0,v)) 2=m 2∧written m (some (0,v)) 3=m 3)∧
 (written m (some (1,v)) 0=m 0∧written m (some (1,v)) 1=v∧written m (some (1,v)) 4=m 4∧written m (some (1,v)) 2=m 2∧written m (some (1,v)) 3=m 3)∧
 (written m (some (4,v)) 0=m 0∧written m (some (4,v)) 1=m 1∧written m (some (4,v)) 4=v∧written m (some (4,v)) 2=m 2∧written m (some (4,v)) 3=m 3)∧
 (written m (some (2,v)) 0=m 0∧written m (some (2,v)) 1=m 1∧written m (some (2,v)) 4=m 4∧written m (some (2,v)) 2=v∧written m (some (2,v)) 3=m 3)∧
 (written m (some (3,v)) 0=m 0∧written m (some (3,v)) 1=m 1∧written m (some (3,v)) 4=m 4∧written m (some (3,v)) 2=m 2∧written m (some (3,v)) 3=v):=by
 simp[written,upd]
theorem Y3R(base:Int)(n:Nat):pfK.Q5D n (pfI base n):=by
 refine⟨fun b ps m H=> ?_,fun b ps m i _ _ _=>trivial,fun b ps m i op h H hi hl hp hm=> ?_,fun b ps m i H hi hl hw hop=> ?_,fun b ps m i c pr H hi hl hw hpr=> ?_,fun b ps m i j c pr H hi hj hij hl hw hop hwj hpr=> ?_⟩
 ·obtain⟨h1,h2,hP,⟨Wi,Wo,T,H⟩,h5⟩:=H
  exact⟨h1,h2,hP,⟨Wi,Wo,T,H.m2,H.m3,H.lo,H.le,by have:=H.hi;omega,H.nt,H.rng,H.inj,H.sur,H.at_⟩,h5⟩
 ·obtain⟨h1,h2,⟨Rin,Rout,HP⟩,⟨Wi,Wo,T,HT⟩,h5⟩:=H
  have hok:=Y1a h5 hl hi
  rw[hp]at hok
  have hok:h=0∨h=1∨h=2:=hok
  have key:Q1C (pfK.start op h)=Q1C (pfK.idle h)∧pfW (pfK.start op h)=0∧X2y base Wi Wo (T i) (pfK.start op h)∧X8i (pfK.start op h):=by
   rcases Q2L hm with⟨rfl,rfl|rfl|rfl|rfl⟩|⟨rfl,rfl|rfl⟩|⟨g1,g2,rfl|rfl⟩<;>first|exact⟨rfl,rfl,trivial,trivial⟩|(obtain rfl:h=2:=by omega);exact⟨rfl,rfl,trivial,trivial⟩
  obtain⟨g1,g2,g3,g4⟩:=key
  refine⟨h1,by simpa using h2,⟨Rin,Rout,?_⟩,⟨Wi,Wo,T,HT.same hl hi hp (by unfold pfH;rw[g1]) (by rw[g2];rfl) g3 ⟨rfl,rfl⟩⟩,X8g h5 g4⟩
  rw[List.map_set,g1,set_self (by simpa using(show i<ps.length by omega)) (d:=Ph.none) (by rw[Q4f (d:=pfK.idle 0) (by omega),hp])]
  exact HP
 ·obtain⟨h1,h2,⟨Rin,Rout,HP⟩,⟨Wi,Wo,T,HT⟩,h5⟩:=H
  have ha:=HT.at_ i hi
  have hok:=Y1a h5 hl hi
  have hact:pfK.act i (ps.getD i (pfK.idle 0)) m=Q1z (m 0) (m 1) (m 2) (m 3) (m 4) (ps.getD i (pfK.idle 0)):=rfl
  rw[hact]
  have hil:i<(ps.map Q1C).length:=by simpa using(show i<ps.length by omega)
  have hq:=Q4f (g:=Q1C) (d:=pfK.idle 0) (e:=Ph.none) (l:=ps) (i:=i) (by omega)
  obtain⟨p,hp⟩: ∃p,ps.getD i (pfK.idle 0)=p:=⟨_,rfl⟩
  rw[hp]at ha hok hq hw hop⊢
  have hone:ws pfH ps≤1:=by rw[←Y0Z];exact HP.one
  have w0:=fun v=>(X8d m v).1
  have w1:=fun v=>(X8d m v).2.1
  have w4:=fun v=>(X8d m v).2.2.1
  have w2:=fun v=>(X8d m v).2.2.2.1
  have w3:=fun v=>(X8d m v).2.2.2.2
  have fin: ∀q w,(∃Rin Rout,Q2u ((ps.map Q1C).set i (Q1C q)) (written m w 0) (written m w 1) (written m w 4) Rin Rout)→(∃Wi Wo T,X0f base n b (ps.set i q) (written m w) Wi Wo T)→X8i q→pfI base n b (ps.set i q) (written m w):=
   fun q w g1 g2 g3=>⟨h1,by simpa using h2,by rw[List.map_set];exact g1,g2,X8g h5 g3⟩
  have tsame: ∀q w,pfH q=pfH p→pfW q=pfW p→X2y base Wi Wo (T i) q→written m w 2=m 2→written m w 3=m 3→ ∃Wi Wo T,X0f base n b (ps.set i q) (written m w) Wi Wo T:=
   fun q w g1 g2 g3 g4 g5=>⟨Wi,Wo,T,HT.same hl hi hp g1 g2 g3 ⟨g4,g5⟩⟩
  have psame: ∀q w,Q1C q=Q1C p→written m w 0=m 0→written m w 1=m 1→written m w 4=m 4→ ∃Rin Rout,Q2u ((ps.map Q1C).set i (Q1C q)) (written m w 0) (written m w 1) (written m w 4) Rin Rout:=
   fun q w g1 g2 g3 g4=>⟨Rin,Rout,by rw[g1,g2,g3,g4,set_self hil hq];exact HP⟩
  have nowr: ∀q,Q1C q=Q1C p→pfW q=pfW p→X2y base Wi Wo (T i) q→X8i q→pfI base n b (ps.set i q) m:=
   fun q g1 g2 g3 g4=>fin q none (psame q none g1 rfl rfl rfl) (tsame q none (by unfold pfH;rw[g1]) g2 g3 rfl rfl) g4
  cases p<;>simp[pfK,Q3I]at hw<;>simp[pfK,Q1v,Q2G,Fr.zero]at hop<;>simp only[X2y]at ha<;>simp only[X8i]at hok<;>simp only[Q1z]
  case r0=>
   obtain⟨k0,k1,k4,k2,k3⟩:=w0 ((m 0+256)%4294967296)
   split
   ·exact fin _ _ ⟨_,_,by rw[k0,k1,k4];exact HP.reads hil hq (by assumption)⟩ (tsame _ _ rfl rfl trivial k2 k3) (Or.inr (Or.inl rfl))
   ·exact fin _ _ ⟨_,_,by rw[k0,k1,k4];exact HP.waits hil hq (by assumption)⟩ (tsame _ _ rfl rfl trivial k2 k3) trivial
  case u0=>
   obtain⟨k0,k1,k4,k2,k3⟩:=w1 _
   exact fin _ _ ⟨_,_,by rw[k0,k1,k4];exact HP.goes hil hq⟩ (tsame _ _ rfl rfl trivial k2 k3) (Or.inl rfl)
  case q0 a=>
   split
   ·exact nowr _ rfl rfl trivial (by assumption)
   ·exact nowr _ rfl rfl trivial (Or.inl rfl)
  case q1 a=>
   obtain⟨k0,k1,k4,k2,k3⟩:=w0 ((a+256)%4294967296)
   by_cases h0:m 0=a
   ·rw[if_pos h0]
    exact fin _ _ ⟨_,_,by rw[k0,k1,k4,←h0];exact HP.reads hil hq (by rw[h0];exact hok)⟩ (tsame _ _ rfl rfl trivial k2 k3) (Or.inr (Or.inl rfl))
   ·rw[if_neg h0];exact nowr _ rfl rfl trivial trivial
  case l0=>
   obtain⟨k0,k1,k4,k2,k3⟩:=w2 ((m 2+1)%4294967296)
   obtain⟨T',H'⟩:=HT.ticket (p':= .l1 (m 2)) (m':=written m (some (2,(m 2+1)%4294967296))) hl hi hp rfl rfl rfl HT.m2 ⟨by rw[k2,HT.m2];omega,k3⟩
   exact fin _ _ (psame _ _ rfl k0 k1 k4) ⟨_,_,_,H'⟩ trivial
  case l2 a=>
   exact fin _ none ⟨_,_,HP.phase hil hq⟩ (tsame _ _ rfl rfl trivial rfl rfl) trivial
  case l3 a b'=>
   obtain⟨k0,k1,k4,k2,k3⟩:=w0 _
   exact fin _ _ ⟨_,_,by rw[k0,k1,k4];exact HP.present hil hq⟩ (tsame _ _ rfl rfl trivial k2 k3) trivial
  case v0=>
   exact fin _ none ⟨_,_,HP.X3K hil hq⟩ (tsame _ _ rfl rfl trivial rfl rfl) trivial
  case d0=>
   exact fin _ none ⟨_,_,HP.X3K hil hq⟩ (tsame _ _ rfl rfl trivial rfl rfl) trivial
  case v1 b'=>
   obtain⟨k0,k1,k4,k2,k3⟩:=w0 _
   exact fin _ _ ⟨_,_,by rw[k0,k1,k4];exact HP.leave hil hq⟩ (tsame _ _ rfl rfl trivial k2 k3) trivial
  case d1 b'=>
   obtain⟨k0,k1,k4,k2,k3⟩:=w0 _
   exact fin _ _ ⟨_,_,by rw[k0,k1,k4];exact HP.down hil hq⟩ (tsame _ _ rfl rfl trivial k2 k3) trivial
  case v2 b'=>
   obtain⟨k0,k1,k4,k2,k3⟩:=w4 _
   exact fin _ _ ⟨_,_,by rw[k0,k1,k4];exact HP.store hil hq⟩ (tsame _ _ rfl rfl trivial k2 k3) trivial
  case d2 b'=>
   obtain⟨k0,k1,k4,k2,k3⟩:=w4 _
   exact fin _ _ ⟨_,_,by rw[k0,k1,k4];exact HP.Y1X hil hq⟩ (tsame _ _ rfl rfl trivial k2 k3) trivial
  case v3 b'=>
   obtain⟨k0,k1,k4,k2,k3⟩:=w3 ((m 3+1)%4294967296)
   exact fin _ _ ⟨_,_,by rw[k0,k1,k4];exact HP.pass hil hq⟩ ⟨_,_,_,HT.pass hl hi hp hone rfl rfl rfl rfl trivial ⟨k2,by rw[k3,HT.m3];omega⟩⟩ (Or.inl rfl)
  case d3 b'=>
   obtain⟨k0,k1,k4,k2,k3⟩:=w3 ((m 3+1)%4294967296)
   exact fin _ _ ⟨_,_,by rw[k0,k1,k4];exact HP.X5u hil hq⟩ ⟨_,_,_,HT.pass hl hi hp hone rfl rfl rfl rfl trivial ⟨k2,by rw[k3,HT.m3];omega⟩⟩ (Or.inr (Or.inl rfl))
  case y9 a b'=>
   obtain⟨k0,k1,k4,k2,k3⟩:=w3 ((m 3+1)%4294967296)
   exact fin _ _ ⟨_,_,by rw[k0,k1,k4];exact HP.pass hil hq⟩ ⟨_,_,_,HT.pass hl hi hp hone rfl rfl rfl rfl trivial ⟨k2,by rw[k3,HT.m3];omega⟩⟩ (Or.inl rfl)
  case z9 a b'=>
   obtain⟨k0,k1,k4,k2,k3⟩:=w3 ((m 3+1)%4294967296)
   exact fin _ _ ⟨_,_,by rw[k0,k1,k4];exact HP.X5u hil hq⟩ ⟨_,_,_,HT.pass hl hi hp hone rfl rfl rfl rfl trivial ⟨k2,by rw[k3,HT.m3];omega⟩⟩ (Or.inr (Or.inl rfl))
  case y0 a b'=>exact nowr _ rfl rfl ⟨Wi,by have:=HT.lo;have:=HT.le;omega,by omega,HT.m2⟩ trivial
  case y1 a b'=>
   obtain⟨u,u1,u2,u3⟩:=ha
   have hah:Q1s a (m 3)=u-Wo:=by rw[u3,HT.m3];exact Q5Z (by have:=HT.lo;have:=HT.le;have:=HT.hi;omega)
   rw[hah]
   split
   ·exact nowr _ rfl rfl trivial (Or.inl rfl)
   split
   ·exact nowr _ rfl rfl trivial trivial
   ·exact nowr _ rfl rfl ⟨u,u1,u2,u3,by omega⟩ trivial
  case y2 a b'=>
   obtain⟨u,u1,u2,u3,u4⟩:=ha
   obtain⟨k0,k1,k4,k2,k3⟩:=w2 ((a+1)%4294967296)
   by_cases h0:m 2=a
   ·rw[if_pos h0]
    have hm2:=HT.m2
    have hle:=HT.le
    have hlo:=HT.lo
    have hhi:=HT.hi
    have hU:Wi=u:=by omega
    obtain⟨z,H'⟩:=HT.takes (p':= .y3 a b') (m':=written m (some (2,(a+1)%4294967296))) hl hi hp (by omega) rfl rfl rfl rfl trivial ⟨by rw[k2,u3,hU];omega,k3⟩
    exact fin _ _ ⟨_,_,by rw[k0,k1,k4];exact HP.take hil hq (by rw[Y0Z];exact z)⟩ ⟨_,_,_,H'⟩ trivial
   ·rw[if_neg h0];exact nowr _ rfl rfl trivial trivial
  case y3 a b'=>exact nowr _ rfl rfl trivial trivial
  case y4 a b'=>
   split
   ·exact nowr _ rfl rfl trivial trivial
   ·exact nowr _ rfl rfl trivial trivial
  case y5 a b'=>
   exact fin _ none ⟨_,_,HP.phase hil hq⟩ (tsame _ _ rfl rfl trivial rfl rfl) trivial
  case y6 a b'=>
   obtain⟨k0,k1,k4,k2,k3⟩:=w0 _
   exact fin _ _ ⟨_,_,by rw[k0,k1,k4];exact HP.present hil hq⟩ (tsame _ _ rfl rfl trivial k2 k3) trivial
  case z0 a b'=>exact nowr _ rfl rfl ⟨Wi,by have:=HT.lo;have:=HT.le;omega,by omega,HT.m2⟩ trivial
  case z1 a b'=>
   obtain⟨u,u1,u2,u3⟩:=ha
   have hah:Q1s a (m 3)=u-Wo:=by rw[u3,HT.m3];exact Q5Z (by have:=HT.lo;have:=HT.le;have:=HT.hi;omega)
   rw[hah]
   split
   ·exact nowr _ rfl rfl trivial (Or.inr (Or.inl rfl))
   split
   ·exact nowr _ rfl rfl trivial trivial
   ·exact nowr _ rfl rfl ⟨u,u1,u2,u3,by omega⟩ trivial
  case z2 a b'=>
   obtain⟨u,u1,u2,u3,u4⟩:=ha
   obtain⟨k0,k1,k4,k2,k3⟩:=w2 ((a+1)%4294967296)
   by_cases h0:m 2=a
   ·rw[if_pos h0]
    have hm2:=HT.m2
    have hle:=HT.le
    have hlo:=HT.lo
    have hhi:=HT.hi
    have hU:Wi=u:=by omega
    obtain⟨z,H'⟩:=HT.takes (p':= .z3 a b') (m':=written m (some (2,(a+1)%4294967296))) hl hi hp (by omega) rfl rfl rfl rfl trivial ⟨by rw[k2,u3,hU];omega,k3⟩
    exact fin _ _ ⟨_,_,by rw[k0,k1,k4];exact HP.Y5X hil hq (by rw[Y0Z];exact z)⟩ ⟨_,_,_,H'⟩ trivial
   ·rw[if_neg h0];exact nowr _ rfl rfl trivial trivial
  case z3 a b'=>exact nowr _ rfl rfl trivial trivial
  case z4 a b'=>
   split
   ·exact nowr _ rfl rfl trivial trivial
   ·exact nowr _ rfl rfl trivial trivial
  case z5 a b'=>
   exact fin _ none ⟨_,_,HP.Y2l hil hq⟩ (tsame _ _ rfl rfl trivial rfl rfl) trivial
  case z6 a b'=>
   obtain⟨k0,k1,k4,k2,k3⟩:=w0 _
   exact fin _ _ ⟨_,_,by rw[k0,k1,k4];exact HP.X3G hil hq⟩ (tsame _ _ rfl rfl trivial k2 k3) trivial
  case z8 a b'=>
   obtain⟨k0,k1,k4,k2,k3⟩:=w1 _
   exact fin _ _ ⟨_,_,by rw[k0,k1,k4];exact HP.upin hil hq⟩ (tsame _ _ rfl rfl trivial k2 k3) (Or.inr (Or.inr rfl))
 ·obtain⟨h1,h2,⟨Rin,Rout,HP⟩,⟨Wi,Wo,T,HT⟩,h5⟩:=H
  have ha:=HT.at_ i hi
  have hrg:=HT.rng i hi
  have hpost:pfK.post (ps.getD i (pfK.idle 0)) (m c)=Q4E (ps.getD i (pfK.idle 0)):=rfl
  rw[hpost]
  have hil:i<(ps.map Q1C).length:=by simpa using(show i<ps.length by omega)
  have hq:=Q4f (g:=Q1C) (d:=pfK.idle 0) (e:=Ph.none) (l:=ps) (i:=i) (by omega)
  obtain⟨p,hp⟩: ∃p,ps.getD i (pfK.idle 0)=p:=⟨_,rfl⟩
  rw[hp]at ha hq hw hrg⊢
  have fin: ∀q,(∃Rin Rout,Q2u ((ps.map Q1C).set i (Q1C q)) (m 0) (m 1) (m 4) Rin Rout)→(∃Wi Wo T,X0f base n b (ps.set i q) m Wi Wo T)→X8i q→pfI base n b (ps.set i q) m:=
   fun q g1 g2 g3=>⟨h1,by simpa using h2,by rw[List.map_set];exact g1,g2,X8g h5 g3⟩
  have tsame: ∀q,pfH q=pfH p→pfW q=pfW p→X2y base Wi Wo (T i) q→ ∃Wi Wo T,X0f base n b (ps.set i q) m Wi Wo T:=
   fun q g1 g2 g3=>⟨Wi,Wo,T,HT.same hl hi hp g1 g2 g3 ⟨rfl,rfl⟩⟩
  cases p<;>simp[pfK,Q3I]at hw<;>simp only[X2y]at ha
  case r1 a=>
   obtain⟨rfl,rfl⟩:=hw
   have h0: ¬m 0%4=a%4:=by simpa using hpr
   exact fin _ ⟨_,_,HP.lets hil hq h0⟩ (tsame _ rfl rfl trivial) (Or.inr (Or.inl rfl))
  case l1 a=>
   obtain⟨rfl,rfl⟩:=hw
   have h0:m 3=a:=by simpa using hpr
   have hr:=hrg rfl
   have hs:=Q1w X3O ps
   have hT:T i=Wo:=by have:=HT.m3;have:=HT.lo;have:=HT.le;have:=HT.hi;omega
   obtain⟨z,H'⟩:=HT.turn (p':= .l2 a) (m':=m) hl hi hp hT rfl rfl rfl rfl trivial ⟨rfl,rfl⟩
   exact fin _ ⟨_,_,HP.take hil hq (by rw[Y0Z];exact z)⟩ ⟨_,_,_,H'⟩ trivial
  case l4 a b'=>
   obtain⟨rfl,rfl⟩:=hw
   have h0:m 1=a:=by simpa using hpr
   exact fin _ ⟨_,_,HP.Y1J hil hq h0⟩ (tsame _ rfl rfl trivial) (Or.inr (Or.inr rfl))
  case y7 a b'=>
   obtain⟨rfl,rfl⟩:=hw
   have h0:m 1=a:=by simpa using hpr
   exact fin _ ⟨_,_,HP.Y1J hil hq h0⟩ (tsame _ rfl rfl trivial) (Or.inr (Or.inr rfl))
  case z7 a b'=>
   obtain⟨rfl,rfl⟩:=hw
   have h0:m 1=(a-256)%4294967296:=by simpa using hpr
   exact fin _ ⟨_,_,HP.Y2B hil hq h0⟩ (tsame _ rfl rfl trivial) trivial
 ·obtain⟨h1,h2,⟨Rin,Rout,HP⟩,⟨Wi,Wo,T,HT⟩,h5⟩:=H
  have hact:pfK.act i (ps.getD i (pfK.idle 0)) m=Q1z (m 0) (m 1) (m 2) (m 3) (m 4) (ps.getD i (pfK.idle 0)):=rfl
  rw[hact]at hpr⊢
  have hil:i<(ps.map Q1C).length:=by simpa using(show i<ps.length by omega)
  have hjl:j<(ps.map Q1C).length:=by simpa using(show j<ps.length by omega)
  have hq:=Q4f (g:=Q1C) (d:=pfK.idle 0) (e:=Ph.none) (l:=ps) (i:=i) (by omega)
  have hqj:=Q4f (g:=Q1C) (d:=pfK.idle 0) (e:=Ph.none) (l:=ps) (i:=j) (by omega)
  obtain⟨p,hp⟩: ∃p,ps.getD i (pfK.idle 0)=p:=⟨_,rfl⟩
  obtain⟨q,hqq⟩: ∃q,ps.getD j (pfK.idle 0)=q:=⟨_,rfl⟩
  rw[hp]at hw hop hpr hq⊢
  rw[hqq]at hwj hqj
  have QM:=HP.ok _ (Q0k (d:=Ph.none) hjl)
  rw[hqj]at QM
  have hal:=fun h=>HP.alone hil hq h hjl (fun h=>hij h.symm)
  rw[hqj]at hal
  have HA:=HP.own hil hq
  have hone:=HP.one
  have off:=HP.off
  obtain⟨⟨s0,s1,s2,s3,s4,s5,s6,s7⟩,s8,s9⟩:=HP.sums
  have hx0:0≤m 0∧m 0<4294967296:=by have:=HP.on;omega
  have hc:(c=0∧ ∃a,q= .r1 a∧pr=(fun v=>v%4 !=a%4))∨c=3∨(c=1∧(Q1C q).hd=true):=by
   cases q<;>simp[pfK,Q3I]at hwj
   case r1 a=>exact Or.inl ⟨hwj.1.symm,a,rfl,hwj.2.symm⟩
   case l1 a=>exact Or.inr (Or.inl hwj.1.symm)
   all_goals exact Or.inr (Or.inr ⟨hwj.1.symm,rfl⟩)
  have keep: ∀w,(Q1z (m 0) (m 1) (m 2) (m 3) (m 4) p).2.1=w→written m w c=m c→pr (m c)=true∨(Q1z (m 0) (m 1) (m 2) (m 3) (m 4) p).2.2=some c:=fun w g1 g2=>Or.inl (by rw[←g2,←g1];exact hpr)
  have other: ∀c0 v,(Q1z (m 0) (m 1) (m 2) (m 3) (m 4) p).2.1=some (c0,v)→c≠c0→pr (m c)=true∨(Q1z (m 0) (m 1) (m 2) (m 3) (m 4) p).2.2=some c:=fun c0 v g1 g2=>keep _ g1 (by simp[written,upd,g2])
  have more: ∀v,(Q1z (m 0) (m 1) (m 2) (m 3) (m 4) p).2.1=some (0,v)→v%4=m 0%4→pr (m c)=true∨(Q1z (m 0) (m 1) (m 2) (m 3) (m 4) p).2.2=some c:=fun v g1 g2=>by
   rcases hc with⟨rfl,a,rfl,rfl⟩|rfl|⟨rfl,_⟩
   ·left
    rw[g1]at hpr
    simp only[written,upd,if_true]at hpr⊢
    rw[←g2];exact hpr
   ·exact other 0 _ g1 (by decide)
   ·exact other 0 _ g1 (by decide)
  have pres: ∀v,(Q1z (m 0) (m 1) (m 2) (m 3) (m 4) p).2.1=some (0,v)→(Q1C p).hd=true→wIn (Q1C p)+wUp (Q1C p)+wPd (Q1C p)+wA2 (Q1C p)=0→pr (m c)=true∨(Q1z (m 0) (m 1) (m 2) (m 3) (m 4) p).2.2=some c:=fun v g1 g2 g3=>by
   rcases hc with⟨rfl,a,rfl,rfl⟩|rfl|⟨rfl,_⟩
   ·left
    have hh:wHd (Q1C p)=1:=by unfold wHd;rw[g2];rfl
    have h0:=off (by omega)
    have hwt:=(QM.wt (a%4) rfl).1
    have: ¬m 0%4=a%4:=by omega
    simpa using this
   ·exact other 0 _ g1 (by decide)
   ·exact other 0 _ g1 (by decide)
  cases p<;>simp[pfK,Q3I]at hw<;>simp[pfK,Q1v,Q2G,Fr.zero]at hop
  case r0=>exact more _ rfl (by omega)
  case q1 a=>
   by_cases h0:m 0=a
   ·exact more ((a+256)%4294967296) (by simp only[Q1z,if_pos h0]) (by omega)
   ·exact keep none (by simp only[Q1z,if_neg h0]) rfl
  case l3 a b'=>exact pres _ rfl rfl rfl
  case y6 a b'=>exact pres _ rfl rfl rfl
  case z6 a b'=>exact pres _ rfl rfl rfl
  case u0=>rcases hc with⟨rfl,_⟩|rfl|⟨rfl,_⟩<;>first|exact Or.inr rfl|exact other 1 _ rfl (by decide)
  case v1 b'=>rcases hc with⟨rfl,_⟩|rfl|⟨rfl,_⟩<;>first|exact Or.inr rfl|exact other 0 _ rfl (by decide)
  case d1 b'=>rcases hc with⟨rfl,_⟩|rfl|⟨rfl,_⟩<;>first|exact Or.inr rfl|exact other 0 _ rfl (by decide)
  case v2 b'=>rcases hc with⟨rfl,_⟩|rfl|⟨rfl,_⟩<;>exact other 4 _ rfl (by decide)
  case d2 b'=>rcases hc with⟨rfl,_⟩|rfl|⟨rfl,_⟩<;>exact other 4 _ rfl (by decide)
  case l0=>rcases hc with⟨rfl,_⟩|rfl|⟨rfl,_⟩<;>exact other 2 _ rfl (by decide)
  case v3 b'=>rcases hc with⟨rfl,_⟩|rfl|⟨rfl,_⟩<;>first|exact Or.inr rfl|exact other 3 _ rfl (by decide)
  case d3 b'=>rcases hc with⟨rfl,_⟩|rfl|⟨rfl,_⟩<;>first|exact Or.inr rfl|exact other 3 _ rfl (by decide)
  case y9 a b'=>rcases hc with⟨rfl,_⟩|rfl|⟨rfl,_⟩<;>first|exact Or.inr rfl|exact other 3 _ rfl (by decide)
  case z9 a b'=>rcases hc with⟨rfl,_⟩|rfl|⟨rfl,_⟩<;>first|exact Or.inr rfl|exact other 3 _ rfl (by decide)
  case z8 a b'=>
   rcases hc with⟨rfl,_⟩|rfl|⟨rfl,hh⟩
   ·exact other 1 _ rfl (by decide)
   ·exact other 1 _ rfl (by decide)
   ·have:=hal rfl
    rw[hh]at this
    cases this
  case y2 a b'=>
   by_cases h0:m 2=a
   ·rcases hc with⟨rfl,_⟩|rfl|⟨rfl,_⟩<;>exact other 2 _ (by simp only[Q1z,if_pos h0];rfl) (by decide)
   ·exact keep none (by simp only[Q1z,if_neg h0]) rfl
  case z2 a b'=>
   by_cases h0:m 2=a
   ·rcases hc with⟨rfl,_⟩|rfl|⟨rfl,_⟩<;>exact other 2 _ (by simp only[Q1z,if_pos h0];rfl) (by decide)
   ·exact keep none (by simp only[Q1z,if_neg h0]) rfl
  all_goals exact keep none rfl rfl
end Go.Proofs.YthnimpkoidablaaGreat.Z
