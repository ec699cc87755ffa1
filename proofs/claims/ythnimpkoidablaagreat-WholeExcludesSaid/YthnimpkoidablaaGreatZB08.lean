import Derived.Test.YthnimpkoidablaaGreatZB03
set_option linter.unusedVariables false
set_option linter.unusedSimpArgs false
set_option maxHeartbeats 6400000
namespace Go.Proofs.YthnimpkoidablaaGreat.Z
open Go.RowKit
inductive FqP
 |idle (h:Int)
 |r0
 |r1
 |r2
 |r3 (a:Int)
 |r4 (a:Int)
 |r5 (a:Int)
 |r6 (a:Int)
 |r7 (a:Int)
 |r8 (a:Int)
 |r9 (a:Int)
 |q0 (a:Int)
 |q1 (a:Int)
 |q5 (a:Int)
 |q6 (a:Int)
 |q7 (a:Int)
 |q8 (a:Int)
 |q9 (a:Int)
 |w0
 |w1
 |w2
 |w3 (a:Int)
 |w4 (a:Int)
 |w5 (a:Int)
 |v0
 |v1 (a:Int)
 |v2 (a:Int)
 |v3 (a:Int)
 |t0 (a:Int)
 |t1 (a:Int)
 |t2 (a:Int)
 |t6 (a:Int)
 |t7 (a:Int)
 |t8 (a:Int)
 |t9 (a:Int)
 |x0 (a:Int)
 |x1 (a:Int)
 |x2 (a:Int)
 |x3 (a:Int)
 |x6 (a:Int)
 |x7 (a:Int)
 |x8 (a:Int)
 |x9 (a:Int)
 |u0
 |d0
 |d1 (a:Int)
 |d2 (a:Int)
 |d3 (a:Int)
 |d4 (a:Int)
def Q2e(op line a:Int):Fr:=⟨op,line,a,0,0,Wk.zero,0⟩
def Q0Z:FqP→Fr×Int
 |.idle h=>(Fr.zero,h)
 |.r0=>(Q2e 1 0 0,0)
 |.r1=>(Q2e 1 1 0,0)
 |.r2=>(Q2e 1 2 0,0)
 |.r3 a=>(Q2e 1 3 a,0)
 |.r4 a=>(Q2e 1 4 a,0)
 |.r5 a=>(Q2e 1 5 a,0)
 |.r6 a=>(Q2e 1 6 a,0)
 |.r7 a=>(Q2e 1 7 a,0)
 |.r8 a=>(Q2e 1 8 a,0)
 |.r9 a=>(Q2e 1 9 a,0)
 |.q0 a=>(Q2e 5 0 a,0)
 |.q1 a=>(Q2e 5 1 a,0)
 |.q5 a=>(Q2e 5 5 a,0)
 |.q6 a=>(Q2e 5 6 a,0)
 |.q7 a=>(Q2e 5 7 a,0)
 |.q8 a=>(Q2e 5 8 a,0)
 |.q9 a=>(Q2e 5 9 a,0)
 |.w0=>(Q2e 3 0 0,0)
 |.w1=>(Q2e 3 1 0,0)
 |.w2=>(Q2e 3 2 0,0)
 |.w3 a=>(Q2e 3 3 a,0)
 |.w4 a=>(Q2e 3 4 a,0)
 |.w5 a=>(Q2e 3 5 a,0)
 |.v0=>(Q2e 4 0 0,0)
 |.v1 a=>(Q2e 4 1 a,0)
 |.v2 a=>(Q2e 4 2 a,0)
 |.v3 a=>(Q2e 4 3 a,0)
 |.t0 a=>(Q2e 6 0 a,0)
 |.t1 a=>(Q2e 6 1 a,0)
 |.t2 a=>(Q2e 6 2 a,0)
 |.t6 a=>(Q2e 6 6 a,0)
 |.t7 a=>(Q2e 6 7 a,0)
 |.t8 a=>(Q2e 6 8 a,0)
 |.t9 a=>(Q2e 6 9 a,0)
 |.x0 a=>(Q2e 7 0 a,1)
 |.x1 a=>(Q2e 7 1 a,1)
 |.x2 a=>(Q2e 7 2 a,1)
 |.x3 a=>(Q2e 7 3 a,1)
 |.x6 a=>(Q2e 7 6 a,1)
 |.x7 a=>(Q2e 7 7 a,1)
 |.x8 a=>(Q2e 7 8 a,1)
 |.x9 a=>(Q2e 7 9 a,1)
 |.u0=>(Q2e 2 0 0,0)
 |.d0=>(Q2e 8 0 0,1)
 |.d1 a=>(Q2e 8 1 a,1)
 |.d2 a=>(Q2e 8 2 a,1)
 |.d3 a=>(Q2e 8 3 a,1)
 |.d4 a=>(Q2e 8 4 a,1)
def Q2M(n t:Nat):FqP→Option (Nat×(Int→Bool))
 |.r4 _=>some (8+n+t,fun v=>v==0)
 |.w4 _=>some (8+n+t,fun v=>v==0)
 |.w5 _=>some (1,fun v=>v==0)
 |.r8 _=>some (8+t,fun v=>v !=0)
 |.q8 _=>some (8+t,fun v=>v !=0)
 |.v2 _=>some (8+t,fun v=>v !=0)
 |.t8 _=>some (8+t,fun v=>v !=0)
 |.x8 _=>some (8+t,fun v=>v !=0)
 |.d3 _=>some (8+t,fun v=>v !=0)
 |_=>none
def Q2y(v:Int):FqP→FqP
 |.r4 a=> .r5 a
 |.w4 a=> .w5 a
 |.w5 a=> .idle 2
 |.r8 a=> .r9 v
 |.q8 a=> .q9 v
 |.v2 a=> .v3 v
 |.t8 a=> .t9 v
 |.x8 a=> .x9 v
 |.d3 a=> .d4 v
 |p=>p
def Q3O(v:Int):FqP→Int
 |.r4 a=>a
 |.w4 a=>a
 |.w5 a=>a
 |.r8 a=>v
 |.q8 a=>v
 |.v2 a=>v
 |.t8 a=>v
 |.x8 a=>v
 |.d3 a=>v
 |_=>0
def Q0U(n t:Nat)(m:Nat→Int):FqP→FqP×Option (Nat×Int)×Option Nat
 |.r0=>(.r1,some (8+t,0),none)
 |.r1=>(.r2,some (8+n+t,1),none)
 |.r2=>(if m 0=0 then .r5 (m 0)else .r3 (m 0),some (0,(t:Int)+1),none)
 |.r3 a=>(.r4 a,some (8+(a-1).toNat,(t:Int)+1),some (8+(a-1).toNat))
 |.w0=>(.w1,some (8+t,0),none)
 |.w1=>(.w2,some (8+n+t,1),none)
 |.w2=>(if m 0=0 then .w5 (m 0)else .w3 (m 0),some (0,(t:Int)+1),none)
 |.w3 a=>(.w4 a,some (8+(a-1).toNat,(t:Int)+1),some (8+(a-1).toNat))
 |.r5 a=>(.r6 a,some (1,(m 1+1)%4294967296),none)
 |.q5 a=>(.q6 a,some (1,(m 1+1)%4294967296),none)
 |.q0 a=>(.q1 a,some (8+t,0),none)
 |.q1 a=>if m 0=0 then(.q5 a,some (0,(t:Int)+1),none)else(.idle 0,none,none)
 |.t0 a=>(.t1 a,some (8+t,0),none)
 |.t1 a=>if m 0=0 then(.t2 a,some (0,(t:Int)+1),none)else(.idle 0,none,none)
 |.x0 a=>(.x1 a,some (8+t,0),none)
 |.x1 a=>if m 0=0 then(.x2 a,some (0,(t:Int)+1),none)else(.idle 1,none,none)
 |.t2 a=>(if m 1=0 then .idle 2 else .t6 (m 1),none,none)
 |.x2 a=>(if m 1=1 then .x3 (m 1)else .x6 (m 1),none,none)
 |.x3 a=>(.idle 2,some (1,(m 1+4294967295)%4294967296),none)
 |.u0=>(.idle 0,some (1,(m 1+4294967295)%4294967296),some 1)
 |.d0=>(.d1 0,some (1,(m 1+1)%4294967296),none)
 |.r6 a=>(if m (8+t)=0 then .r7 (m (8+t))else .r9 (m (8+t)),none,none)
 |.r7 a=>if m 0=(t:Int)+1 then(.idle 1,some (0,0),none)else(.r8 a,none,none)
 |.r9 a=>(.idle 1,some (8+n+(a-1).toNat,0),some (8+n+(a-1).toNat))
 |.q6 a=>(if m (8+t)=0 then .q7 (m (8+t))else .q9 (m (8+t)),none,none)
 |.q7 a=>if m 0=(t:Int)+1 then(.idle 1,some (0,0),none)else(.q8 a,none,none)
 |.q9 a=>(.idle 1,some (8+n+(a-1).toNat,0),some (8+n+(a-1).toNat))
 |.v0=>(if m (8+t)=0 then .v1 (m (8+t))else .v3 (m (8+t)),none,none)
 |.v1 a=>if m 0=(t:Int)+1 then(.idle 0,some (0,0),none)else(.v2 a,none,none)
 |.v3 a=>(.idle 0,some (8+n+(a-1).toNat,0),some (8+n+(a-1).toNat))
 |.t6 a=>(if m (8+t)=0 then .t7 (m (8+t))else .t9 (m (8+t)),none,none)
 |.t7 a=>if m 0=(t:Int)+1 then(.idle 0,some (0,0),none)else(.t8 a,none,none)
 |.t9 a=>(.idle 0,some (8+n+(a-1).toNat,0),some (8+n+(a-1).toNat))
 |.x6 a=>(if m (8+t)=0 then .x7 (m (8+t))else .x9 (m (8+t)),none,none)
 |.x7 a=>if m 0=(t:Int)+1 then(.idle 1,some (0,0),none)else(.x8 a,none,none)
 |.x9 a=>(.idle 1,some (8+n+(a-1).toNat,0),some (8+n+(a-1).toNat))
 |.d1 a=>(if m (8+t)=0 then .d2 (m (8+t))else .d4 (m (8+t)),none,none)
 |.d2 a=>if m 0=(t:Int)+1 then(.idle 1,some (0,0),none)else(.d3 a,none,none)
 |.d4 a=>(.idle 1,some (8+n+(a-1).toNat,0),some (8+n+(a-1).toNat))
 |p=>(p,none,none)
def Q4V(op h:Int):FqP:=if op=1 then .r0 else if op=2 then .u0 else if op=3 then .w0 else if op=4 then .v0 else if op=5 then .q0 0 else if op=6 then .t0 0 else if op=7 then .x0 0 else .d0
def Q4v:FqP→Mk
 |.idle h=>if h=2 then .hd else .out
 |.r0=> .out
 |.r1=> .nx
 |.r2=> .nb
 |.r3 a=> .e3 a
 |.r4 _=> .e4
 |.r5 _=> .hd
 |.r6 _=> .hd
 |.r7 _=> .g1
 |.r8 _=> .g2
 |.r9 a=> .g3 a
 |.q0 _=> .out
 |.q1 _=> .nx
 |.q5 _=> .hd
 |.q6 _=> .hd
 |.q7 _=> .g1
 |.q8 _=> .g2
 |.q9 a=> .g3 a
 |.w0=> .out
 |.w1=> .nx
 |.w2=> .nb
 |.w3 a=> .e3 a
 |.w4 _=> .e4
 |.w5 _=> .hd
 |.v0=> .hd
 |.v1 _=> .g1
 |.v2 _=> .g2
 |.v3 a=> .g3 a
 |.t0 _=> .out
 |.t1 _=> .nx
 |.t2 _=> .hd
 |.t6 _=> .hd
 |.t7 _=> .g1
 |.t8 _=> .g2
 |.t9 a=> .g3 a
 |.x0 _=> .out
 |.x1 _=> .nx
 |.x2 _=> .hd
 |.x3 _=> .hd
 |.x6 _=> .hd
 |.x7 _=> .g1
 |.x8 _=> .g2
 |.x9 a=> .g3 a
 |.u0=> .out
 |.d0=> .hd
 |.d1 _=> .hd
 |.d2 _=> .g1
 |.d3 _=> .g2
 |.d4 a=> .g3 a
def Q2A:FqP→Int
 |.idle h=>if h=1 then 1 else 0
 |.r6 _=>1
 |.r7 _=>1
 |.r8 _=>1
 |.r9 _=>1
 |.q6 _=>1
 |.q7 _=>1
 |.q8 _=>1
 |.q9 _=>1
 |.x0 _=>1
 |.x1 _=>1
 |.x2 _=>1
 |.x3 _=>1
 |.x6 _=>1
 |.x7 _=>1
 |.x8 _=>1
 |.x9 _=>1
 |.u0=>1
 |.d1 _=>1
 |.d2 _=>1
 |.d3 _=>1
 |.d4 _=>1
 |_=>0
def fqOk(n:Nat)(p:FqP):Prop:= ∀a,(Q4v p= .e3 a∨Q4v p= .g3 a)→1≤a∧a≤n
def fqK(n:Nat):Q3D FqP:=⟨fqA,Q0Z,fun p v=>Q3O v p,fun t p=>Q2M n t p,fun p v=>Q2y v p,fun t p m=>Q0U n t m p, .idle,Q4V,fqOk n⟩
theorem Y4g(n:Nat)(mode:Int)(h1:1≤n)(h2:n≤64):(fqK n).Good n mode:=by
 refine⟨fun p=>by cases p<;>exact⟨rfl,rfl,rfl⟩,fun h=>rfl,fun p hp=> ?_,fun p hp=> ?_,fun t p c pr hw=> ?_,fun op h hm=> ?_,fun t op h hm=> ?_,fun t p c pr _ htn hw=> ?_,fun t p c pr v hw hh=> ?_,fun p t s hok ht hw hop hn hmd htk hf hl=> ?_,fun p t c pr st s hok ht hw h0 h3 hn hmd htk hf hl=> ?_,fun p t c pr v s hok ht hm2 hw hpr hn hmd htk hf hl=> ?_⟩
 ·cases p<;>first|rfl|(simp[fqK,Q0Z,Q2e]at hp)
 ·cases p<;>first|(simp[fqK,Q0Z,Q2e]at hp;done)|(simp[fqK,Q0Z,Q2e]at hp;rw[hp];rfl)
 ·cases p<;>simp[fqK,Q2M]at hw<;>simp[fqK,Q0Z,Q2e]
 ·rcases Q2L hm with⟨rfl,rfl|rfl|rfl|rfl⟩|⟨rfl,rfl|rfl⟩|⟨_,_,rfl|rfl⟩<;>simp[Q4V,fqK,Q0Z,Q2e,Q4h,Q0w]
 ·rcases Q2L hm with⟨rfl,rfl|rfl|rfl|rfl⟩|⟨rfl,rfl|rfl⟩|⟨_,_,rfl|rfl⟩<;>simp[fqK,Q4V,Q2M]
 ·cases p<;>simp[fqK,Q2M]at hw<;>omega
 ·cases p<;>simp[fqK,Q2M]at hw<;>simp[Q2y,fqK,Q0Z,Q2e]at hh⊢
 ·obtain⟨sn,sm,st,f,acc,notes,L⟩:=s
  simp only at hn hmd htk hf hl
  subst hn hmd htk hf
  have e0:=Q1p (n:=n) (row:=0) (i:=t) h1 h2 (by omega) (by omega)
  have e1:=Q1p (n:=n) (row:=1) (i:=t) h1 h2 (by omega) (by omega)
  simp only[Int.zero_mul,Int.add_zero,Int.one_mul]at e0 e1
  have ow:((t:Int)+1)%4294967296=t+1:=by omega
  have c0:(0:Int).toNat=0:=rfl
  have c1:(1:Int).toNat=1:=rfl
  have cN:(8+(t:Int)).toNat=8+t:=by omega
  have cB:(8+(n:Int)+t).toNat=8+n+t:=by omega
  have lN:=Q6f (n:=n) (L:=L) (c:=8+(t:Int)) hl (by omega) (by omega)
  have sN:=fun x=>Q3Y (n:=n) (L:=L) (c:=8+(t:Int)) (x:=x) hl (by omega) (by omega)
  have sB:=fun x=>Q3Y (n:=n) (L:=L) (c:=8+(n:Int)+t) (x:=x) hl (by omega) (by omega)
  have w0:=fun x=>Y7r (n:=n) (L:=L) (c:=0) (x:=x) hl (by decide) (by omega)
  have k0:=fun x y=>Q4T (n:=n) (L:=L) (c:=0) (x:=x) (y:=y) hl (by decide) (by omega)
  have b0:=fun x y=>Q3Z (n:=n) (L:=L) (c:=0) (x:=x) (y:=y) hl (by decide) (by omega)
  have l1:=Q6f (n:=n) (L:=L) (c:=1) hl (by decide) (by omega)
  have a1:=fun x=>Q7B (n:=n) (L:=L) (c:=1) (x:=x) hl (by decide) (by omega)
  simp only[c0,c1,cN,cB]at lN sN sB w0 k0 b0 l1 a1
  have gN:(1:Nat)=1:=rfl
  have gB:(1:Nat)=1:=rfl
  show X3e (fqK n) n p (Q0U n t (Q0j n L) p) _ _
  change fqOk n p at hok
  cases p<;>simp[fqK,Q2M]at hw<;>simp[fqK,Q0Z,Q2e,Fr.zero]at hop
  case r0=>constructor<;>simp[fqK,Q0Z,Q2e,fqA,Q0U,Q0Q,Q1I,Q1c,Q0z,Q0B,Q0A,Q0C,Q0n,Q0L,Q0v,Q1S,Q2b,Q1U,Q2a,Q1Y,Q1X,Q1T,Q1W,Q1Z,Q0H,wrap64,Rn.fresh,Rn.did,Rn.Q0h,Rn.setB,Rn.note,Rn.goto,Rn.Q0d,Rn.fin,Rn.wake,Rn.keep,Q0e,Q0o,Q0c,Q1f,Q0w,e0,e1,ow,c0,c1,cN,cB,gN,gB,lN,sN,sB,w0,k0,b0,l1,a1]<;>omega
  case r1=>constructor<;>simp[fqK,Q0Z,Q2e,fqA,Q0U,Q0Q,Q1I,Q1c,Q0z,Q0B,Q0A,Q0C,Q0n,Q0L,Q0v,Q1S,Q2b,Q1U,Q2a,Q1Y,Q1X,Q1T,Q1W,Q1Z,Q0H,wrap64,Rn.fresh,Rn.did,Rn.Q0h,Rn.setB,Rn.note,Rn.goto,Rn.Q0d,Rn.fin,Rn.wake,Rn.keep,Q0e,Q0o,Q0c,Q1f,Q0w,e0,e1,ow,c0,c1,cN,cB,gN,gB,lN,sN,sB,w0,k0,b0,l1,a1]<;>omega
  case r2=>by_cases q0:Q0j n L 0=0<;>constructor<;>simp[fqK,Q0Z,Q2e,fqA,Q0U,Q0Q,Q1I,Q1c,Q0z,Q0B,Q0A,Q0C,Q0n,Q0L,Q0v,Q1S,Q2b,Q1U,Q2a,Q1Y,Q1X,Q1T,Q1W,Q1Z,Q0H,wrap64,Rn.fresh,Rn.did,Rn.Q0h,Rn.setB,Rn.note,Rn.goto,Rn.Q0d,Rn.fin,Rn.wake,Rn.keep,Q0e,Q0o,Q0c,Q1f,Q0w,q0,e0,e1,ow,c0,c1,cN,cB,gN,gB,lN,sN,sB,w0,k0,b0,l1,a1]<;>omega
  case r3 a=>obtain⟨k,rfl⟩: ∃k:Nat,a=(k:Int)+1:=⟨(a-1).toNat,(by have:=hok a (by simp[Q4v]);omega)⟩;have ho:=hok (k+1) (by simp[Q4v]);have eA:=Q1p (n:=n) (row:=0) (i:=k) h1 h2 (by omega) (by omega);have eT:=Q3Y (n:=n) (L:=L) (c:=8+(k:Int)) (x:=(t:Int)+1) hl (by omega) (by omega);have eZ:(8+(k:Int)).toNat=8+k:=(by omega);have eK:(k:Int)+1-1=k:=(by omega);simp only[Int.zero_mul,Int.add_zero,Int.one_mul]at eA;rw[eZ]at eT;constructor<;>simp[fqK,Q0Z,Q2e,fqA,Q0U,Q0Q,Q1I,Q1c,Q0z,Q0B,Q0A,Q0C,Q0n,Q0L,Q0v,Q1S,Q2b,Q1U,Q2a,Q1Y,Q1X,Q1T,Q1W,Q1Z,Q0H,wrap64,Rn.fresh,Rn.did,Rn.Q0h,Rn.setB,Rn.note,Rn.goto,Rn.Q0d,Rn.fin,Rn.wake,Rn.keep,Q0e,Q0o,Q0c,Q1f,Q0w,eA,eT,eK,e0,e1,ow,c0,c1,cN,cB,gN,gB,lN,sN,sB,w0,k0,b0,l1,a1]<;>omega
  case r5 a=>constructor<;>simp[fqK,Q0Z,Q2e,fqA,Q0U,Q0Q,Q1I,Q1c,Q0z,Q0B,Q0A,Q0C,Q0n,Q0L,Q0v,Q1S,Q2b,Q1U,Q2a,Q1Y,Q1X,Q1T,Q1W,Q1Z,Q0H,wrap64,Rn.fresh,Rn.did,Rn.Q0h,Rn.setB,Rn.note,Rn.goto,Rn.Q0d,Rn.fin,Rn.wake,Rn.keep,Q0e,Q0o,Q0c,Q1f,Q0w,e0,e1,ow,c0,c1,cN,cB,gN,gB,lN,sN,sB,w0,k0,b0,l1,a1]<;>omega
  case r6 a=>by_cases q0:Q0j n L (8+t)=0<;>constructor<;>simp[fqK,Q0Z,Q2e,fqA,Q0U,Q0Q,Q1I,Q1c,Q0z,Q0B,Q0A,Q0C,Q0n,Q0L,Q0v,Q1S,Q2b,Q1U,Q2a,Q1Y,Q1X,Q1T,Q1W,Q1Z,Q0H,wrap64,Rn.fresh,Rn.did,Rn.Q0h,Rn.setB,Rn.note,Rn.goto,Rn.Q0d,Rn.fin,Rn.wake,Rn.keep,Q0e,Q0o,Q0c,Q1f,Q0w,q0,e0,e1,ow,c0,c1,cN,cB,gN,gB,lN,sN,sB,w0,k0,b0,l1,a1]<;>omega
  case r7 a=>by_cases q0:Q0j n L 0=(t:Int)+1<;>constructor<;>simp[fqK,Q0Z,Q2e,fqA,Q0U,Q0Q,Q1I,Q1c,Q0z,Q0B,Q0A,Q0C,Q0n,Q0L,Q0v,Q1S,Q2b,Q1U,Q2a,Q1Y,Q1X,Q1T,Q1W,Q1Z,Q0H,wrap64,Rn.fresh,Rn.did,Rn.Q0h,Rn.setB,Rn.note,Rn.goto,Rn.Q0d,Rn.fin,Rn.wake,Rn.keep,Q0e,Q0o,Q0c,Q1f,Q0w,q0,e0,e1,ow,c0,c1,cN,cB,gN,gB,lN,sN,sB,w0,k0,b0,l1,a1]<;>omega
  case r9 a=>obtain⟨k,rfl⟩: ∃k:Nat,a=(k:Int)+1:=⟨(a-1).toNat,(by have:=hok a (by simp[Q4v]);omega)⟩;have ho:=hok (k+1) (by simp[Q4v]);have eA:=Q1p (n:=n) (row:=1) (i:=k) h1 h2 (by omega) (by omega);have eT:=Q3Y (n:=n) (L:=L) (c:=8+(n:Int)+(k:Int)) (x:=0) hl (by omega) (by omega);have eZ:(8+(n:Int)+(k:Int)).toNat=8+n+k:=(by omega);have eK:(k:Int)+1-1=k:=(by omega);simp only[Int.zero_mul,Int.add_zero,Int.one_mul]at eA;rw[eZ]at eT;constructor<;>simp[fqK,Q0Z,Q2e,fqA,Q0U,Q0Q,Q1I,Q1c,Q0z,Q0B,Q0A,Q0C,Q0n,Q0L,Q0v,Q1S,Q2b,Q1U,Q2a,Q1Y,Q1X,Q1T,Q1W,Q1Z,Q0H,wrap64,Rn.fresh,Rn.did,Rn.Q0h,Rn.setB,Rn.note,Rn.goto,Rn.Q0d,Rn.fin,Rn.wake,Rn.keep,Q0e,Q0o,Q0c,Q1f,Q0w,eA,eT,eK,e0,e1,ow,c0,c1,cN,cB,gN,gB,lN,sN,sB,w0,k0,b0,l1,a1]<;>omega
  case q0 a=>constructor<;>simp[fqK,Q0Z,Q2e,fqA,Q0U,Q0Q,Q1I,Q1c,Q0z,Q0B,Q0A,Q0C,Q0n,Q0L,Q0v,Q1S,Q2b,Q1U,Q2a,Q1Y,Q1X,Q1T,Q1W,Q1Z,Q0H,wrap64,Rn.fresh,Rn.did,Rn.Q0h,Rn.setB,Rn.note,Rn.goto,Rn.Q0d,Rn.fin,Rn.wake,Rn.keep,Q0e,Q0o,Q0c,Q1f,Q0w,e0,e1,ow,c0,c1,cN,cB,gN,gB,lN,sN,sB,w0,k0,b0,l1,a1]<;>omega
  case q1 a=>by_cases q0:Q0j n L 0=0<;>constructor<;>simp[fqK,Q0Z,Q2e,fqA,Q0U,Q0Q,Q1I,Q1c,Q0z,Q0B,Q0A,Q0C,Q0n,Q0L,Q0v,Q1S,Q2b,Q1U,Q2a,Q1Y,Q1X,Q1T,Q1W,Q1Z,Q0H,wrap64,Rn.fresh,Rn.did,Rn.Q0h,Rn.setB,Rn.note,Rn.goto,Rn.Q0d,Rn.fin,Rn.wake,Rn.keep,Q0e,Q0o,Q0c,Q1f,Q0w,q0,e0,e1,ow,c0,c1,cN,cB,gN,gB,lN,sN,sB,w0,k0,b0,l1,a1]<;>omega
  case q5 a=>constructor<;>simp[fqK,Q0Z,Q2e,fqA,Q0U,Q0Q,Q1I,Q1c,Q0z,Q0B,Q0A,Q0C,Q0n,Q0L,Q0v,Q1S,Q2b,Q1U,Q2a,Q1Y,Q1X,Q1T,Q1W,Q1Z,Q0H,wrap64,Rn.fresh,Rn.did,Rn.Q0h,Rn.setB,Rn.note,Rn.goto,Rn.Q0d,Rn.fin,Rn.wake,Rn.keep,Q0e,Q0o,Q0c,Q1f,Q0w,e0,e1,ow,c0,c1,cN,cB,gN,gB,lN,sN,sB,w0,k0,b0,l1,a1]<;>omega
  case q6 a=>by_cases q0:Q0j n L (8+t)=0<;>constructor<;>simp[fqK,Q0Z,Q2e,fqA,Q0U,Q0Q,Q1I,Q1c,Q0z,Q0B,Q0A,Q0C,Q0n,Q0L,Q0v,Q1S,Q2b,Q1U,Q2a,Q1Y,Q1X,Q1T,Q1W,Q1Z,Q0H,wrap64,Rn.fresh,Rn.did,Rn.Q0h,Rn.setB,Rn.note,Rn.goto,Rn.Q0d,Rn.fin,Rn.wake,Rn.keep,Q0e,Q0o,Q0c,Q1f,Q0w,q0,e0,e1,ow,c0,c1,cN,cB,gN,gB,lN,sN,sB,w0,k0,b0,l1,a1]<;>omega
  case q7 a=>by_cases q0:Q0j n L 0=(t:Int)+1<;>constructor<;>simp[fqK,Q0Z,Q2e,fqA,Q0U,Q0Q,Q1I,Q1c,Q0z,Q0B,Q0A,Q0C,Q0n,Q0L,Q0v,Q1S,Q2b,Q1U,Q2a,Q1Y,Q1X,Q1T,Q1W,Q1Z,Q0H,wrap64,Rn.fresh,Rn.did,Rn.Q0h,Rn.setB,Rn.note,Rn.goto,Rn.Q0d,Rn.fin,Rn.wake,Rn.keep,Q0e,Q0o,Q0c,Q1f,Q0w,q0,e0,e1,ow,c0,c1,cN,cB,gN,gB,lN,sN,sB,w0,k0,b0,l1,a1]<;>omega
  case q9 a=>obtain⟨k,rfl⟩: ∃k:Nat,a=(k:Int)+1:=⟨(a-1).toNat,(by have:=hok a (by simp[Q4v]);omega)⟩;have ho:=hok (k+1) (by simp[Q4v]);have eA:=Q1p (n:=n) (row:=1) (i:=k) h1 h2 (by omega) (by omega);have eT:=Q3Y (n:=n) (L:=L) (c:=8+(n:Int)+(k:Int)) (x:=0) hl (by omega) (by omega);have eZ:(8+(n:Int)+(k:Int)).toNat=8+n+k:=(by omega);have eK:(k:Int)+1-1=k:=(by omega);simp only[Int.zero_mul,Int.add_zero,Int.one_mul]at eA;rw[eZ]at eT;constructor<;>simp[fqK,Q0Z,Q2e,fqA,Q0U,Q0Q,Q1I,Q1c,Q0z,Q0B,Q0A,Q0C,Q0n,Q0L,Q0v,Q1S,Q2b,Q1U,Q2a,Q1Y,Q1X,Q1T,Q1W,Q1Z,Q0H,wrap64,Rn.fresh,Rn.did,Rn.Q0h,Rn.setB,Rn.note,Rn.goto,Rn.Q0d,Rn.fin,Rn.wake,Rn.keep,Q0e,Q0o,Q0c,Q1f,Q0w,eA,eT,eK,e0,e1,ow,c0,c1,cN,cB,gN,gB,lN,sN,sB,w0,k0,b0,l1,a1]<;>omega
  case w0=>constructor<;>simp[fqK,Q0Z,Q2e,fqA,Q0U,Q0Q,Q1I,Q1c,Q0z,Q0B,Q0A,Q0C,Q0n,Q0L,Q0v,Q1S,Q2b,Q1U,Q2a,Q1Y,Q1X,Q1T,Q1W,Q1Z,Q0H,wrap64,Rn.fresh,Rn.did,Rn.Q0h,Rn.setB,Rn.note,Rn.goto,Rn.Q0d,Rn.fin,Rn.wake,Rn.keep,Q0e,Q0o,Q0c,Q1f,Q0w,e0,e1,ow,c0,c1,cN,cB,gN,gB,lN,sN,sB,w0,k0,b0,l1,a1]<;>omega
  case w1=>constructor<;>simp[fqK,Q0Z,Q2e,fqA,Q0U,Q0Q,Q1I,Q1c,Q0z,Q0B,Q0A,Q0C,Q0n,Q0L,Q0v,Q1S,Q2b,Q1U,Q2a,Q1Y,Q1X,Q1T,Q1W,Q1Z,Q0H,wrap64,Rn.fresh,Rn.did,Rn.Q0h,Rn.setB,Rn.note,Rn.goto,Rn.Q0d,Rn.fin,Rn.wake,Rn.keep,Q0e,Q0o,Q0c,Q1f,Q0w,e0,e1,ow,c0,c1,cN,cB,gN,gB,lN,sN,sB,w0,k0,b0,l1,a1]<;>omega
  case w2=>by_cases q0:Q0j n L 0=0<;>constructor<;>simp[fqK,Q0Z,Q2e,fqA,Q0U,Q0Q,Q1I,Q1c,Q0z,Q0B,Q0A,Q0C,Q0n,Q0L,Q0v,Q1S,Q2b,Q1U,Q2a,Q1Y,Q1X,Q1T,Q1W,Q1Z,Q0H,wrap64,Rn.fresh,Rn.did,Rn.Q0h,Rn.setB,Rn.note,Rn.goto,Rn.Q0d,Rn.fin,Rn.wake,Rn.keep,Q0e,Q0o,Q0c,Q1f,Q0w,q0,e0,e1,ow,c0,c1,cN,cB,gN,gB,lN,sN,sB,w0,k0,b0,l1,a1]<;>omega
  case w3 a=>obtain⟨k,rfl⟩: ∃k:Nat,a=(k:Int)+1:=⟨(a-1).toNat,(by have:=hok a (by simp[Q4v]);omega)⟩;have ho:=hok (k+1) (by simp[Q4v]);have eA:=Q1p (n:=n) (row:=0) (i:=k) h1 h2 (by omega) (by omega);have eT:=Q3Y (n:=n) (L:=L) (c:=8+(k:Int)) (x:=(t:Int)+1) hl (by omega) (by omega);have eZ:(8+(k:Int)).toNat=8+k:=(by omega);have eK:(k:Int)+1-1=k:=(by omega);simp only[Int.zero_mul,Int.add_zero,Int.one_mul]at eA;rw[eZ]at eT;constructor<;>simp[fqK,Q0Z,Q2e,fqA,Q0U,Q0Q,Q1I,Q1c,Q0z,Q0B,Q0A,Q0C,Q0n,Q0L,Q0v,Q1S,Q2b,Q1U,Q2a,Q1Y,Q1X,Q1T,Q1W,Q1Z,Q0H,wrap64,Rn.fresh,Rn.did,Rn.Q0h,Rn.setB,Rn.note,Rn.goto,Rn.Q0d,Rn.fin,Rn.wake,Rn.keep,Q0e,Q0o,Q0c,Q1f,Q0w,eA,eT,eK,e0,e1,ow,c0,c1,cN,cB,gN,gB,lN,sN,sB,w0,k0,b0,l1,a1]<;>omega
  case v0=>by_cases q0:Q0j n L (8+t)=0<;>constructor<;>simp[fqK,Q0Z,Q2e,fqA,Q0U,Q0Q,Q1I,Q1c,Q0z,Q0B,Q0A,Q0C,Q0n,Q0L,Q0v,Q1S,Q2b,Q1U,Q2a,Q1Y,Q1X,Q1T,Q1W,Q1Z,Q0H,wrap64,Rn.fresh,Rn.did,Rn.Q0h,Rn.setB,Rn.note,Rn.goto,Rn.Q0d,Rn.fin,Rn.wake,Rn.keep,Q0e,Q0o,Q0c,Q1f,Q0w,q0,e0,e1,ow,c0,c1,cN,cB,gN,gB,lN,sN,sB,w0,k0,b0,l1,a1]<;>omega
  case v1 a=>by_cases q0:Q0j n L 0=(t:Int)+1<;>constructor<;>simp[fqK,Q0Z,Q2e,fqA,Q0U,Q0Q,Q1I,Q1c,Q0z,Q0B,Q0A,Q0C,Q0n,Q0L,Q0v,Q1S,Q2b,Q1U,Q2a,Q1Y,Q1X,Q1T,Q1W,Q1Z,Q0H,wrap64,Rn.fresh,Rn.did,Rn.Q0h,Rn.setB,Rn.note,Rn.goto,Rn.Q0d,Rn.fin,Rn.wake,Rn.keep,Q0e,Q0o,Q0c,Q1f,Q0w,q0,e0,e1,ow,c0,c1,cN,cB,gN,gB,lN,sN,sB,w0,k0,b0,l1,a1]<;>omega
  case v3 a=>obtain⟨k,rfl⟩: ∃k:Nat,a=(k:Int)+1:=⟨(a-1).toNat,(by have:=hok a (by simp[Q4v]);omega)⟩;have ho:=hok (k+1) (by simp[Q4v]);have eA:=Q1p (n:=n) (row:=1) (i:=k) h1 h2 (by omega) (by omega);have eT:=Q3Y (n:=n) (L:=L) (c:=8+(n:Int)+(k:Int)) (x:=0) hl (by omega) (by omega);have eZ:(8+(n:Int)+(k:Int)).toNat=8+n+k:=(by omega);have eK:(k:Int)+1-1=k:=(by omega);simp only[Int.zero_mul,Int.add_zero,Int.one_mul]at eA;rw[eZ]at eT;constructor<;>simp[fqK,Q0Z,Q2e,fqA,Q0U,Q0Q,Q1I,Q1c,Q0z,Q0B,Q0A,Q0C,Q0n,Q0L,Q0v,Q1S,Q2b,Q1U,Q2a,Q1Y,Q1X,Q1T,Q1W,Q1Z,Q0H,wrap64,Rn.fresh,Rn.did,Rn.Q0h,Rn.setB,Rn.note,Rn.goto,Rn.Q0d,Rn.fin,Rn.wake,Rn.keep,Q0e,Q0o,Q0c,Q1f,Q0w,eA,eT,eK,e0,e1,ow,c0,c1,cN,cB,gN,gB,lN,sN,sB,w0,k0,b0,l1,a1]<;>omega
  case t0 a=>constructor<;>simp[fqK,Q0Z,Q2e,fqA,Q0U,Q0Q,Q1I,Q1c,Q0z,Q0B,Q0A,Q0C,Q0n,Q0L,Q0v,Q1S,Q2b,Q1U,Q2a,Q1Y,Q1X,Q1T,Q1W,Q1Z,Q0H,wrap64,Rn.fresh,Rn.did,Rn.Q0h,Rn.setB,Rn.note,Rn.goto,Rn.Q0d,Rn.fin,Rn.wake,Rn.keep,Q0e,Q0o,Q0c,Q1f,Q0w,e0,e1,ow,c0,c1,cN,cB,gN,gB,lN,sN,sB,w0,k0,b0,l1,a1]<;>omega
  case t1 a=>by_cases q0:Q0j n L 0=0<;>constructor<;>simp[fqK,Q0Z,Q2e,fqA,Q0U,Q0Q,Q1I,Q1c,Q0z,Q0B,Q0A,Q0C,Q0n,Q0L,Q0v,Q1S,Q2b,Q1U,Q2a,Q1Y,Q1X,Q1T,Q1W,Q1Z,Q0H,wrap64,Rn.fresh,Rn.did,Rn.Q0h,Rn.setB,Rn.note,Rn.goto,Rn.Q0d,Rn.fin,Rn.wake,Rn.keep,Q0e,Q0o,Q0c,Q1f,Q0w,q0,e0,e1,ow,c0,c1,cN,cB,gN,gB,lN,sN,sB,w0,k0,b0,l1,a1]<;>omega
  case t2 a=>by_cases q0:Q0j n L 1=0<;>constructor<;>simp[fqK,Q0Z,Q2e,fqA,Q0U,Q0Q,Q1I,Q1c,Q0z,Q0B,Q0A,Q0C,Q0n,Q0L,Q0v,Q1S,Q2b,Q1U,Q2a,Q1Y,Q1X,Q1T,Q1W,Q1Z,Q0H,wrap64,Rn.fresh,Rn.did,Rn.Q0h,Rn.setB,Rn.note,Rn.goto,Rn.Q0d,Rn.fin,Rn.wake,Rn.keep,Q0e,Q0o,Q0c,Q1f,Q0w,q0,e0,e1,ow,c0,c1,cN,cB,gN,gB,lN,sN,sB,w0,k0,b0,l1,a1]<;>omega
  case t6 a=>by_cases q0:Q0j n L (8+t)=0<;>constructor<;>simp[fqK,Q0Z,Q2e,fqA,Q0U,Q0Q,Q1I,Q1c,Q0z,Q0B,Q0A,Q0C,Q0n,Q0L,Q0v,Q1S,Q2b,Q1U,Q2a,Q1Y,Q1X,Q1T,Q1W,Q1Z,Q0H,wrap64,Rn.fresh,Rn.did,Rn.Q0h,Rn.setB,Rn.note,Rn.goto,Rn.Q0d,Rn.fin,Rn.wake,Rn.keep,Q0e,Q0o,Q0c,Q1f,Q0w,q0,e0,e1,ow,c0,c1,cN,cB,gN,gB,lN,sN,sB,w0,k0,b0,l1,a1]<;>omega
  case t7 a=>by_cases q0:Q0j n L 0=(t:Int)+1<;>constructor<;>simp[fqK,Q0Z,Q2e,fqA,Q0U,Q0Q,Q1I,Q1c,Q0z,Q0B,Q0A,Q0C,Q0n,Q0L,Q0v,Q1S,Q2b,Q1U,Q2a,Q1Y,Q1X,Q1T,Q1W,Q1Z,Q0H,wrap64,Rn.fresh,Rn.did,Rn.Q0h,Rn.setB,Rn.note,Rn.goto,Rn.Q0d,Rn.fin,Rn.wake,Rn.keep,Q0e,Q0o,Q0c,Q1f,Q0w,q0,e0,e1,ow,c0,c1,cN,cB,gN,gB,lN,sN,sB,w0,k0,b0,l1,a1]<;>omega
  case t9 a=>obtain⟨k,rfl⟩: ∃k:Nat,a=(k:Int)+1:=⟨(a-1).toNat,(by have:=hok a (by simp[Q4v]);omega)⟩;have ho:=hok (k+1) (by simp[Q4v]);have eA:=Q1p (n:=n) (row:=1) (i:=k) h1 h2 (by omega) (by omega);have eT:=Q3Y (n:=n) (L:=L) (c:=8+(n:Int)+(k:Int)) (x:=0) hl (by omega) (by omega);have eZ:(8+(n:Int)+(k:Int)).toNat=8+n+k:=(by omega);have eK:(k:Int)+1-1=k:=(by omega);simp only[Int.zero_mul,Int.add_zero,Int.one_mul]at eA;rw[eZ]at eT;constructor<;>simp[fqK,Q0Z,Q2e,fqA,Q0U,Q0Q,Q1I,Q1c,Q0z,Q0B,Q0A,Q0C,Q0n,Q0L,Q0v,Q1S,Q2b,Q1U,Q2a,Q1Y,Q1X,Q1T,Q1W,Q1Z,Q0H,wrap64,Rn.fresh,Rn.did,Rn.Q0h,Rn.setB,Rn.note,Rn.goto,Rn.Q0d,Rn.fin,Rn.wake,Rn.keep,Q0e,Q0o,Q0c,Q1f,Q0w,eA,eT,eK,e0,e1,ow,c0,c1,cN,cB,gN,gB,lN,sN,sB,w0,k0,b0,l1,a1]<;>omega
  case x0 a=>constructor<;>simp[fqK,Q0Z,Q2e,fqA,Q0U,Q0Q,Q1I,Q1c,Q0z,Q0B,Q0A,Q0C,Q0n,Q0L,Q0v,Q1S,Q2b,Q1U,Q2a,Q1Y,Q1X,Q1T,Q1W,Q1Z,Q0H,wrap64,Rn.fresh,Rn.did,Rn.Q0h,Rn.setB,Rn.note,Rn.goto,Rn.Q0d,Rn.fin,Rn.wake,Rn.keep,Q0e,Q0o,Q0c,Q1f,Q0w,e0,e1,ow,c0,c1,cN,cB,gN,gB,lN,sN,sB,w0,k0,b0,l1,a1]<;>omega
  case x1 a=>by_cases q0:Q0j n L 0=0<;>constructor<;>simp[fqK,Q0Z,Q2e,fqA,Q0U,Q0Q,Q1I,Q1c,Q0z,Q0B,Q0A,Q0C,Q0n,Q0L,Q0v,Q1S,Q2b,Q1U,Q2a,Q1Y,Q1X,Q1T,Q1W,Q1Z,Q0H,wrap64,Rn.fresh,Rn.did,Rn.Q0h,Rn.setB,Rn.note,Rn.goto,Rn.Q0d,Rn.fin,Rn.wake,Rn.keep,Q0e,Q0o,Q0c,Q1f,Q0w,q0,e0,e1,ow,c0,c1,cN,cB,gN,gB,lN,sN,sB,w0,k0,b0,l1,a1]<;>omega
  case x2 a=>by_cases q0:Q0j n L 1=1<;>constructor<;>simp[fqK,Q0Z,Q2e,fqA,Q0U,Q0Q,Q1I,Q1c,Q0z,Q0B,Q0A,Q0C,Q0n,Q0L,Q0v,Q1S,Q2b,Q1U,Q2a,Q1Y,Q1X,Q1T,Q1W,Q1Z,Q0H,wrap64,Rn.fresh,Rn.did,Rn.Q0h,Rn.setB,Rn.note,Rn.goto,Rn.Q0d,Rn.fin,Rn.wake,Rn.keep,Q0e,Q0o,Q0c,Q1f,Q0w,q0,e0,e1,ow,c0,c1,cN,cB,gN,gB,lN,sN,sB,w0,k0,b0,l1,a1]<;>omega
  case x3 a=>constructor<;>simp[fqK,Q0Z,Q2e,fqA,Q0U,Q0Q,Q1I,Q1c,Q0z,Q0B,Q0A,Q0C,Q0n,Q0L,Q0v,Q1S,Q2b,Q1U,Q2a,Q1Y,Q1X,Q1T,Q1W,Q1Z,Q0H,wrap64,Rn.fresh,Rn.did,Rn.Q0h,Rn.setB,Rn.note,Rn.goto,Rn.Q0d,Rn.fin,Rn.wake,Rn.keep,Q0e,Q0o,Q0c,Q1f,Q0w,e0,e1,ow,c0,c1,cN,cB,gN,gB,lN,sN,sB,w0,k0,b0,l1,a1]<;>omega
  case x6 a=>by_cases q0:Q0j n L (8+t)=0<;>constructor<;>simp[fqK,Q0Z,Q2e,fqA,Q0U,Q0Q,Q1I,Q1c,Q0z,Q0B,Q0A,Q0C,Q0n,Q0L,Q0v,Q1S,Q2b,Q1U,Q2a,Q1Y,Q1X,Q1T,Q1W,Q1Z,Q0H,wrap64,Rn.fresh,Rn.did,Rn.Q0h,Rn.setB,Rn.note,Rn.goto,Rn.Q0d,Rn.fin,Rn.wake,Rn.keep,Q0e,Q0o,Q0c,Q1f,Q0w,q0,e0,e1,ow,c0,c1,cN,cB,gN,gB,lN,sN,sB,w0,k0,b0,l1,a1]<;>omega
  case x7 a=>by_cases q0:Q0j n L 0=(t:Int)+1<;>constructor<;>simp[fqK,Q0Z,Q2e,fqA,Q0U,Q0Q,Q1I,Q1c,Q0z,Q0B,Q0A,Q0C,Q0n,Q0L,Q0v,Q1S,Q2b,Q1U,Q2a,Q1Y,Q1X,Q1T,Q1W,Q1Z,Q0H,wrap64,Rn.fresh,Rn.did,Rn.Q0h,Rn.setB,Rn.note,Rn.goto,Rn.Q0d,Rn.fin,Rn.wake,Rn.keep,Q0e,Q0o,Q0c,Q1f,Q0w,q0,e0,e1,ow,c0,c1,cN,cB,gN,gB,lN,sN,sB,w0,k0,b0,l1,a1]<;>omega
  case x9 a=>obtain⟨k,rfl⟩: ∃k:Nat,a=(k:Int)+1:=⟨(a-1).toNat,(by have:=hok a (by simp[Q4v]);omega)⟩;have ho:=hok (k+1) (by simp[Q4v]);have eA:=Q1p (n:=n) (row:=1) (i:=k) h1 h2 (by omega) (by omega);have eT:=Q3Y (n:=n) (L:=L) (c:=8+(n:Int)+(k:Int)) (x:=0) hl (by omega) (by omega);have eZ:(8+(n:Int)+(k:Int)).toNat=8+n+k:=(by omega);have eK:(k:Int)+1-1=k:=(by omega);simp only[Int.zero_mul,Int.add_zero,Int.one_mul]at eA;rw[eZ]at eT;constructor<;>simp[fqK,Q0Z,Q2e,fqA,Q0U,Q0Q,Q1I,Q1c,Q0z,Q0B,Q0A,Q0C,Q0n,Q0L,Q0v,Q1S,Q2b,Q1U,Q2a,Q1Y,Q1X,Q1T,Q1W,Q1Z,Q0H,wrap64,Rn.fresh,Rn.did,Rn.Q0h,Rn.setB,Rn.note,Rn.goto,Rn.Q0d,Rn.fin,Rn.wake,Rn.keep,Q0e,Q0o,Q0c,Q1f,Q0w,eA,eT,eK,e0,e1,ow,c0,c1,cN,cB,gN,gB,lN,sN,sB,w0,k0,b0,l1,a1]<;>omega
  case u0=>constructor<;>simp[fqK,Q0Z,Q2e,fqA,Q0U,Q0Q,Q1I,Q1c,Q0z,Q0B,Q0A,Q0C,Q0n,Q0L,Q0v,Q1S,Q2b,Q1U,Q2a,Q1Y,Q1X,Q1T,Q1W,Q1Z,Q0H,wrap64,Rn.fresh,Rn.did,Rn.Q0h,Rn.setB,Rn.note,Rn.goto,Rn.Q0d,Rn.fin,Rn.wake,Rn.keep,Q0e,Q0o,Q0c,Q1f,Q0w,e0,e1,ow,c0,c1,cN,cB,gN,gB,lN,sN,sB,w0,k0,b0,l1,a1]<;>omega
  case d0=>constructor<;>simp[fqK,Q0Z,Q2e,fqA,Q0U,Q0Q,Q1I,Q1c,Q0z,Q0B,Q0A,Q0C,Q0n,Q0L,Q0v,Q1S,Q2b,Q1U,Q2a,Q1Y,Q1X,Q1T,Q1W,Q1Z,Q0H,wrap64,Rn.fresh,Rn.did,Rn.Q0h,Rn.setB,Rn.note,Rn.goto,Rn.Q0d,Rn.fin,Rn.wake,Rn.keep,Q0e,Q0o,Q0c,Q1f,Q0w,e0,e1,ow,c0,c1,cN,cB,gN,gB,lN,sN,sB,w0,k0,b0,l1,a1]<;>omega
  case d1 a=>by_cases q0:Q0j n L (8+t)=0<;>constructor<;>simp[fqK,Q0Z,Q2e,fqA,Q0U,Q0Q,Q1I,Q1c,Q0z,Q0B,Q0A,Q0C,Q0n,Q0L,Q0v,Q1S,Q2b,Q1U,Q2a,Q1Y,Q1X,Q1T,Q1W,Q1Z,Q0H,wrap64,Rn.fresh,Rn.did,Rn.Q0h,Rn.setB,Rn.note,Rn.goto,Rn.Q0d,Rn.fin,Rn.wake,Rn.keep,Q0e,Q0o,Q0c,Q1f,Q0w,q0,e0,e1,ow,c0,c1,cN,cB,gN,gB,lN,sN,sB,w0,k0,b0,l1,a1]<;>omega
  case d2 a=>by_cases q0:Q0j n L 0=(t:Int)+1<;>constructor<;>simp[fqK,Q0Z,Q2e,fqA,Q0U,Q0Q,Q1I,Q1c,Q0z,Q0B,Q0A,Q0C,Q0n,Q0L,Q0v,Q1S,Q2b,Q1U,Q2a,Q1Y,Q1X,Q1T,Q1W,Q1Z,Q0H,wrap64,Rn.fresh,Rn.did,Rn.Q0h,Rn.setB,Rn.note,Rn.goto,Rn.Q0d,Rn.fin,Rn.wake,Rn.keep,Q0e,Q0o,Q0c,Q1f,Q0w,q0,e0,e1,ow,c0,c1,cN,cB,gN,gB,lN,sN,sB,w0,k0,b0,l1,a1]<;>omega
  case d4 a=>obtain⟨k,rfl⟩: ∃k:Nat,a=(k:Int)+1:=⟨(a-1).toNat,(by have:=hok a (by simp[Q4v]);omega)⟩;have ho:=hok (k+1) (by simp[Q4v]);have eA:=Q1p (n:=n) (row:=1) (i:=k) h1 h2 (by omega) (by omega);have eT:=Q3Y (n:=n) (L:=L) (c:=8+(n:Int)+(k:Int)) (x:=0) hl (by omega) (by omega);have eZ:(8+(n:Int)+(k:Int)).toNat=8+n+k:=(by omega);have eK:(k:Int)+1-1=k:=(by omega);simp only[Int.zero_mul,Int.add_zero,Int.one_mul]at eA;rw[eZ]at eT;constructor<;>simp[fqK,Q0Z,Q2e,fqA,Q0U,Q0Q,Q1I,Q1c,Q0z,Q0B,Q0A,Q0C,Q0n,Q0L,Q0v,Q1S,Q2b,Q1U,Q2a,Q1Y,Q1X,Q1T,Q1W,Q1Z,Q0H,wrap64,Rn.fresh,Rn.did,Rn.Q0h,Rn.setB,Rn.note,Rn.goto,Rn.Q0d,Rn.fin,Rn.wake,Rn.keep,Q0e,Q0o,Q0c,Q1f,Q0w,eA,eT,eK,e0,e1,ow,c0,c1,cN,cB,gN,gB,lN,sN,sB,w0,k0,b0,l1,a1]<;>omega
 ·obtain⟨sn,sm,stk,f,acc,notes,L⟩:=s
  simp only at hn hmd htk hf hl
  subst hn hmd htk hf
  have e0:=Q1p (n:=n) (row:=0) (i:=t) h1 h2 (by omega) (by omega)
  have e1:=Q1p (n:=n) (row:=1) (i:=t) h1 h2 (by omega) (by omega)
  simp only[Int.zero_mul,Int.add_zero,Int.one_mul]at e0 e1
  cases p<;>simp[fqK,Q2M]at hw
  case r4 a=>
   obtain⟨rfl,rfl⟩:=hw
   have hd:=fun h=>Q1u (L:=L) (n:=n) (mode:=sm) (task:=t) (st:=st) (c:=(8+(n:Int)+t)) (p:=fun v=>v==0) h
   have hs:=fun h=>Q2i (L:=L) (n:=n) (mode:=sm) (task:=t) (st:=st) (c:=(8+(n:Int)+t)) (p:=fun v=>v==0) h0 h3 h
   have hc:((8+n+t:Nat):Int)=8+(n:Int)+t:=by omega
   simp[fqK,Q0Z,Q2e,fqA,Q0U,Q0Q,Q1I,Q1c,Q0z,Q0B,Q0A,Q0C,Q0n,Q0L,Q0v,Q1S,Q2b,Q1U,Q2a,Q1Y,Q1X,Q1T,Q1W,Q1Z,Q0H,wrap64,Rn.fresh,Rn.did,Rn.Q0h,Rn.setB,Rn.note,Rn.goto,Rn.Q0d,Rn.fin,Rn.wake,Rn.keep,Q0e,Q0o,Q0c,Q1f,Q0w,Rn.waited,Q3O,Q2y,e0,e1,hc]
   generalize Q0t L n sm t st (8+(n:Int)+t) (fun v=>v==0)=R at hd hs⊢
   obtain⟨rs,ra,rsn,rd,rw_⟩:=R
   cases rsn<;>cases rd<;>simp[Rn.note,Rn.fin,Rn.goto,Rn.Q0h,Q0o,Q0c]at hd hs⊢ <;>simp[hd,Wk.zero]
  case w4 a=>
   obtain⟨rfl,rfl⟩:=hw
   have hd:=fun h=>Q1u (L:=L) (n:=n) (mode:=sm) (task:=t) (st:=st) (c:=(8+(n:Int)+t)) (p:=fun v=>v==0) h
   have hs:=fun h=>Q2i (L:=L) (n:=n) (mode:=sm) (task:=t) (st:=st) (c:=(8+(n:Int)+t)) (p:=fun v=>v==0) h0 h3 h
   have hc:((8+n+t:Nat):Int)=8+(n:Int)+t:=by omega
   simp[fqK,Q0Z,Q2e,fqA,Q0U,Q0Q,Q1I,Q1c,Q0z,Q0B,Q0A,Q0C,Q0n,Q0L,Q0v,Q1S,Q2b,Q1U,Q2a,Q1Y,Q1X,Q1T,Q1W,Q1Z,Q0H,wrap64,Rn.fresh,Rn.did,Rn.Q0h,Rn.setB,Rn.note,Rn.goto,Rn.Q0d,Rn.fin,Rn.wake,Rn.keep,Q0e,Q0o,Q0c,Q1f,Q0w,Rn.waited,Q3O,Q2y,e0,e1,hc]
   generalize Q0t L n sm t st (8+(n:Int)+t) (fun v=>v==0)=R at hd hs⊢
   obtain⟨rs,ra,rsn,rd,rw_⟩:=R
   cases rsn<;>cases rd<;>simp[Rn.note,Rn.fin,Rn.goto,Rn.Q0h,Q0o,Q0c]at hd hs⊢ <;>simp[hd,Wk.zero]
  case w5 a=>
   obtain⟨rfl,rfl⟩:=hw
   have hd:=fun h=>Q1u (L:=L) (n:=n) (mode:=sm) (task:=t) (st:=st) (c:=(1:Int)) (p:=fun v=>v==0) h
   have hs:=fun h=>Q2i (L:=L) (n:=n) (mode:=sm) (task:=t) (st:=st) (c:=(1:Int)) (p:=fun v=>v==0) h0 h3 h
   simp[fqK,Q0Z,Q2e,fqA,Q0U,Q0Q,Q1I,Q1c,Q0z,Q0B,Q0A,Q0C,Q0n,Q0L,Q0v,Q1S,Q2b,Q1U,Q2a,Q1Y,Q1X,Q1T,Q1W,Q1Z,Q0H,wrap64,Rn.fresh,Rn.did,Rn.Q0h,Rn.setB,Rn.note,Rn.goto,Rn.Q0d,Rn.fin,Rn.wake,Rn.keep,Q0e,Q0o,Q0c,Q1f,Q0w,Rn.waited,Q3O,Q2y,e0,e1]
   generalize Q0t L n sm t st (1:Int) (fun v=>v==0)=R at hd hs⊢
   obtain⟨rs,ra,rsn,rd,rw_⟩:=R
   cases rsn<;>cases rd<;>simp[Rn.note,Rn.fin,Rn.goto,Rn.Q0h,Q0o,Q0c]at hd hs⊢ <;>simp[hd,Wk.zero]
  case r8 a=>
   obtain⟨rfl,rfl⟩:=hw
   have hd:=fun h=>Q1u (L:=L) (n:=n) (mode:=sm) (task:=t) (st:=st) (c:=(8+(t:Int))) (p:=fun v=>v !=0) h
   have hs:=fun h=>Q2i (L:=L) (n:=n) (mode:=sm) (task:=t) (st:=st) (c:=(8+(t:Int))) (p:=fun v=>v !=0) h0 h3 h
   have hc:((8+t:Nat):Int)=8+(t:Int):=by omega
   simp[fqK,Q0Z,Q2e,fqA,Q0U,Q0Q,Q1I,Q1c,Q0z,Q0B,Q0A,Q0C,Q0n,Q0L,Q0v,Q1S,Q2b,Q1U,Q2a,Q1Y,Q1X,Q1T,Q1W,Q1Z,Q0H,wrap64,Rn.fresh,Rn.did,Rn.Q0h,Rn.setB,Rn.note,Rn.goto,Rn.Q0d,Rn.fin,Rn.wake,Rn.keep,Q0e,Q0o,Q0c,Q1f,Q0w,Rn.waited,Q3O,Q2y,e0,e1,hc]
   generalize Q0t L n sm t st (8+(t:Int)) (fun v=>v !=0)=R at hd hs⊢
   obtain⟨rs,ra,rsn,rd,rw_⟩:=R
   cases rsn<;>cases rd<;>simp[Rn.note,Rn.fin,Rn.goto,Rn.Q0h,Q0o,Q0c]at hd hs⊢ <;>simp[hd,Wk.zero]
  case q8 a=>
   obtain⟨rfl,rfl⟩:=hw
   have hd:=fun h=>Q1u (L:=L) (n:=n) (mode:=sm) (task:=t) (st:=st) (c:=(8+(t:Int))) (p:=fun v=>v !=0) h
   have hs:=fun h=>Q2i (L:=L) (n:=n) (mode:=sm) (task:=t) (st:=st) (c:=(8+(t:Int))) (p:=fun v=>v !=0) h0 h3 h
   have hc:((8+t:Nat):Int)=8+(t:Int):=by omega
   simp[fqK,Q0Z,Q2e,fqA,Q0U,Q0Q,Q1I,Q1c,Q0z,Q0B,Q0A,Q0C,Q0n,Q0L,Q0v,Q1S,Q2b,Q1U,Q2a,Q1Y,Q1X,Q1T,Q1W,Q1Z,Q0H,wrap64,Rn.fresh,Rn.did,Rn.Q0h,Rn.setB,Rn.note,Rn.goto,Rn.Q0d,Rn.fin,Rn.wake,Rn.keep,Q0e,Q0o,Q0c,Q1f,Q0w,Rn.waited,Q3O,Q2y,e0,e1,hc]
   generalize Q0t L n sm t st (8+(t:Int)) (fun v=>v !=0)=R at hd hs⊢
   obtain⟨rs,ra,rsn,rd,rw_⟩:=R
   cases rsn<;>cases rd<;>simp[Rn.note,Rn.fin,Rn.goto,Rn.Q0h,Q0o,Q0c]at hd hs⊢ <;>simp[hd,Wk.zero]
  case v2 a=>
   obtain⟨rfl,rfl⟩:=hw
   have hd:=fun h=>Q1u (L:=L) (n:=n) (mode:=sm) (task:=t) (st:=st) (c:=(8+(t:Int))) (p:=fun v=>v !=0) h
   have hs:=fun h=>Q2i (L:=L) (n:=n) (mode:=sm) (task:=t) (st:=st) (c:=(8+(t:Int))) (p:=fun v=>v !=0) h0 h3 h
   have hc:((8+t:Nat):Int)=8+(t:Int):=by omega
   simp[fqK,Q0Z,Q2e,fqA,Q0U,Q0Q,Q1I,Q1c,Q0z,Q0B,Q0A,Q0C,Q0n,Q0L,Q0v,Q1S,Q2b,Q1U,Q2a,Q1Y,Q1X,Q1T,Q1W,Q1Z,Q0H,wrap64,Rn.fresh,Rn.did,Rn.Q0h,Rn.setB,Rn.note,Rn.goto,Rn.Q0d,Rn.fin,Rn.wake,Rn.keep,Q0e,Q0o,Q0c,Q1f,Q0w,Rn.waited,Q3O,Q2y,e0,e1,hc]
   generalize Q0t L n sm t st (8+(t:Int)) (fun v=>v !=0)=R at hd hs⊢
   obtain⟨rs,ra,rsn,rd,rw_⟩:=R
   cases rsn<;>cases rd<;>simp[Rn.note,Rn.fin,Rn.goto,Rn.Q0h,Q0o,Q0c]at hd hs⊢ <;>simp[hd,Wk.zero]
  case t8 a=>
   obtain⟨rfl,rfl⟩:=hw
   have hd:=fun h=>Q1u (L:=L) (n:=n) (mode:=sm) (task:=t) (st:=st) (c:=(8+(t:Int))) (p:=fun v=>v !=0) h
   have hs:=fun h=>Q2i (L:=L) (n:=n) (mode:=sm) (task:=t) (st:=st) (c:=(8+(t:Int))) (p:=fun v=>v !=0) h0 h3 h
   have hc:((8+t:Nat):Int)=8+(t:Int):=by omega
   simp[fqK,Q0Z,Q2e,fqA,Q0U,Q0Q,Q1I,Q1c,Q0z,Q0B,Q0A,Q0C,Q0n,Q0L,Q0v,Q1S,Q2b,Q1U,Q2a,Q1Y,Q1X,Q1T,Q1W,Q1Z,Q0H,wrap64,Rn.fresh,Rn.did,Rn.Q0h,Rn.setB,Rn.note,Rn.goto,Rn.Q0d,Rn.fin,Rn.wake,Rn.keep,Q0e,Q0o,Q0c,Q1f,Q0w,Rn.waited,Q3O,Q2y,e0,e1,hc]
   generalize Q0t L n sm t st (8+(t:Int)) (fun v=>v !=0)=R at hd hs⊢
   obtain⟨rs,ra,rsn,rd,rw_⟩:=R
   cases rsn<;>cases rd<;>simp[Rn.note,Rn.fin,Rn.goto,Rn.Q0h,Q0o,Q0c]at hd hs⊢ <;>simp[hd,Wk.zero]
  case x8 a=>
   obtain⟨rfl,rfl⟩:=hw
   have hd:=fun h=>Q1u (L:=L) (n:=n) (mode:=sm) (task:=t) (st:=st) (c:=(8+(t:Int))) (p:=fun v=>v !=0) h
   have hs:=fun h=>Q2i (L:=L) (n:=n) (mode:=sm) (task:=t) (st:=st) (c:=(8+(t:Int))) (p:=fun v=>v !=0) h0 h3 h
   have hc:((8+t:Nat):Int)=8+(t:Int):=by omega
   simp[fqK,Q0Z,Q2e,fqA,Q0U,Q0Q,Q1I,Q1c,Q0z,Q0B,Q0A,Q0C,Q0n,Q0L,Q0v,Q1S,Q2b,Q1U,Q2a,Q1Y,Q1X,Q1T,Q1W,Q1Z,Q0H,wrap64,Rn.fresh,Rn.did,Rn.Q0h,Rn.setB,Rn.note,Rn.goto,Rn.Q0d,Rn.fin,Rn.wake,Rn.keep,Q0e,Q0o,Q0c,Q1f,Q0w,Rn.waited,Q3O,Q2y,e0,e1,hc]
   generalize Q0t L n sm t st (8+(t:Int)) (fun v=>v !=0)=R at hd hs⊢
   obtain⟨rs,ra,rsn,rd,rw_⟩:=R
   cases rsn<;>cases rd<;>simp[Rn.note,Rn.fin,Rn.goto,Rn.Q0h,Q0o,Q0c]at hd hs⊢ <;>simp[hd,Wk.zero]
  case d3 a=>
   obtain⟨rfl,rfl⟩:=hw
   have hd:=fun h=>Q1u (L:=L) (n:=n) (mode:=sm) (task:=t) (st:=st) (c:=(8+(t:Int))) (p:=fun v=>v !=0) h
   have hs:=fun h=>Q2i (L:=L) (n:=n) (mode:=sm) (task:=t) (st:=st) (c:=(8+(t:Int))) (p:=fun v=>v !=0) h0 h3 h
   have hc:((8+t:Nat):Int)=8+(t:Int):=by omega
   simp[fqK,Q0Z,Q2e,fqA,Q0U,Q0Q,Q1I,Q1c,Q0z,Q0B,Q0A,Q0C,Q0n,Q0L,Q0v,Q1S,Q2b,Q1U,Q2a,Q1Y,Q1X,Q1T,Q1W,Q1Z,Q0H,wrap64,Rn.fresh,Rn.did,Rn.Q0h,Rn.setB,Rn.note,Rn.goto,Rn.Q0d,Rn.fin,Rn.wake,Rn.keep,Q0e,Q0o,Q0c,Q1f,Q0w,Rn.waited,Q3O,Q2y,e0,e1,hc]
   generalize Q0t L n sm t st (8+(t:Int)) (fun v=>v !=0)=R at hd hs⊢
   obtain⟨rs,ra,rsn,rd,rw_⟩:=R
   cases rsn<;>cases rd<;>simp[Rn.note,Rn.fin,Rn.goto,Rn.Q0h,Q0o,Q0c]at hd hs⊢ <;>simp[hd,Wk.zero]
 ·obtain⟨sn,sm,stk,f,acc,notes,L⟩:=s
  simp only at hn hmd htk hf hl
  subst hn hmd htk hf
  have e0:=Q1p (n:=n) (row:=0) (i:=t) h1 h2 (by omega) (by omega)
  have e1:=Q1p (n:=n) (row:=1) (i:=t) h1 h2 (by omega) (by omega)
  simp only[Int.zero_mul,Int.add_zero,Int.one_mul]at e0 e1
  cases p<;>simp[fqK,Q2M]at hw
  case r4 a=>
   obtain⟨rfl,rfl⟩:=hw
   have hd:=Q1b (L:=L) (n:=n) (task:=t) (c:=(8+(n:Int)+t)) (p:=fun v=>v==0) hm2
   have hs:=Q1i (L:=L) (n:=n) (task:=t) (c:=(8+(n:Int)+t)) (p:=fun v=>v==0) hm2
   have hc:((8+n+t:Nat):Int)=8+(n:Int)+t:=by omega
   simp[fqK,Q0Z,Q2e,fqA,Q0U,Q0Q,Q1I,Q1c,Q0z,Q0B,Q0A,Q0C,Q0n,Q0L,Q0v,Q1S,Q2b,Q1U,Q2a,Q1Y,Q1X,Q1T,Q1W,Q1Z,Q0H,wrap64,Rn.fresh,Rn.did,Rn.Q0h,Rn.setB,Rn.note,Rn.goto,Rn.Q0d,Rn.fin,Rn.wake,Rn.keep,Q0e,Q0o,Q0c,Q1f,Q0w,Rn.waited,Q3O,Q2y,e0,e1,hc]
   generalize Q0t L n sm t 4 (8+(n:Int)+t) (fun v=>v==0)=R at hd hs⊢
   obtain⟨rs,ra,rsn,rd,rw_⟩:=R
   obtain⟨rfl,rfl⟩:=hd
   obtain rfl:=hs
   simp[Rn.note,Rn.fin,Rn.goto,Rn.Q0h,Q0o,Q0c,Wk.zero]
  case w4 a=>
   obtain⟨rfl,rfl⟩:=hw
   have hd:=Q1b (L:=L) (n:=n) (task:=t) (c:=(8+(n:Int)+t)) (p:=fun v=>v==0) hm2
   have hs:=Q1i (L:=L) (n:=n) (task:=t) (c:=(8+(n:Int)+t)) (p:=fun v=>v==0) hm2
   have hc:((8+n+t:Nat):Int)=8+(n:Int)+t:=by omega
   simp[fqK,Q0Z,Q2e,fqA,Q0U,Q0Q,Q1I,Q1c,Q0z,Q0B,Q0A,Q0C,Q0n,Q0L,Q0v,Q1S,Q2b,Q1U,Q2a,Q1Y,Q1X,Q1T,Q1W,Q1Z,Q0H,wrap64,Rn.fresh,Rn.did,Rn.Q0h,Rn.setB,Rn.note,Rn.goto,Rn.Q0d,Rn.fin,Rn.wake,Rn.keep,Q0e,Q0o,Q0c,Q1f,Q0w,Rn.waited,Q3O,Q2y,e0,e1,hc]
   generalize Q0t L n sm t 4 (8+(n:Int)+t) (fun v=>v==0)=R at hd hs⊢
   obtain⟨rs,ra,rsn,rd,rw_⟩:=R
   obtain⟨rfl,rfl⟩:=hd
   obtain rfl:=hs
   simp[Rn.note,Rn.fin,Rn.goto,Rn.Q0h,Q0o,Q0c,Wk.zero]
  case w5 a=>
   obtain⟨rfl,rfl⟩:=hw
   have hd:=Q1b (L:=L) (n:=n) (task:=t) (c:=(1:Int)) (p:=fun v=>v==0) hm2
   have hs:=Q1i (L:=L) (n:=n) (task:=t) (c:=(1:Int)) (p:=fun v=>v==0) hm2
   simp[fqK,Q0Z,Q2e,fqA,Q0U,Q0Q,Q1I,Q1c,Q0z,Q0B,Q0A,Q0C,Q0n,Q0L,Q0v,Q1S,Q2b,Q1U,Q2a,Q1Y,Q1X,Q1T,Q1W,Q1Z,Q0H,wrap64,Rn.fresh,Rn.did,Rn.Q0h,Rn.setB,Rn.note,Rn.goto,Rn.Q0d,Rn.fin,Rn.wake,Rn.keep,Q0e,Q0o,Q0c,Q1f,Q0w,Rn.waited,Q3O,Q2y,e0,e1]
   generalize Q0t L n sm t 4 (1:Int) (fun v=>v==0)=R at hd hs⊢
   obtain⟨rs,ra,rsn,rd,rw_⟩:=R
   obtain⟨rfl,rfl⟩:=hd
   obtain rfl:=hs
   simp[Rn.note,Rn.fin,Rn.goto,Rn.Q0h,Q0o,Q0c,Wk.zero]
  case r8 a=>
   obtain⟨rfl,rfl⟩:=hw
   have hd:=Q1b (L:=L) (n:=n) (task:=t) (c:=(8+(t:Int))) (p:=fun v=>v !=0) hm2
   have hs:=Q1i (L:=L) (n:=n) (task:=t) (c:=(8+(t:Int))) (p:=fun v=>v !=0) hm2
   have hc:((8+t:Nat):Int)=8+(t:Int):=by omega
   simp[fqK,Q0Z,Q2e,fqA,Q0U,Q0Q,Q1I,Q1c,Q0z,Q0B,Q0A,Q0C,Q0n,Q0L,Q0v,Q1S,Q2b,Q1U,Q2a,Q1Y,Q1X,Q1T,Q1W,Q1Z,Q0H,wrap64,Rn.fresh,Rn.did,Rn.Q0h,Rn.setB,Rn.note,Rn.goto,Rn.Q0d,Rn.fin,Rn.wake,Rn.keep,Q0e,Q0o,Q0c,Q1f,Q0w,Rn.waited,Q3O,Q2y,e0,e1,hc]
   generalize Q0t L n sm t 4 (8+(t:Int)) (fun v=>v !=0)=R at hd hs⊢
   obtain⟨rs,ra,rsn,rd,rw_⟩:=R
   obtain⟨rfl,rfl⟩:=hd
   obtain rfl:=hs
   simp[Rn.note,Rn.fin,Rn.goto,Rn.Q0h,Q0o,Q0c,Wk.zero]
  case q8 a=>
   obtain⟨rfl,rfl⟩:=hw
   have hd:=Q1b (L:=L) (n:=n) (task:=t) (c:=(8+(t:Int))) (p:=fun v=>v !=0) hm2
   have hs:=Q1i (L:=L) (n:=n) (task:=t) (c:=(8+(t:Int))) (p:=fun v=>v !=0) hm2
   have hc:((8+t:Nat):Int)=8+(t:Int):=by omega
   simp[fqK,Q0Z,Q2e,fqA,Q0U,Q0Q,Q1I,Q1c,Q0z,Q0B,Q0A,Q0C,Q0n,Q0L,Q0v,Q1S,Q2b,Q1U,Q2a,Q1Y,Q1X,Q1T,Q1W,Q1Z,Q0H,wrap64,Rn.fresh,Rn.did,Rn.Q0h,Rn.setB,Rn.note,Rn.goto,Rn.Q0d,Rn.fin,Rn.wake,Rn.keep,Q0e,Q0o,Q0c,Q1f,Q0w,Rn.waited,Q3O,Q2y,e0,e1,hc]
   generalize Q0t L n sm t 4 (8+(t:Int)) (fun v=>v !=0)=R at hd hs⊢
   obtain⟨rs,ra,rsn,rd,rw_⟩:=R
   obtain⟨rfl,rfl⟩:=hd
   obtain rfl:=hs
   simp[Rn.note,Rn.fin,Rn.goto,Rn.Q0h,Q0o,Q0c,Wk.zero]
  case v2 a=>
   obtain⟨rfl,rfl⟩:=hw
   have hd:=Q1b (L:=L) (n:=n) (task:=t) (c:=(8+(t:Int))) (p:=fun v=>v !=0) hm2
   have hs:=Q1i (L:=L) (n:=n) (task:=t) (c:=(8+(t:Int))) (p:=fun v=>v !=0) hm2
   have hc:((8+t:Nat):Int)=8+(t:Int):=by omega
   simp[fqK,Q0Z,Q2e,fqA,Q0U,Q0Q,Q1I,Q1c,Q0z,Q0B,Q0A,Q0C,Q0n,Q0L,Q0v,Q1S,Q2b,Q1U,Q2a,Q1Y,Q1X,Q1T,Q1W,Q1Z,Q0H,wrap64,Rn.fresh,Rn.did,Rn.Q0h,Rn.setB,Rn.note,Rn.goto,Rn.Q0d,Rn.fin,Rn.wake,Rn.keep,Q0e,Q0o,Q0c,Q1f,Q0w,Rn.waited,Q3O,Q2y,e0,e1,hc]
   generalize Q0t L n sm t 4 (8+(t:Int)) (fun v=>v !=0)=R at hd hs⊢
   obtain⟨rs,ra,rsn,rd,rw_⟩:=R
   obtain⟨rfl,rfl⟩:=hd
   obtain rfl:=hs
   simp[Rn.note,Rn.fin,Rn.goto,Rn.Q0h,Q0o,Q0c,Wk.zero]
  case t8 a=>
   obtain⟨rfl,rfl⟩:=hw
   have hd:=Q1b (L:=L) (n:=n) (task:=t) (c:=(8+(t:Int))) (p:=fun v=>v !=0) hm2
   have hs:=Q1i (L:=L) (n:=n) (task:=t) (c:=(8+(t:Int))) (p:=fun v=>v !=0) hm2
   have hc:((8+t:Nat):Int)=8+(t:Int):=by omega
   simp[fqK,Q0Z,Q2e,fqA,Q0U,Q0Q,Q1I,Q1c,Q0z,Q0B,Q0A,Q0C,Q0n,Q0L,Q0v,Q1S,Q2b,Q1U,Q2a,Q1Y,Q1X,Q1T,Q1W,Q1Z,Q0H,wrap64,Rn.fresh,Rn.did,Rn.Q0h,Rn.setB,Rn.note,Rn.goto,Rn.Q0d,Rn.fin,Rn.wake,Rn.keep,Q0e,Q0o,Q0c,Q1f,Q0w,Rn.waited,Q3O,Q2y,e0,e1,hc]
   generalize Q0t L n sm t 4 (8+(t:Int)) (fun v=>v !=0)=R at hd hs⊢
   obtain⟨rs,ra,rsn,rd,rw_⟩:=R
   obtain⟨rfl,rfl⟩:=hd
   obtain rfl:=hs
   simp[Rn.note,Rn.fin,Rn.goto,Rn.Q0h,Q0o,Q0c,Wk.zero]
  case x8 a=>
   obtain⟨rfl,rfl⟩:=hw
   have hd:=Q1b (L:=L) (n:=n) (task:=t) (c:=(8+(t:Int))) (p:=fun v=>v !=0) hm2
   have hs:=Q1i (L:=L) (n:=n) (task:=t) (c:=(8+(t:Int))) (p:=fun v=>v !=0) hm2
   have hc:((8+t:Nat):Int)=8+(t:Int):=by omega
   simp[fqK,Q0Z,Q2e,fqA,Q0U,Q0Q,Q1I,Q1c,Q0z,Q0B,Q0A,Q0C,Q0n,Q0L,Q0v,Q1S,Q2b,Q1U,Q2a,Q1Y,Q1X,Q1T,Q1W,Q1Z,Q0H,wrap64,Rn.fresh,Rn.did,Rn.Q0h,Rn.setB,Rn.note,Rn.goto,Rn.Q0d,Rn.fin,Rn.wake,Rn.keep,Q0e,Q0o,Q0c,Q1f,Q0w,Rn.waited,Q3O,Q2y,e0,e1,hc]
   generalize Q0t L n sm t 4 (8+(t:Int)) (fun v=>v !=0)=R at hd hs⊢
   obtain⟨rs,ra,rsn,rd,rw_⟩:=R
   obtain⟨rfl,rfl⟩:=hd
   obtain rfl:=hs
   simp[Rn.note,Rn.fin,Rn.goto,Rn.Q0h,Q0o,Q0c,Wk.zero]
  case d3 a=>
   obtain⟨rfl,rfl⟩:=hw
   have hd:=Q1b (L:=L) (n:=n) (task:=t) (c:=(8+(t:Int))) (p:=fun v=>v !=0) hm2
   have hs:=Q1i (L:=L) (n:=n) (task:=t) (c:=(8+(t:Int))) (p:=fun v=>v !=0) hm2
   have hc:((8+t:Nat):Int)=8+(t:Int):=by omega
   simp[fqK,Q0Z,Q2e,fqA,Q0U,Q0Q,Q1I,Q1c,Q0z,Q0B,Q0A,Q0C,Q0n,Q0L,Q0v,Q1S,Q2b,Q1U,Q2a,Q1Y,Q1X,Q1T,Q1W,Q1Z,Q0H,wrap64,Rn.fresh,Rn.did,Rn.Q0h,Rn.setB,Rn.note,Rn.goto,Rn.Q0d,Rn.fin,Rn.wake,Rn.keep,Q0e,Q0o,Q0c,Q1f,Q0w,Rn.waited,Q3O,Q2y,e0,e1,hc]
   generalize Q0t L n sm t 4 (8+(t:Int)) (fun v=>v !=0)=R at hd hs⊢
   obtain⟨rs,ra,rsn,rd,rw_⟩:=R
   obtain⟨rfl,rfl⟩:=hd
   obtain rfl:=hs
   simp[Rn.note,Rn.fin,Rn.goto,Rn.Q0h,Q0o,Q0c,Wk.zero]
theorem Q8L: ∀x,0≤Q2A x:=by intro x;cases x<;>simp[Q2A];split<;>omega
theorem Y7e: ∀x,Q2A x≤1:=by intro x;cases x<;>simp[Q2A];split<;>omega
def X9I(R:Int):FqP→Prop
 |.idle h=>h=0∨h=1∨(h=2∧R=0)
 |.d0=>R=0
 |.x3 _=>R=1
 |_=>True
def fqI(n b:Nat)(ps:List FqP)(m:Nat→Int):Prop:=1≤n∧n≤64∧ps.length=n∧QI n 0 Q4v (.idle 0) ps m∧m 1=ws Q2A ps∧ ∀j,j<n→X9I (m 1) (ps.getD j (.idle 0))
section
variable {n b:Nat}{ps:List FqP}{m m':Nat→Int}{i:Nat}{p p':FqP}
theorem Y4c(H:fqI n b ps m)(hi:i<n)(hp:ps.getD i (.idle 0)=p)(HQ:QI n 0 Q4v (.idle 0) (ps.set i p') m')(hr:m' 1=m 1-Q2A p+Q2A p')(hat:X9I (m' 1) p')(ho:m' 1=m 1∨(Q4v p).turn=true∨(m' 1=m 1-1∧Q2A p=1)):fqI n b (ps.set i p') m':=by
 obtain⟨h1,h2,hl,H0,hR,ha⟩:=H
 have s1:=Q0l (f:=Q2A) (d:= .idle 0) (x:=p') (l:=ps) (i:=i) (by omega)
 rw[hp]at s1
 refine⟨h1,h2,by simpa using hl,HQ,by omega,fun j hj=> ?_⟩
 rw[Q2K (by omega)]
 split
 ·exact hat
 ·rename_i hij
  have hj2:=ha j hj
  have hone:=H0.one (i:=i) (j:=j) hi hj
  have htwo:=X3g (d:=FqP.idle 0) Q8L (l:=ps) (i:=i) (j:=j) (by omega) (by omega) hij
  have hnn:=Q0m (d:=FqP.idle 0) Q8L (l:=ps) (i:=i) (by omega)
  rw[hp]at hone htwo hnn
  rw[←hR]at htwo hnn
  generalize ps.getD j (.idle 0)=q at hj2 hone htwo
  cases q<;>simp only[X9I]at hj2⊢
  case idle h=>
   rcases hj2 with h0|h0|⟨h0,h3⟩
   ·exact Or.inl h0
   ·exact Or.inr (Or.inl h0)
   ·refine Or.inr (Or.inr ⟨h0,?_⟩)
    rcases ho with e|e|⟨e,e2⟩
    ·omega
    ·exact absurd (hone e (by subst h0;rfl)) hij
    ·omega
  case d0=>
   rcases ho with e|e|⟨e,e2⟩
   ·omega
   ·exact absurd (hone e rfl) hij
   ·omega
  case x3 a=>
   have e3:Q2A (.x3 a)=1:=rfl
   rcases ho with e|e|⟨e,e2⟩
   ·omega
   ·exact absurd (hone e rfl) hij
   ·omega
theorem fqI.few(H:fqI n b ps m):0≤m 1∧m 1≤64:=by
 obtain⟨h1,h2,hl,H0,hR,ha⟩:=H
 have a1:=Q1w Q8L ps
 have a2:=Q8b Y7e ps
 omega
end
theorem Q0T{m:Nat→Int}{c:Nat}{v:Int}:written m (some (c,v)) c=v:=by simp[written,upd]
theorem Q0b{m:Nat→Int}{c j:Nat}{v:Int}(h:j≠c):written m (some (c,v)) j=m j:=by simp[written,upd,h]
theorem X0m{n tc c:Nat}{m:Nat→Int}{v:Int}(h1:c<8)(h2:c≠tc)(ht:tc<8):Q1N n tc m (written m (some (c,v))):=
 ⟨Q0b (Ne.symm h2),fun j _=>⟨Q0b (by omega),Q0b (by omega)⟩⟩
theorem Y1C{n t c:Nat}{p:FqP}{pr:Int→Bool}(h:Q2M n t p=some (c,pr)):(c=8+t∧pr=fun v=>v !=0)∨(c=8+n+t∧pr=fun v=>v==0)∨(c=1∧(pr=fun v=>v==0)∧(Q4v p).turn=true):=by
 cases p<;>simp[Q2M]at h<;>obtain⟨rfl,rfl⟩:=h<;>simp[Q4v,Mk.turn]
theorem Y4e(n:Nat):(fqK n).Q5D n (fqI n):=by
 refine⟨fun b ps m H=>H,fun b ps m i H hi hl=> ?_,fun b ps m i op h H hi hl hp hm=> ?_,fun b ps m i H hi hl hw hop=> ?_,fun b ps m i c pr H hi hl hw hpr=> ?_,fun b ps m i j c pr H hi hj hij hl hw hop hwj hpr=> ?_⟩
 ·intro a ha
  exact H.2.2.2.1.ok3 hi rfl ha
 ·have hai:=H.2.2.2.2.2 i hi
  have HQ:=H.2.2.2.1
  change ps.getD i (.idle 0)= .idle h at hp
  rw[hp]at hai
  have hai:h=0∨h=1∨(h=2∧m 1=0):=hai
  show fqI n (b+1) (ps.set i (Q4V op h)) m
  have key:Q2A (Q4V op h)=Q2A (.idle h)∧X9I (m 1) (Q4V op h):=by
   rcases Q2L hm with⟨rfl,rfl|rfl|rfl|rfl⟩|⟨rfl,rfl|rfl⟩|⟨g1,g2,rfl|rfl⟩<;>simp[Q4V,Q2A,X9I]<;>omega
  refine Y4c (m':=m) H hi hp ?_ (by omega) key.2 (Or.inl rfl)
  rcases Q2L hm with⟨rfl,hh⟩|⟨rfl,hh⟩|⟨g1,g2,hh⟩
  ·refine HQ.outs hl hi hp rfl ?_ ⟨rfl,fun j hj hji=>⟨rfl,rfl⟩⟩ ?_<;>rcases hh with rfl|rfl|rfl|rfl<;>simp[Q4V,Q4v,Mk.inq]
  ·refine HQ.outs hl hi hp rfl ?_ ⟨rfl,fun j hj hji=>⟨rfl,rfl⟩⟩ ?_<;>rcases hh with rfl|rfl<;>simp[Q4V,Q4v,Mk.inq]
  ·obtain rfl:h=2:=by omega
   refine HQ.heads hl hi hp (Or.inl rfl) (Or.inl ?_) Q1N.refl
   rcases hh with rfl|rfl<;>rfl
 ·have hai:=H.2.2.2.2.2 i hi
  have HQ:=H.2.2.2.1
  have hfew:=H.few
  have hR:=H.2.2.2.2.1
  have h1:=H.1
  have h2:=H.2.1
  change Q2M n i (ps.getD i (.idle 0))=none at hw
  change(Q0Z (ps.getD i (.idle 0))).1.op≠0 at hop
  change fqI n (b+1) (ps.set i (Q0U n i m (ps.getD i (.idle 0))).1) (written m (Q0U n i m (ps.getD i (.idle 0))).2.1)
  have d1:=Q0m (d:=FqP.idle 0) Q8L (l:=ps) (i:=i) (by omega)
  rw[←hR]at d1
  obtain⟨p,hp⟩: ∃p,ps.getD i (.idle 0)=p:=⟨_,rfl⟩
  rw[hp]at hai hw hop d1⊢
  have hgo: ∀p' w,QI n 0 Q4v (.idle 0) (ps.set i p') (written m w)→written m w 1=m 1-Q2A p+Q2A p'→X9I (written m w 1) p'→(written m w 1=m 1∨(Q4v p).turn=true∨(written m w 1=m 1-1∧Q2A p=1))→fqI n (b+1) (ps.set i p') (written m w):=fun p' w g1 g2 g3 g4=>Y4c H hi hp g1 g2 g3 g4
  clear H hR
  cases p<;>simp[Q2M]at hw<;>simp[Q0Z,Q2e,Fr.zero]at hop<;>simp only[Q0U]
  case r0=>
   refine hgo _ _ (HQ.outs hl hi hp rfl rfl ⟨Q0b (by omega),fun j hj hji=>⟨Q0b (by omega),Q0b (by omega)⟩⟩ ⟨fun _=>Q0T,fun h=>by cases h⟩) (by rw[Q0b (by omega)];simp[Q2A]) (by rw[Q0b (by omega)];exact trivial) (Or.inl (Q0b (by omega)))
  case r1=>
   have hpre:=(HQ.pre hi hp).1 (Or.inl rfl)
   refine hgo _ _ (HQ.outs hl hi hp rfl rfl ⟨Q0b (by omega),fun j hj hji=>⟨Q0b (by omega),Q0b (by omega)⟩⟩ ⟨fun _=>by rw[Q0b (by omega)];exact hpre,fun _=>Q0T⟩) (by rw[Q0b (by omega)];simp[Q2A]) (by rw[Q0b (by omega)];exact trivial) (Or.inl (Q0b (by omega)))
  case r2=>
   split
   ·rename_i hz
    refine hgo _ _ (HQ.comes hl hi hp (Or.inr rfl) hz rfl Q0T (fun j hj=>⟨Q0b (by omega),Q0b (by omega)⟩)) (by rw[Q0b (by omega)];simp[Q2A]) (by rw[Q0b (by omega)];exact trivial) (Or.inl (Q0b (by omega)))
   ·rename_i hz
    refine hgo _ _ (HQ.behind hl hi hp rfl hz rfl Q0T (fun j hj=>⟨Q0b (by omega),Q0b (by omega)⟩)) (by rw[Q0b (by omega)];simp[Q2A]) (by rw[Q0b (by omega)];exact trivial) (Or.inl (Q0b (by omega)))
  case r3 a=>
   have ho:=HQ.ok3 hi hp (a:=a) (Or.inl rfl)
   refine hgo _ _ (HQ.link hl hi hp (a:=a) rfl rfl (Q0b (by omega)) (fun j hj=>⟨fun e=> ?_,fun e=>Q0b (by omega),Q0b (by omega)⟩)) (by rw[Q0b (by omega)];simp[Q2A]) (by rw[Q0b (by omega)];exact trivial) (Or.inl (Q0b (by omega)))
   rw[show 8+j=8+(a-1).toNat by omega,Q0T]
  case r5 a=>
   have hw1:written m (some (1,(m 1+1)%4294967296)) 1=m 1+1:=by rw[Q0T];omega
   refine hgo _ _ (HQ.heads hl hi hp (Or.inl rfl) (Or.inl rfl) (X0m (by decide) (by decide) (by decide))) (by rw[hw1];simp[Q2A]) (by exact trivial) (Or.inr (Or.inl rfl))
  case r6 a=>
   split
   ·refine hgo _ none (HQ.heads hl hi hp (Or.inl rfl) (Or.inr (Or.inl rfl)) Q1N.refl) (by simp[written,Q2A]) trivial (Or.inl rfl)
   ·rename_i hz
    refine hgo _ none (HQ.heads hl hi hp (Or.inl rfl) (Or.inr (Or.inr (Or.inr ⟨_,rfl,rfl,hz⟩))) Q1N.refl) (by simp[written,Q2A]) trivial (Or.inl rfl)
  case r7 a=>
   split
   ·rename_i hz
    refine hgo _ _ (HQ.leaves hl hi hp rfl hz rfl Q0T (fun j hj=>⟨Q0b (by omega),Q0b (by omega)⟩)) (by rw[Q0b (by omega)];simp[Q2A]) (Or.inr (Or.inl rfl)) (Or.inl (Q0b (by omega)))
   ·rename_i hz
    refine hgo _ none (HQ.heads hl hi hp (Or.inl rfl) (Or.inr (Or.inr (Or.inl ⟨rfl,rfl,hz⟩))) Q1N.refl) (by simp[written,Q2A]) trivial (Or.inl rfl)
  case r9 a=>
   have ho:=HQ.ok3 hi hp (a:=a) (Or.inr rfl)
   refine hgo _ _ (HQ.gives hl hi hp (a:=a) rfl rfl (Q0b (by omega)) (fun j hj=>⟨fun e=> ?_,fun e=>Q0b (by omega),Q0b (by omega)⟩)) (by rw[Q0b (by omega)];simp[Q2A]) (Or.inr (Or.inl rfl)) (Or.inl (Q0b (by omega)))
   rw[show 8+n+j=8+n+(a-1).toNat by omega,Q0T]
  case q0 a=>
   refine hgo _ _ (HQ.outs hl hi hp rfl rfl ⟨Q0b (by omega),fun j hj hji=>⟨Q0b (by omega),Q0b (by omega)⟩⟩ ⟨fun _=>Q0T,fun h=>by cases h⟩) (by rw[Q0b (by omega)];simp[Q2A]) (by rw[Q0b (by omega)];exact trivial) (Or.inl (Q0b (by omega)))
  case q1 a=>
   split
   ·rename_i hz
    refine hgo _ _ (HQ.comes hl hi hp (Or.inl rfl) hz rfl Q0T (fun j hj=>⟨Q0b (by omega),Q0b (by omega)⟩)) (by rw[Q0b (by omega)];simp[Q2A]) (by rw[Q0b (by omega)];exact trivial) (Or.inl (Q0b (by omega)))
   ·refine hgo _ none (HQ.outs hl hi hp rfl rfl ⟨rfl,fun j hj hji=>⟨rfl,rfl⟩⟩ ⟨(fun h=>by rcases h with h|h<;>cases h),(fun h=>by cases h)⟩) (by simp[written,Q2A]) (Or.inl rfl) (Or.inl rfl)
  case q5 a=>
   have hw1:written m (some (1,(m 1+1)%4294967296)) 1=m 1+1:=by rw[Q0T];omega
   refine hgo _ _ (HQ.heads hl hi hp (Or.inl rfl) (Or.inl rfl) (X0m (by decide) (by decide) (by decide))) (by rw[hw1];simp[Q2A]) (by exact trivial) (Or.inr (Or.inl rfl))
  case q6 a=>
   split
   ·refine hgo _ none (HQ.heads hl hi hp (Or.inl rfl) (Or.inr (Or.inl rfl)) Q1N.refl) (by simp[written,Q2A]) trivial (Or.inl rfl)
   ·rename_i hz
    refine hgo _ none (HQ.heads hl hi hp (Or.inl rfl) (Or.inr (Or.inr (Or.inr ⟨_,rfl,rfl,hz⟩))) Q1N.refl) (by simp[written,Q2A]) trivial (Or.inl rfl)
  case q7 a=>
   split
   ·rename_i hz
    refine hgo _ _ (HQ.leaves hl hi hp rfl hz rfl Q0T (fun j hj=>⟨Q0b (by omega),Q0b (by omega)⟩)) (by rw[Q0b (by omega)];simp[Q2A]) (Or.inr (Or.inl rfl)) (Or.inl (Q0b (by omega)))
   ·rename_i hz
    refine hgo _ none (HQ.heads hl hi hp (Or.inl rfl) (Or.inr (Or.inr (Or.inl ⟨rfl,rfl,hz⟩))) Q1N.refl) (by simp[written,Q2A]) trivial (Or.inl rfl)
  case q9 a=>
   have ho:=HQ.ok3 hi hp (a:=a) (Or.inr rfl)
   refine hgo _ _ (HQ.gives hl hi hp (a:=a) rfl rfl (Q0b (by omega)) (fun j hj=>⟨fun e=> ?_,fun e=>Q0b (by omega),Q0b (by omega)⟩)) (by rw[Q0b (by omega)];simp[Q2A]) (Or.inr (Or.inl rfl)) (Or.inl (Q0b (by omega)))
   rw[show 8+n+j=8+n+(a-1).toNat by omega,Q0T]
  case w0=>
   refine hgo _ _ (HQ.outs hl hi hp rfl rfl ⟨Q0b (by omega),fun j hj hji=>⟨Q0b (by omega),Q0b (by omega)⟩⟩ ⟨fun _=>Q0T,fun h=>by cases h⟩) (by rw[Q0b (by omega)];simp[Q2A]) (by rw[Q0b (by omega)];exact trivial) (Or.inl (Q0b (by omega)))
  case w1=>
   have hpre:=(HQ.pre hi hp).1 (Or.inl rfl)
   refine hgo _ _ (HQ.outs hl hi hp rfl rfl ⟨Q0b (by omega),fun j hj hji=>⟨Q0b (by omega),Q0b (by omega)⟩⟩ ⟨fun _=>by rw[Q0b (by omega)];exact hpre,fun _=>Q0T⟩) (by rw[Q0b (by omega)];simp[Q2A]) (by rw[Q0b (by omega)];exact trivial) (Or.inl (Q0b (by omega)))
  case w2=>
   split
   ·rename_i hz
    refine hgo _ _ (HQ.comes hl hi hp (Or.inr rfl) hz rfl Q0T (fun j hj=>⟨Q0b (by omega),Q0b (by omega)⟩)) (by rw[Q0b (by omega)];simp[Q2A]) (by rw[Q0b (by omega)];exact trivial) (Or.inl (Q0b (by omega)))
   ·rename_i hz
    refine hgo _ _ (HQ.behind hl hi hp rfl hz rfl Q0T (fun j hj=>⟨Q0b (by omega),Q0b (by omega)⟩)) (by rw[Q0b (by omega)];simp[Q2A]) (by rw[Q0b (by omega)];exact trivial) (Or.inl (Q0b (by omega)))
  case w3 a=>
   have ho:=HQ.ok3 hi hp (a:=a) (Or.inl rfl)
   refine hgo _ _ (HQ.link hl hi hp (a:=a) rfl rfl (Q0b (by omega)) (fun j hj=>⟨fun e=> ?_,fun e=>Q0b (by omega),Q0b (by omega)⟩)) (by rw[Q0b (by omega)];simp[Q2A]) (by rw[Q0b (by omega)];exact trivial) (Or.inl (Q0b (by omega)))
   rw[show 8+j=8+(a-1).toNat by omega,Q0T]
  case v0=>
   split
   ·refine hgo _ none (HQ.heads hl hi hp (Or.inl rfl) (Or.inr (Or.inl rfl)) Q1N.refl) (by simp[written,Q2A]) trivial (Or.inl rfl)
   ·rename_i hz
    refine hgo _ none (HQ.heads hl hi hp (Or.inl rfl) (Or.inr (Or.inr (Or.inr ⟨_,rfl,rfl,hz⟩))) Q1N.refl) (by simp[written,Q2A]) trivial (Or.inl rfl)
  case v1 a=>
   split
   ·rename_i hz
    refine hgo _ _ (HQ.leaves hl hi hp rfl hz rfl Q0T (fun j hj=>⟨Q0b (by omega),Q0b (by omega)⟩)) (by rw[Q0b (by omega)];simp[Q2A]) (Or.inl rfl) (Or.inl (Q0b (by omega)))
   ·rename_i hz
    refine hgo _ none (HQ.heads hl hi hp (Or.inl rfl) (Or.inr (Or.inr (Or.inl ⟨rfl,rfl,hz⟩))) Q1N.refl) (by simp[written,Q2A]) trivial (Or.inl rfl)
  case v3 a=>
   have ho:=HQ.ok3 hi hp (a:=a) (Or.inr rfl)
   refine hgo _ _ (HQ.gives hl hi hp (a:=a) rfl rfl (Q0b (by omega)) (fun j hj=>⟨fun e=> ?_,fun e=>Q0b (by omega),Q0b (by omega)⟩)) (by rw[Q0b (by omega)];simp[Q2A]) (Or.inl rfl) (Or.inl (Q0b (by omega)))
   rw[show 8+n+j=8+n+(a-1).toNat by omega,Q0T]
  case t0 a=>
   refine hgo _ _ (HQ.outs hl hi hp rfl rfl ⟨Q0b (by omega),fun j hj hji=>⟨Q0b (by omega),Q0b (by omega)⟩⟩ ⟨fun _=>Q0T,fun h=>by cases h⟩) (by rw[Q0b (by omega)];simp[Q2A]) (by rw[Q0b (by omega)];exact trivial) (Or.inl (Q0b (by omega)))
  case t1 a=>
   split
   ·rename_i hz
    refine hgo _ _ (HQ.comes hl hi hp (Or.inl rfl) hz rfl Q0T (fun j hj=>⟨Q0b (by omega),Q0b (by omega)⟩)) (by rw[Q0b (by omega)];simp[Q2A]) (by rw[Q0b (by omega)];exact trivial) (Or.inl (Q0b (by omega)))
   ·refine hgo _ none (HQ.outs hl hi hp rfl rfl ⟨rfl,fun j hj hji=>⟨rfl,rfl⟩⟩ ⟨(fun h=>by rcases h with h|h<;>cases h),(fun h=>by cases h)⟩) (by simp[written,Q2A]) (Or.inl rfl) (Or.inl rfl)
  case t2 a=>
   split
   ·rename_i hz
    refine hgo _ none (HQ.heads hl hi hp (Or.inl rfl) (Or.inl rfl) Q1N.refl) (by simp[written,Q2A]) (Or.inr (Or.inr ⟨rfl,hz⟩)) (Or.inl rfl)
   ·refine hgo _ none (HQ.heads hl hi hp (Or.inl rfl) (Or.inl rfl) Q1N.refl) (by simp[written,Q2A]) trivial (Or.inl rfl)
  case t6 a=>
   split
   ·refine hgo _ none (HQ.heads hl hi hp (Or.inl rfl) (Or.inr (Or.inl rfl)) Q1N.refl) (by simp[written,Q2A]) trivial (Or.inl rfl)
   ·rename_i hz
    refine hgo _ none (HQ.heads hl hi hp (Or.inl rfl) (Or.inr (Or.inr (Or.inr ⟨_,rfl,rfl,hz⟩))) Q1N.refl) (by simp[written,Q2A]) trivial (Or.inl rfl)
  case t7 a=>
   split
   ·rename_i hz
    refine hgo _ _ (HQ.leaves hl hi hp rfl hz rfl Q0T (fun j hj=>⟨Q0b (by omega),Q0b (by omega)⟩)) (by rw[Q0b (by omega)];simp[Q2A]) (Or.inl rfl) (Or.inl (Q0b (by omega)))
   ·rename_i hz
    refine hgo _ none (HQ.heads hl hi hp (Or.inl rfl) (Or.inr (Or.inr (Or.inl ⟨rfl,rfl,hz⟩))) Q1N.refl) (by simp[written,Q2A]) trivial (Or.inl rfl)
  case t9 a=>
   have ho:=HQ.ok3 hi hp (a:=a) (Or.inr rfl)
   refine hgo _ _ (HQ.gives hl hi hp (a:=a) rfl rfl (Q0b (by omega)) (fun j hj=>⟨fun e=> ?_,fun e=>Q0b (by omega),Q0b (by omega)⟩)) (by rw[Q0b (by omega)];simp[Q2A]) (Or.inl rfl) (Or.inl (Q0b (by omega)))
   rw[show 8+n+j=8+n+(a-1).toNat by omega,Q0T]
  case x0 a=>
   refine hgo _ _ (HQ.outs hl hi hp rfl rfl ⟨Q0b (by omega),fun j hj hji=>⟨Q0b (by omega),Q0b (by omega)⟩⟩ ⟨fun _=>Q0T,fun h=>by cases h⟩) (by rw[Q0b (by omega)];simp[Q2A]) (by rw[Q0b (by omega)];exact trivial) (Or.inl (Q0b (by omega)))
  case x1 a=>
   split
   ·rename_i hz
    refine hgo _ _ (HQ.comes hl hi hp (Or.inl rfl) hz rfl Q0T (fun j hj=>⟨Q0b (by omega),Q0b (by omega)⟩)) (by rw[Q0b (by omega)];simp[Q2A]) (by rw[Q0b (by omega)];exact trivial) (Or.inl (Q0b (by omega)))
   ·refine hgo _ none (HQ.outs hl hi hp rfl rfl ⟨rfl,fun j hj hji=>⟨rfl,rfl⟩⟩ ⟨(fun h=>by rcases h with h|h<;>cases h),(fun h=>by cases h)⟩) (by simp[written,Q2A]) (Or.inr (Or.inl rfl)) (Or.inl rfl)
  case x2 a=>
   split
   ·rename_i hz
    refine hgo _ none (HQ.heads hl hi hp (Or.inl rfl) (Or.inl rfl) Q1N.refl) (by simp[written,Q2A]) (hz) (Or.inl rfl)
   ·refine hgo _ none (HQ.heads hl hi hp (Or.inl rfl) (Or.inl rfl) Q1N.refl) (by simp[written,Q2A]) trivial (Or.inl rfl)
  case x3 a=>
   have hw1:written m (some (1,(m 1+4294967295)%4294967296)) 1=m 1-1:=by rw[Q0T];simp[Q2A]at d1;omega
   have hx:m 1=1:=hai
   refine hgo _ _ (HQ.heads hl hi hp (Or.inl rfl) (Or.inl rfl) (X0m (by decide) (by decide) (by decide))) (by rw[hw1];simp[Q2A]) (Or.inr (Or.inr ⟨rfl,by rw[hw1];omega⟩)) (Or.inr (Or.inl rfl))
  case x6 a=>
   split
   ·refine hgo _ none (HQ.heads hl hi hp (Or.inl rfl) (Or.inr (Or.inl rfl)) Q1N.refl) (by simp[written,Q2A]) trivial (Or.inl rfl)
   ·rename_i hz
    refine hgo _ none (HQ.heads hl hi hp (Or.inl rfl) (Or.inr (Or.inr (Or.inr ⟨_,rfl,rfl,hz⟩))) Q1N.refl) (by simp[written,Q2A]) trivial (Or.inl rfl)
  case x7 a=>
   split
   ·rename_i hz
    refine hgo _ _ (HQ.leaves hl hi hp rfl hz rfl Q0T (fun j hj=>⟨Q0b (by omega),Q0b (by omega)⟩)) (by rw[Q0b (by omega)];simp[Q2A]) (Or.inr (Or.inl rfl)) (Or.inl (Q0b (by omega)))
   ·rename_i hz
    refine hgo _ none (HQ.heads hl hi hp (Or.inl rfl) (Or.inr (Or.inr (Or.inl ⟨rfl,rfl,hz⟩))) Q1N.refl) (by simp[written,Q2A]) trivial (Or.inl rfl)
  case x9 a=>
   have ho:=HQ.ok3 hi hp (a:=a) (Or.inr rfl)
   refine hgo _ _ (HQ.gives hl hi hp (a:=a) rfl rfl (Q0b (by omega)) (fun j hj=>⟨fun e=> ?_,fun e=>Q0b (by omega),Q0b (by omega)⟩)) (by rw[Q0b (by omega)];simp[Q2A]) (Or.inr (Or.inl rfl)) (Or.inl (Q0b (by omega)))
   rw[show 8+n+j=8+n+(a-1).toNat by omega,Q0T]
  case u0=>
   have hw1:written m (some (1,(m 1+4294967295)%4294967296)) 1=m 1-1:=by rw[Q0T];simp[Q2A]at d1;omega
   refine hgo _ _ (HQ.outs hl hi hp rfl rfl ⟨Q0b (by omega),fun j hj hji=>⟨Q0b (by omega),Q0b (by omega)⟩⟩ ⟨(fun h=>by rcases h with h|h<;>cases h),(fun h=>by cases h)⟩) (by rw[hw1];simp[Q2A]) (Or.inl rfl) (Or.inr (Or.inr ⟨hw1,rfl⟩))
  case d0=>
   have hw1:written m (some (1,(m 1+1)%4294967296)) 1=m 1+1:=by rw[Q0T];omega
   refine hgo _ _ (HQ.heads hl hi hp (Or.inl rfl) (Or.inl rfl) (X0m (by decide) (by decide) (by decide))) (by rw[hw1];simp[Q2A]) (by exact trivial) (Or.inr (Or.inl rfl))
  case d1 a=>
   split
   ·refine hgo _ none (HQ.heads hl hi hp (Or.inl rfl) (Or.inr (Or.inl rfl)) Q1N.refl) (by simp[written,Q2A]) trivial (Or.inl rfl)
   ·rename_i hz
    refine hgo _ none (HQ.heads hl hi hp (Or.inl rfl) (Or.inr (Or.inr (Or.inr ⟨_,rfl,rfl,hz⟩))) Q1N.refl) (by simp[written,Q2A]) trivial (Or.inl rfl)
  case d2 a=>
   split
   ·rename_i hz
    refine hgo _ _ (HQ.leaves hl hi hp rfl hz rfl Q0T (fun j hj=>⟨Q0b (by omega),Q0b (by omega)⟩)) (by rw[Q0b (by omega)];simp[Q2A]) (Or.inr (Or.inl rfl)) (Or.inl (Q0b (by omega)))
   ·rename_i hz
    refine hgo _ none (HQ.heads hl hi hp (Or.inl rfl) (Or.inr (Or.inr (Or.inl ⟨rfl,rfl,hz⟩))) Q1N.refl) (by simp[written,Q2A]) trivial (Or.inl rfl)
  case d4 a=>
   have ho:=HQ.ok3 hi hp (a:=a) (Or.inr rfl)
   refine hgo _ _ (HQ.gives hl hi hp (a:=a) rfl rfl (Q0b (by omega)) (fun j hj=>⟨fun e=> ?_,fun e=>Q0b (by omega),Q0b (by omega)⟩)) (by rw[Q0b (by omega)];simp[Q2A]) (Or.inr (Or.inl rfl)) (Or.inl (Q0b (by omega)))
   rw[show 8+n+j=8+n+(a-1).toNat by omega,Q0T]
 ·have HQ:=H.2.2.2.1
  change Q2M n i (ps.getD i (.idle 0))=some (c,pr)at hw
  change fqI n (b+1) (ps.set i (Q2y (m c) (ps.getD i (.idle 0)))) m
  obtain⟨p,hp⟩: ∃p,ps.getD i (.idle 0)=p:=⟨_,rfl⟩
  rw[hp]at hw⊢
  have hgo: ∀p',QI n 0 Q4v (.idle 0) (ps.set i p') m→Q2A p'=Q2A p→X9I (m 1) p'→fqI n (b+1) (ps.set i p') m:=fun p' g1 g2 g3=>Y4c (m':=m) H hi hp g1 (by omega) g3 (Or.inl rfl)
  clear H
  cases p<;>simp[Q2M]at hw
  case r4 a=>
   obtain⟨rfl,rfl⟩:=hw
   refine hgo _ (HQ.heads hl hi hp (Or.inr ⟨rfl,by simpa using hpr⟩) (Or.inl rfl) Q1N.refl) (by simp[Q2A,Q2y]) trivial
  case w4 a=>
   obtain⟨rfl,rfl⟩:=hw
   refine hgo _ (HQ.heads hl hi hp (Or.inr ⟨rfl,by simpa using hpr⟩) (Or.inl rfl) Q1N.refl) (by simp[Q2A,Q2y]) trivial
  case w5 a=>
   obtain⟨rfl,rfl⟩:=hw
   refine hgo _ (HQ.heads hl hi hp (Or.inl rfl) (Or.inl rfl) Q1N.refl) (by simp[Q2A,Q2y]) (Or.inr (Or.inr ⟨rfl,by simpa using hpr⟩))
  case r8 a=>
   obtain⟨rfl,rfl⟩:=hw
   refine hgo _ (HQ.heads hl hi hp (Or.inl rfl) (Or.inr (Or.inr (Or.inr ⟨_,rfl,rfl,by simpa using hpr⟩))) Q1N.refl) (by simp[Q2A,Q2y]) trivial
  case q8 a=>
   obtain⟨rfl,rfl⟩:=hw
   refine hgo _ (HQ.heads hl hi hp (Or.inl rfl) (Or.inr (Or.inr (Or.inr ⟨_,rfl,rfl,by simpa using hpr⟩))) Q1N.refl) (by simp[Q2A,Q2y]) trivial
  case v2 a=>
   obtain⟨rfl,rfl⟩:=hw
   refine hgo _ (HQ.heads hl hi hp (Or.inl rfl) (Or.inr (Or.inr (Or.inr ⟨_,rfl,rfl,by simpa using hpr⟩))) Q1N.refl) (by simp[Q2A,Q2y]) trivial
  case t8 a=>
   obtain⟨rfl,rfl⟩:=hw
   refine hgo _ (HQ.heads hl hi hp (Or.inl rfl) (Or.inr (Or.inr (Or.inr ⟨_,rfl,rfl,by simpa using hpr⟩))) Q1N.refl) (by simp[Q2A,Q2y]) trivial
  case x8 a=>
   obtain⟨rfl,rfl⟩:=hw
   refine hgo _ (HQ.heads hl hi hp (Or.inl rfl) (Or.inr (Or.inr (Or.inr ⟨_,rfl,rfl,by simpa using hpr⟩))) Q1N.refl) (by simp[Q2A,Q2y]) trivial
  case d3 a=>
   obtain⟨rfl,rfl⟩:=hw
   refine hgo _ (HQ.heads hl hi hp (Or.inl rfl) (Or.inr (Or.inr (Or.inr ⟨_,rfl,rfl,by simpa using hpr⟩))) Q1N.refl) (by simp[Q2A,Q2y]) trivial
 ·have HQ:=H.2.2.2.1
  have hfew:=H.few
  have hai:=H.2.2.2.2.2 i hi
  have h2:=H.2.1
  change Q2M n i (ps.getD i (.idle 0))=none at hw
  change(Q0Z (ps.getD i (.idle 0))).1.op≠0 at hop
  change Q2M n j (ps.getD j (.idle 0))=some (c,pr)at hwj
  change pr (written m (Q0U n i m (ps.getD i (.idle 0))).2.1 c)=true at hpr
  change _∨(Q0U n i m (ps.getD i (.idle 0))).2.2=some c
  have hone:=HQ.one (i:=i) (j:=j) hi hj
  have hok: ∀a,(Q4v (ps.getD i (.idle 0))= .e3 a∨Q4v (ps.getD i (.idle 0))= .g3 a)→1≤a∧a≤n:=fun a h=>HQ.ok3 hi rfl h
  have hk:=Y1C hwj
  generalize ps.getD j (.idle 0)=q at hwj hk hone
  clear H HQ hwj
  have fin: ∀w:Option (Nat×Int),(∀v,w≠some (c,v))→pr (written m w c)=true→pr (m c)=true:=fun w g1 g2=>by
   cases w with
   |none=>exact g2
   |some x=>
    obtain⟨c',v'⟩:=x
    rw[Q0b (fun e=>g1 v' (by rw[e]))]at g2
    exact g2
  generalize ps.getD i (.idle 0)=p at hw hop hpr hone hok hai⊢
  rcases hk with⟨rfl,rfl⟩|⟨rfl,rfl⟩|⟨rfl,rfl,ht⟩
  ·cases p<;>simp[Q2M]at hw<;>simp[Q0Z,Q2e,Fr.zero]at hop<;>simp only[Q0U]at hpr⊢
   case r0=>
    refine Or.inl (fin _ (fun v h=> ?_) hpr);simp at h<;>omega
   case r1=>
    refine Or.inl (fin _ (fun v h=> ?_) hpr);simp at h<;>omega
   case r2=>
    refine Or.inl (fin _ (fun v h=> ?_) hpr);simp at h<;>omega
   case r3 a=>
    have ho:=hok a (Or.inl rfl);rcases Decidable.em (8+(a-1).toNat=8+j)with e|e
    ·exact Or.inr (by rw[e])
    ·exact Or.inl (fin _ (fun v h=>by simp at h<;>omega) hpr)
   case r5 a=>
    refine Or.inl (fin _ (fun v h=> ?_) hpr);simp at h<;>omega
   case r6 a=>
    refine Or.inl (fin none (fun v h=>by cases h) hpr)
   case r7 a=>
    split at hpr
    ·rename_i hz;refine Or.inl (fin _ (fun v h=> ?_) hpr);simp at h<;>omega
    ·exact Or.inl (fin none (fun v h=>by cases h) hpr)
   case r9 a=>
    have ho:=hok a (Or.inr rfl);refine Or.inl (fin _ (fun v h=> ?_) hpr);simp at h<;>omega
   case q0 a=>
    refine Or.inl (fin _ (fun v h=> ?_) hpr);simp at h<;>omega
   case q1 a=>
    split at hpr
    ·rename_i hz;refine Or.inl (fin _ (fun v h=> ?_) hpr);simp at h<;>omega
    ·exact Or.inl (fin none (fun v h=>by cases h) hpr)
   case q5 a=>
    refine Or.inl (fin _ (fun v h=> ?_) hpr);simp at h<;>omega
   case q6 a=>
    refine Or.inl (fin none (fun v h=>by cases h) hpr)
   case q7 a=>
    split at hpr
    ·rename_i hz;refine Or.inl (fin _ (fun v h=> ?_) hpr);simp at h<;>omega
    ·exact Or.inl (fin none (fun v h=>by cases h) hpr)
   case q9 a=>
    have ho:=hok a (Or.inr rfl);refine Or.inl (fin _ (fun v h=> ?_) hpr);simp at h<;>omega
   case w0=>
    refine Or.inl (fin _ (fun v h=> ?_) hpr);simp at h<;>omega
   case w1=>
    refine Or.inl (fin _ (fun v h=> ?_) hpr);simp at h<;>omega
   case w2=>
    refine Or.inl (fin _ (fun v h=> ?_) hpr);simp at h<;>omega
   case w3 a=>
    have ho:=hok a (Or.inl rfl);rcases Decidable.em (8+(a-1).toNat=8+j)with e|e
    ·exact Or.inr (by rw[e])
    ·exact Or.inl (fin _ (fun v h=>by simp at h<;>omega) hpr)
   case v0=>
    refine Or.inl (fin none (fun v h=>by cases h) hpr)
   case v1 a=>
    split at hpr
    ·rename_i hz;refine Or.inl (fin _ (fun v h=> ?_) hpr);simp at h<;>omega
    ·exact Or.inl (fin none (fun v h=>by cases h) hpr)
   case v3 a=>
    have ho:=hok a (Or.inr rfl);refine Or.inl (fin _ (fun v h=> ?_) hpr);simp at h<;>omega
   case t0 a=>
    refine Or.inl (fin _ (fun v h=> ?_) hpr);simp at h<;>omega
   case t1 a=>
    split at hpr
    ·rename_i hz;refine Or.inl (fin _ (fun v h=> ?_) hpr);simp at h<;>omega
    ·exact Or.inl (fin none (fun v h=>by cases h) hpr)
   case t2 a=>
    refine Or.inl (fin none (fun v h=>by cases h) hpr)
   case t6 a=>
    refine Or.inl (fin none (fun v h=>by cases h) hpr)
   case t7 a=>
    split at hpr
    ·rename_i hz;refine Or.inl (fin _ (fun v h=> ?_) hpr);simp at h<;>omega
    ·exact Or.inl (fin none (fun v h=>by cases h) hpr)
   case t9 a=>
    have ho:=hok a (Or.inr rfl);refine Or.inl (fin _ (fun v h=> ?_) hpr);simp at h<;>omega
   case x0 a=>
    refine Or.inl (fin _ (fun v h=> ?_) hpr);simp at h<;>omega
   case x1 a=>
    split at hpr
    ·rename_i hz;refine Or.inl (fin _ (fun v h=> ?_) hpr);simp at h<;>omega
    ·exact Or.inl (fin none (fun v h=>by cases h) hpr)
   case x2 a=>
    refine Or.inl (fin none (fun v h=>by cases h) hpr)
   case x3 a=>
    refine Or.inl (fin _ (fun v h=> ?_) hpr);simp at h<;>omega
   case x6 a=>
    refine Or.inl (fin none (fun v h=>by cases h) hpr)
   case x7 a=>
    split at hpr
    ·rename_i hz;refine Or.inl (fin _ (fun v h=> ?_) hpr);simp at h<;>omega
    ·exact Or.inl (fin none (fun v h=>by cases h) hpr)
   case x9 a=>
    have ho:=hok a (Or.inr rfl);refine Or.inl (fin _ (fun v h=> ?_) hpr);simp at h<;>omega
   case u0=>
    refine Or.inl (fin _ (fun v h=> ?_) hpr);simp at h<;>omega
   case d0=>
    refine Or.inl (fin _ (fun v h=> ?_) hpr);simp at h<;>omega
   case d1 a=>
    refine Or.inl (fin none (fun v h=>by cases h) hpr)
   case d2 a=>
    split at hpr
    ·rename_i hz;refine Or.inl (fin _ (fun v h=> ?_) hpr);simp at h<;>omega
    ·exact Or.inl (fin none (fun v h=>by cases h) hpr)
   case d4 a=>
    have ho:=hok a (Or.inr rfl);refine Or.inl (fin _ (fun v h=> ?_) hpr);simp at h<;>omega
  ·cases p<;>simp[Q2M]at hw<;>simp[Q0Z,Q2e,Fr.zero]at hop<;>simp only[Q0U]at hpr⊢
   case r0=>
    refine Or.inl (fin _ (fun v h=> ?_) hpr);simp at h<;>omega
   case r1=>
    refine Or.inl (fin _ (fun v h=> ?_) hpr);simp at h<;>omega
   case r2=>
    refine Or.inl (fin _ (fun v h=> ?_) hpr);simp at h<;>omega
   case r3 a=>
    have ho:=hok a (Or.inl rfl);refine Or.inl (fin _ (fun v h=> ?_) hpr);simp at h<;>omega
   case r5 a=>
    refine Or.inl (fin _ (fun v h=> ?_) hpr);simp at h<;>omega
   case r6 a=>
    refine Or.inl (fin none (fun v h=>by cases h) hpr)
   case r7 a=>
    split at hpr
    ·rename_i hz;refine Or.inl (fin _ (fun v h=> ?_) hpr);simp at h<;>omega
    ·exact Or.inl (fin none (fun v h=>by cases h) hpr)
   case r9 a=>
    have ho:=hok a (Or.inr rfl);rcases Decidable.em (8+n+(a-1).toNat=8+n+j)with e|e
    ·exact Or.inr (by rw[e])
    ·exact Or.inl (fin _ (fun v h=>by simp at h<;>omega) hpr)
   case q0 a=>
    refine Or.inl (fin _ (fun v h=> ?_) hpr);simp at h<;>omega
   case q1 a=>
    split at hpr
    ·rename_i hz;refine Or.inl (fin _ (fun v h=> ?_) hpr);simp at h<;>omega
    ·exact Or.inl (fin none (fun v h=>by cases h) hpr)
   case q5 a=>
    refine Or.inl (fin _ (fun v h=> ?_) hpr);simp at h<;>omega
   case q6 a=>
    refine Or.inl (fin none (fun v h=>by cases h) hpr)
   case q7 a=>
    split at hpr
    ·rename_i hz;refine Or.inl (fin _ (fun v h=> ?_) hpr);simp at h<;>omega
    ·exact Or.inl (fin none (fun v h=>by cases h) hpr)
   case q9 a=>
    have ho:=hok a (Or.inr rfl);rcases Decidable.em (8+n+(a-1).toNat=8+n+j)with e|e
    ·exact Or.inr (by rw[e])
    ·exact Or.inl (fin _ (fun v h=>by simp at h<;>omega) hpr)
   case w0=>
    refine Or.inl (fin _ (fun v h=> ?_) hpr);simp at h<;>omega
   case w1=>
    refine Or.inl (fin _ (fun v h=> ?_) hpr);simp at h<;>omega
   case w2=>
    refine Or.inl (fin _ (fun v h=> ?_) hpr);simp at h<;>omega
   case w3 a=>
    have ho:=hok a (Or.inl rfl);refine Or.inl (fin _ (fun v h=> ?_) hpr);simp at h<;>omega
   case v0=>
    refine Or.inl (fin none (fun v h=>by cases h) hpr)
   case v1 a=>
    split at hpr
    ·rename_i hz;refine Or.inl (fin _ (fun v h=> ?_) hpr);simp at h<;>omega
    ·exact Or.inl (fin none (fun v h=>by cases h) hpr)
   case v3 a=>
    have ho:=hok a (Or.inr rfl);rcases Decidable.em (8+n+(a-1).toNat=8+n+j)with e|e
    ·exact Or.inr (by rw[e])
    ·exact Or.inl (fin _ (fun v h=>by simp at h<;>omega) hpr)
   case t0 a=>
    refine Or.inl (fin _ (fun v h=> ?_) hpr);simp at h<;>omega
   case t1 a=>
    split at hpr
    ·rename_i hz;refine Or.inl (fin _ (fun v h=> ?_) hpr);simp at h<;>omega
    ·exact Or.inl (fin none (fun v h=>by cases h) hpr)
   case t2 a=>
    refine Or.inl (fin none (fun v h=>by cases h) hpr)
   case t6 a=>
    refine Or.inl (fin none (fun v h=>by cases h) hpr)
   case t7 a=>
    split at hpr
    ·rename_i hz;refine Or.inl (fin _ (fun v h=> ?_) hpr);simp at h<;>omega
    ·exact Or.inl (fin none (fun v h=>by cases h) hpr)
   case t9 a=>
    have ho:=hok a (Or.inr rfl);rcases Decidable.em (8+n+(a-1).toNat=8+n+j)with e|e
    ·exact Or.inr (by rw[e])
    ·exact Or.inl (fin _ (fun v h=>by simp at h<;>omega) hpr)
   case x0 a=>
    refine Or.inl (fin _ (fun v h=> ?_) hpr);simp at h<;>omega
   case x1 a=>
    split at hpr
    ·rename_i hz;refine Or.inl (fin _ (fun v h=> ?_) hpr);simp at h<;>omega
    ·exact Or.inl (fin none (fun v h=>by cases h) hpr)
   case x2 a=>
    refine Or.inl (fin none (fun v h=>by cases h) hpr)
   case x3 a=>
    refine Or.inl (fin _ (fun v h=> ?_) hpr);simp at h<;>omega
   case x6 a=>
    refine Or.inl (fin none (fun v h=>by cases h) hpr)
   case x7 a=>
    split at hpr
    ·rename_i hz;refine Or.inl (fin _ (fun v h=> ?_) hpr);simp at h<;>omega
    ·exact Or.inl (fin none (fun v h=>by cases h) hpr)
   case x9 a=>
    have ho:=hok a (Or.inr rfl);rcases Decidable.em (8+n+(a-1).toNat=8+n+j)with e|e
    ·exact Or.inr (by rw[e])
    ·exact Or.inl (fin _ (fun v h=>by simp at h<;>omega) hpr)
   case u0=>
    refine Or.inl (fin _ (fun v h=> ?_) hpr);simp at h<;>omega
   case d0=>
    refine Or.inl (fin _ (fun v h=> ?_) hpr);simp at h<;>omega
   case d1 a=>
    refine Or.inl (fin none (fun v h=>by cases h) hpr)
   case d2 a=>
    split at hpr
    ·rename_i hz;refine Or.inl (fin _ (fun v h=> ?_) hpr);simp at h<;>omega
    ·exact Or.inl (fin none (fun v h=>by cases h) hpr)
   case d4 a=>
    have ho:=hok a (Or.inr rfl);rcases Decidable.em (8+n+(a-1).toNat=8+n+j)with e|e
    ·exact Or.inr (by rw[e])
    ·exact Or.inl (fin _ (fun v h=>by simp at h<;>omega) hpr)
  ·cases p<;>simp[Q2M]at hw<;>simp[Q0Z,Q2e,Fr.zero]at hop<;>simp only[Q0U]at hpr⊢
   case r0=>
    refine Or.inl (fin _ (fun v h=> ?_) hpr);simp at h<;>omega
   case r1=>
    refine Or.inl (fin _ (fun v h=> ?_) hpr);simp at h<;>omega
   case r2=>
    refine Or.inl (fin _ (fun v h=> ?_) hpr);simp at h<;>omega
   case r3 a=>
    have ho:=hok a (Or.inl rfl);refine Or.inl (fin _ (fun v h=> ?_) hpr);simp at h<;>omega
   case r5 a=>
    rw[Q0T]at hpr;simp at hpr;omega
   case r6 a=>
    refine Or.inl (fin none (fun v h=>by cases h) hpr)
   case r7 a=>
    split at hpr
    ·rename_i hz;refine Or.inl (fin _ (fun v h=> ?_) hpr);simp at h<;>omega
    ·exact Or.inl (fin none (fun v h=>by cases h) hpr)
   case r9 a=>
    have ho:=hok a (Or.inr rfl);refine Or.inl (fin _ (fun v h=> ?_) hpr);simp at h<;>omega
   case q0 a=>
    refine Or.inl (fin _ (fun v h=> ?_) hpr);simp at h<;>omega
   case q1 a=>
    split at hpr
    ·rename_i hz;refine Or.inl (fin _ (fun v h=> ?_) hpr);simp at h<;>omega
    ·exact Or.inl (fin none (fun v h=>by cases h) hpr)
   case q5 a=>
    rw[Q0T]at hpr;simp at hpr;omega
   case q6 a=>
    refine Or.inl (fin none (fun v h=>by cases h) hpr)
   case q7 a=>
    split at hpr
    ·rename_i hz;refine Or.inl (fin _ (fun v h=> ?_) hpr);simp at h<;>omega
    ·exact Or.inl (fin none (fun v h=>by cases h) hpr)
   case q9 a=>
    have ho:=hok a (Or.inr rfl);refine Or.inl (fin _ (fun v h=> ?_) hpr);simp at h<;>omega
   case w0=>
    refine Or.inl (fin _ (fun v h=> ?_) hpr);simp at h<;>omega
   case w1=>
    refine Or.inl (fin _ (fun v h=> ?_) hpr);simp at h<;>omega
   case w2=>
    refine Or.inl (fin _ (fun v h=> ?_) hpr);simp at h<;>omega
   case w3 a=>
    have ho:=hok a (Or.inl rfl);refine Or.inl (fin _ (fun v h=> ?_) hpr);simp at h<;>omega
   case v0=>
    refine Or.inl (fin none (fun v h=>by cases h) hpr)
   case v1 a=>
    split at hpr
    ·rename_i hz;refine Or.inl (fin _ (fun v h=> ?_) hpr);simp at h<;>omega
    ·exact Or.inl (fin none (fun v h=>by cases h) hpr)
   case v3 a=>
    have ho:=hok a (Or.inr rfl);refine Or.inl (fin _ (fun v h=> ?_) hpr);simp at h<;>omega
   case t0 a=>
    refine Or.inl (fin _ (fun v h=> ?_) hpr);simp at h<;>omega
   case t1 a=>
    split at hpr
    ·rename_i hz;refine Or.inl (fin _ (fun v h=> ?_) hpr);simp at h<;>omega
    ·exact Or.inl (fin none (fun v h=>by cases h) hpr)
   case t2 a=>
    refine Or.inl (fin none (fun v h=>by cases h) hpr)
   case t6 a=>
    refine Or.inl (fin none (fun v h=>by cases h) hpr)
   case t7 a=>
    split at hpr
    ·rename_i hz;refine Or.inl (fin _ (fun v h=> ?_) hpr);simp at h<;>omega
    ·exact Or.inl (fin none (fun v h=>by cases h) hpr)
   case t9 a=>
    have ho:=hok a (Or.inr rfl);refine Or.inl (fin _ (fun v h=> ?_) hpr);simp at h<;>omega
   case x0 a=>
    refine Or.inl (fin _ (fun v h=> ?_) hpr);simp at h<;>omega
   case x1 a=>
    split at hpr
    ·rename_i hz;refine Or.inl (fin _ (fun v h=> ?_) hpr);simp at h<;>omega
    ·exact Or.inl (fin none (fun v h=>by cases h) hpr)
   case x2 a=>
    refine Or.inl (fin none (fun v h=>by cases h) hpr)
   case x3 a=>
    exact absurd (hone rfl ht) hij
   case x6 a=>
    refine Or.inl (fin none (fun v h=>by cases h) hpr)
   case x7 a=>
    split at hpr
    ·rename_i hz;refine Or.inl (fin _ (fun v h=> ?_) hpr);simp at h<;>omega
    ·exact Or.inl (fin none (fun v h=>by cases h) hpr)
   case x9 a=>
    have ho:=hok a (Or.inr rfl);refine Or.inl (fin _ (fun v h=> ?_) hpr);simp at h<;>omega
   case u0=>
    first|exact Or.inr rfl|exact Or.inr trivial
   case d0=>
    rw[Q0T]at hpr;simp at hpr;omega
   case d1 a=>
    refine Or.inl (fin none (fun v h=>by cases h) hpr)
   case d2 a=>
    split at hpr
    ·rename_i hz;refine Or.inl (fin _ (fun v h=> ?_) hpr);simp at h<;>omega
    ·exact Or.inl (fin none (fun v h=>by cases h) hpr)
   case d4 a=>
    have ho:=hok a (Or.inr rfl);refine Or.inl (fin _ (fun v h=> ?_) hpr);simp at h<;>omega
end Go.Proofs.YthnimpkoidablaaGreat.Z
