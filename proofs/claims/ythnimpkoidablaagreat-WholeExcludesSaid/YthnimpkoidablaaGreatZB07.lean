import Derived.Test.YthnimpkoidablaaGreatZB03
set_option linter.unusedVariables false
set_option linter.unusedSimpArgs false
set_option maxHeartbeats 9600000
namespace Go.Proofs.YthnimpkoidablaaGreat.Z
open Go.RowKit
inductive PqP
 |idle (h:Int)
 |r0
 |r1 (a:Int)
 |u0
 |q0 (a:Int)
 |q1 (a:Int)
 |w0
 |w1
 |w2
 |w3 (a:Int)
 |w4 (a:Int)
 |w5 (a:Int)
 |w6 (a:Int) (b:Int)
 |w7 (a:Int) (b:Int)
 |v0
 |v1 (b:Int)
 |v2 (b:Int)
 |v3 (b:Int)
 |v4 (a:Int) (b:Int)
 |v5 (a:Int) (b:Int)
 |v6 (a:Int) (b:Int)
 |d0
 |d1 (b:Int)
 |d2 (b:Int)
 |d3 (b:Int)
 |d4 (a:Int) (b:Int)
 |d5 (a:Int) (b:Int)
 |d6 (a:Int) (b:Int)
 |y0
 |y1
 |y2
 |y3 (a:Int)
 |y4 (a:Int) (b:Int)
 |y5 (a:Int) (b:Int)
 |y6 (a:Int) (b:Int)
 |y8 (a:Int) (b:Int)
 |y9 (a:Int) (b:Int)
 |y10 (a:Int) (b:Int)
 |y11 (a:Int) (b:Int)
 |z0
 |z1
 |z2
 |z3 (a:Int)
 |z4 (a:Int) (b:Int)
 |z5 (a:Int) (b:Int)
 |z6 (a:Int) (b:Int)
 |z7 (a:Int) (b:Int)
 |z8 (a:Int) (b:Int)
 |z9 (a:Int) (b:Int)
 |z10 (a:Int) (b:Int)
 |z11 (a:Int) (b:Int)
def Q1V(op line a b:Int):Fr:=⟨op,line,a,b,0,Wk.zero,0⟩
def Q0Y:PqP→Fr×Int
 |.idle h=>(Fr.zero,h)
 |.r0=>(Q1V 1 0 0 0,0)
 |.r1 a=>(Q1V 1 1 a 0,0)
 |.u0=>(Q1V 2 0 0 0,0)
 |.q0 a=>(Q1V 5 0 a 0,0)
 |.q1 a=>(Q1V 5 1 a 0,0)
 |.w0=>(Q1V 3 0 0 0,0)
 |.w1=>(Q1V 3 1 0 0,0)
 |.w2=>(Q1V 3 2 0 0,0)
 |.w3 a=>(Q1V 3 3 a 0,0)
 |.w4 a=>(Q1V 3 4 a 0,0)
 |.w5 a=>(Q1V 3 5 a 0,0)
 |.w6 a b=>(Q1V 3 6 a b,0)
 |.w7 a b=>(Q1V 3 7 a b,0)
 |.v0=>(Q1V 4 0 0 0,0)
 |.v1 b=>(Q1V 4 1 0 b,0)
 |.v2 b=>(Q1V 4 2 0 b,0)
 |.v3 b=>(Q1V 4 3 0 b,0)
 |.v4 a b=>(Q1V 4 4 a b,0)
 |.v5 a b=>(Q1V 4 5 a b,0)
 |.v6 a b=>(Q1V 4 6 a b,0)
 |.d0=>(Q1V 8 0 0 0,1)
 |.d1 b=>(Q1V 8 1 0 b,1)
 |.d2 b=>(Q1V 8 2 0 b,1)
 |.d3 b=>(Q1V 8 3 0 b,1)
 |.d4 a b=>(Q1V 8 4 a b,1)
 |.d5 a b=>(Q1V 8 5 a b,1)
 |.d6 a b=>(Q1V 8 6 a b,1)
 |.y0=>(Q1V 6 0 0 0,0)
 |.y1=>(Q1V 6 1 0 0,0)
 |.y2=>(Q1V 6 2 0 0,0)
 |.y3 a=>(Q1V 6 3 a 0,0)
 |.y4 a b=>(Q1V 6 4 a b,0)
 |.y5 a b=>(Q1V 6 5 a b,0)
 |.y6 a b=>(Q1V 6 6 a b,0)
 |.y8 a b=>(Q1V 6 8 a b,0)
 |.y9 a b=>(Q1V 6 9 a b,0)
 |.y10 a b=>(Q1V 6 10 a b,0)
 |.y11 a b=>(Q1V 6 11 a b,0)
 |.z0=>(Q1V 7 0 0 0,1)
 |.z1=>(Q1V 7 1 0 0,1)
 |.z2=>(Q1V 7 2 0 0,1)
 |.z3 a=>(Q1V 7 3 a 0,1)
 |.z4 a b=>(Q1V 7 4 a b,1)
 |.z5 a b=>(Q1V 7 5 a b,1)
 |.z6 a b=>(Q1V 7 6 a b,1)
 |.z7 a b=>(Q1V 7 7 a b,1)
 |.z8 a b=>(Q1V 7 8 a b,1)
 |.z9 a b=>(Q1V 7 9 a b,1)
 |.z10 a b=>(Q1V 7 10 a b,1)
 |.z11 a b=>(Q1V 7 11 a b,1)
def Q2P(n t:Nat):PqP→Option (Nat×(Int→Bool))
 |.r1 a=>some (0,fun v=>v%4 !=a%4)
 |.w4 _=>some (8+n+t,fun v=>v==0)
 |.w7 a _=>some (1,fun v=>v==a)
 |.y6 a _=>some (1,fun v=>v==a)
 |.z6 a _=>some (1,fun v=>v==(a-256)%4294967296)
 |.v5 _ _=>some (8+t,fun v=>v !=0)
 |.d5 _ _=>some (8+t,fun v=>v !=0)
 |.y10 _ _=>some (8+t,fun v=>v !=0)
 |.z10 _ _=>some (8+t,fun v=>v !=0)
 |_=>none
def Q3b(v:Int):PqP→PqP
 |.r1 _=> .idle 1
 |.w4 a=> .w5 a
 |.w7 _ _=> .idle 2
 |.y6 _ _=> .idle 2
 |.z6 a b=> .z7 a b
 |.v5 _ b=> .v6 v b
 |.d5 _ b=> .d6 v b
 |.y10 _ b=> .y11 v b
 |.z10 _ b=> .z11 v b
 |p=>p
def Q3M(v:Int):PqP→Int
 |.r1 a=>a
 |.w4 a=>a
 |.w7 a _=>a
 |.y6 a _=>a
 |.z6 a _=>a
 |.v5 _ _=>v
 |.d5 _ _=>v
 |.y10 _ _=>v
 |.z10 _ _=>v
 |_=>0
def Q0F(n t:Nat)(m:Nat→Int):PqP→PqP×Option (Nat×Int)×Option Nat
 |.r0=>(if m 0%4=0 then .idle 1 else .r1 (m 0),some (0,(m 0+256)%4294967296),none)
 |.u0=>(.idle 0,some (1,(m 1+256)%4294967296),some 1)
 |.q0 _=>(if m 0%4=0 then .q1 (m 0)else .idle 0,none,none)
 |.q1 a=>if m 0=a then(.idle 1,some (0,(a+256)%4294967296),none)else(.q0 a,none,none)
 |.w0=>(.w1,some (8+t,0),none)
 |.w1=>(.w2,some (8+n+t,1),none)
 |.w2=>(if m 2=0 then .w5 (m 2)else .w3 (m 2),some (2,(t:Int)+1),none)
 |.w3 a=>(.w4 a,some (8+(a-1).toNat,(t:Int)+1),some (8+(a-1).toNat))
 |.w5 a=>(.w6 a (m 3),none,none)
 |.w6 _ b=>(.w7 (m 0) b,some (0,(m 0+Q6u b)%4294967296),none)
 |.v0=>(.v1 (m 3),none,none)
 |.v1 b=>(.v2 b,some (0,(m 0+ -Q6u b%4294967296)%4294967296),some 0)
 |.v2 b=>(.v3 b,some (3,(b+1)%4294967296),none)
 |.d0=>(.d1 (m 3),none,none)
 |.d1 b=>(.d2 b,some (0,(m 0+(256-Q6u b)%4294967296)%4294967296),some 0)
 |.d2 b=>(.d3 b,some (3,(b+1)%4294967296),none)
 |.y0=>(.y1,some (8+t,0),none)
 |.y1=>if m 2=0 then(.y2,some (2,(t:Int)+1),none)else(.idle 0,none,none)
 |.y2=>(.y3 (m 0),none,none)
 |.y3 a=>(if 0<Q1s a (m 1)then .y8 a (m 1)else .y4 a (m 1),none,none)
 |.y4 a _=>(.y5 a (m 3),none,none)
 |.y5 _ b=>(.y6 (m 0) b,some (0,(m 0+Q6u b)%4294967296),none)
 |.z0=>(.z1,some (8+t,0),none)
 |.z1=>if m 2=0 then(.z2,some (2,(t:Int)+1),none)else(.idle 1,none,none)
 |.z2=>(.z3 (m 0),none,none)
 |.z3 a=>(if 256<Q1s a (m 1)then .z8 a (m 1)else .z4 a (m 1),none,none)
 |.z4 a _=>(.z5 a (m 3),none,none)
 |.z5 _ b=>(.z6 (m 0) b,some (0,(m 0+Q6u b)%4294967296),none)
 |.z7 _ _=>(.idle 2,some (1,(m 1+256)%4294967296),none)
 |.v3 b=>(if m (8+t)=0 then .v4 (m (8+t)) b else .v6 (m (8+t)) b,none,none)
 |.v4 a b=>if m 2=(t:Int)+1 then(.idle 0,some (2,0),none)else(.v5 a b,none,none)
 |.v6 a _=>(.idle 0,some (8+n+(a-1).toNat,0),some (8+n+(a-1).toNat))
 |.d3 b=>(if m (8+t)=0 then .d4 (m (8+t)) b else .d6 (m (8+t)) b,none,none)
 |.d4 a b=>if m 2=(t:Int)+1 then(.idle 1,some (2,0),none)else(.d5 a b,none,none)
 |.d6 a _=>(.idle 1,some (8+n+(a-1).toNat,0),some (8+n+(a-1).toNat))
 |.y8 _ b=>(if m (8+t)=0 then .y9 (m (8+t)) b else .y11 (m (8+t)) b,none,none)
 |.y9 a b=>if m 2=(t:Int)+1 then(.idle 0,some (2,0),none)else(.y10 a b,none,none)
 |.y11 a _=>(.idle 0,some (8+n+(a-1).toNat,0),some (8+n+(a-1).toNat))
 |.z8 _ b=>(if m (8+t)=0 then .z9 (m (8+t)) b else .z11 (m (8+t)) b,none,none)
 |.z9 a b=>if m 2=(t:Int)+1 then(.idle 1,some (2,0),none)else(.z10 a b,none,none)
 |.z11 a _=>(.idle 1,some (8+n+(a-1).toNat,0),some (8+n+(a-1).toNat))
 |p=>(p,none,none)
def Q5q(op h:Int):PqP:=if op=1 then .r0 else if op=2 then .u0 else if op=3 then .w0 else if op=4 then .v0 else if op=5 then .q0 0 else if op=6 then .y0 else if op=7 then .z0 else .d0
def Q3Q:PqP→Mk
 |.idle h=>if h=2 then .hd else .out
 |.r0=> .out
 |.r1 _=> .out
 |.u0=> .out
 |.q0 _=> .out
 |.q1 _=> .out
 |.w0=> .out
 |.w1=> .nx
 |.w2=> .nb
 |.w3 a=> .e3 a
 |.w4 _=> .e4
 |.w5 _=> .hd
 |.w6 _ _=> .hd
 |.w7 _ _=> .hd
 |.v0=> .hd
 |.v1 _=> .hd
 |.v2 _=> .hd
 |.v3 _=> .hd
 |.v4 _ _=> .g1
 |.v5 _ _=> .g2
 |.v6 a _=> .g3 a
 |.d0=> .hd
 |.d1 _=> .hd
 |.d2 _=> .hd
 |.d3 _=> .hd
 |.d4 _ _=> .g1
 |.d5 _ _=> .g2
 |.d6 a _=> .g3 a
 |.y0=> .out
 |.y1=> .nx
 |.y2=> .hd
 |.y3 _=> .hd
 |.y4 _ _=> .hd
 |.y5 _ _=> .hd
 |.y6 _ _=> .hd
 |.y8 _ _=> .hd
 |.y9 _ _=> .g1
 |.y10 _ _=> .g2
 |.y11 a _=> .g3 a
 |.z0=> .out
 |.z1=> .nx
 |.z2=> .hd
 |.z3 _=> .hd
 |.z4 _ _=> .hd
 |.z5 _ _=> .hd
 |.z6 _ _=> .hd
 |.z7 _ _=> .hd
 |.z8 _ _=> .hd
 |.z9 _ _=> .g1
 |.z10 _ _=> .g2
 |.z11 a _=> .g3 a
def Q0D:PqP→Ph
 |.idle h=>⟨decide (h=2),decide (h=2),false,false,false,decide (h=1), .none, .none, .none⟩
 |.r0=>⟨false,false,false,false,false,false, .none, .none, .none⟩
 |.r1 a=>⟨false,false,false,false,false,false,some (a%4), .none, .none⟩
 |.u0=>⟨false,false,false,false,false,true, .none, .none, .none⟩
 |.q0 _=>⟨false,false,false,false,false,false, .none, .none, .none⟩
 |.q1 _=>⟨false,false,false,false,false,false, .none, .none, .none⟩
 |.w0=>⟨false,false,false,false,false,false, .none, .none, .none⟩
 |.w1=>⟨false,false,false,false,false,false, .none, .none, .none⟩
 |.w2=>⟨false,false,false,false,false,false, .none, .none, .none⟩
 |.w3 _=>⟨false,false,false,false,false,false, .none, .none, .none⟩
 |.w4 _=>⟨false,false,false,false,false,false, .none, .none, .none⟩
 |.w5 _=>⟨true,false,false,false,false,false, .none, .none, .none⟩
 |.w6 _ b=>⟨true,false,false,false,false,false, .none,some b, .none⟩
 |.w7 a _=>⟨true,false,false,true,false,false, .none, .none,some a⟩
 |.v0=>⟨true,true,false,false,false,false, .none, .none, .none⟩
 |.v1 b=>⟨true,true,false,false,false,false, .none,some b, .none⟩
 |.v2 b=>⟨true,false,false,false,true,false, .none,some b, .none⟩
 |.v3 _=>⟨true,false,false,false,false,false, .none, .none, .none⟩
 |.v4 _ _=>⟨true,false,false,false,false,false, .none, .none, .none⟩
 |.v5 _ _=>⟨true,false,false,false,false,false, .none, .none, .none⟩
 |.v6 _ _=>⟨true,false,false,false,false,false, .none, .none, .none⟩
 |.d0=>⟨true,true,false,false,false,false, .none, .none, .none⟩
 |.d1 b=>⟨true,true,false,false,false,false, .none,some b, .none⟩
 |.d2 b=>⟨true,false,false,false,true,true, .none,some b, .none⟩
 |.d3 _=>⟨true,false,false,false,false,true, .none, .none, .none⟩
 |.d4 _ _=>⟨true,false,false,false,false,true, .none, .none, .none⟩
 |.d5 _ _=>⟨true,false,false,false,false,true, .none, .none, .none⟩
 |.d6 _ _=>⟨true,false,false,false,false,true, .none, .none, .none⟩
 |.y0=>⟨false,false,false,false,false,false, .none, .none, .none⟩
 |.y1=>⟨false,false,false,false,false,false, .none, .none, .none⟩
 |.y2=>⟨true,false,false,false,false,false, .none, .none, .none⟩
 |.y3 _=>⟨true,false,false,false,false,false, .none, .none, .none⟩
 |.y4 _ _=>⟨true,false,false,false,false,false, .none, .none, .none⟩
 |.y5 _ b=>⟨true,false,false,false,false,false, .none,some b, .none⟩
 |.y6 a _=>⟨true,false,false,true,false,false, .none, .none,some a⟩
 |.y8 _ _=>⟨true,false,false,false,false,false, .none, .none, .none⟩
 |.y9 _ _=>⟨true,false,false,false,false,false, .none, .none, .none⟩
 |.y10 _ _=>⟨true,false,false,false,false,false, .none, .none, .none⟩
 |.y11 _ _=>⟨true,false,false,false,false,false, .none, .none, .none⟩
 |.z0=>⟨false,false,false,false,false,true, .none, .none, .none⟩
 |.z1=>⟨false,false,false,false,false,true, .none, .none, .none⟩
 |.z2=>⟨true,false,false,false,false,true, .none, .none, .none⟩
 |.z3 _=>⟨true,false,false,false,false,true, .none, .none, .none⟩
 |.z4 _ _=>⟨true,false,false,false,false,true, .none, .none, .none⟩
 |.z5 _ b=>⟨true,false,false,false,false,true, .none,some b, .none⟩
 |.z6 a _=>⟨true,false,false,true,false,true, .none, .none,some a⟩
 |.z7 _ _=>⟨true,false,true,false,false,true, .none, .none, .none⟩
 |.z8 _ _=>⟨true,false,false,false,false,true, .none, .none, .none⟩
 |.z9 _ _=>⟨true,false,false,false,false,true, .none, .none, .none⟩
 |.z10 _ _=>⟨true,false,false,false,false,true, .none, .none, .none⟩
 |.z11 _ _=>⟨true,false,false,false,false,true, .none, .none, .none⟩
def pqOk(n:Nat)(p:PqP):Prop:= ∀a,(Q3Q p= .e3 a∨Q3Q p= .g3 a)→1≤a∧a≤n
def pqK(n:Nat):Q3D PqP:=⟨pqA,Q0Y,fun p v=>Q3M v p,fun t p=>Q2P n t p,fun p v=>Q3b v p,fun t p m=>Q0F n t m p, .idle,Q5q,pqOk n⟩
theorem Y3O(n:Nat)(mode:Int)(h1:1≤n)(h2:n≤64):(pqK n).Good n mode:=by
 refine⟨fun p=>by cases p<;>exact⟨rfl,rfl,rfl⟩,fun h=>rfl,fun p hp=> ?_,fun p hp=> ?_,fun t p c pr hw=> ?_,fun op h hm=> ?_,fun t op h hm=> ?_,fun t p c pr _ htn hw=> ?_,fun t p c pr v hw hh=> ?_,fun p t s hok ht hw hop hn hmd htk hf hl=> ?_,fun p t c pr st s hok ht hw h0 h3 hn hmd htk hf hl=> ?_,fun p t c pr v s hok ht hm2 hw hpr hn hmd htk hf hl=> ?_⟩
 ·cases p<;>first|rfl|(simp[pqK,Q0Y,Q1V]at hp)
 ·cases p<;>first|(simp[pqK,Q0Y,Q1V]at hp;done)|(simp[pqK,Q0Y,Q1V]at hp;rw[hp];rfl)
 ·cases p<;>simp[pqK,Q2P]at hw<;>simp[pqK,Q0Y,Q1V]
 ·rcases Q2L hm with⟨rfl,rfl|rfl|rfl|rfl⟩|⟨rfl,rfl|rfl⟩|⟨_,_,rfl|rfl⟩<;>simp[Q5q,pqK,Q0Y,Q1V,Q4h,Q0w]
 ·rcases Q2L hm with⟨rfl,rfl|rfl|rfl|rfl⟩|⟨rfl,rfl|rfl⟩|⟨_,_,rfl|rfl⟩<;>simp[pqK,Q5q,Q2P]
 ·cases p<;>simp[pqK,Q2P]at hw<;>omega
 ·cases p<;>simp[pqK,Q2P]at hw<;>simp[Q3b,pqK,Q0Y,Q1V]at hh⊢
 ·obtain⟨sn,sm,st,f,acc,notes,L⟩:=s
  simp only at hn hmd htk hf hl
  subst hn hmd htk hf
  have e0:=Q1p (n:=n) (row:=0) (i:=t) h1 h2 (by omega) (by omega)
  have e1:=Q1p (n:=n) (row:=1) (i:=t) h1 h2 (by omega) (by omega)
  simp only[Int.zero_mul,Int.add_zero,Int.one_mul]at e0 e1
  have ow:((t:Int)+1)%4294967296=t+1:=by omega
  have c0:(0:Int).toNat=0:=rfl
  have c1:(1:Int).toNat=1:=rfl
  have c2:(2:Int).toNat=2:=rfl
  have c3:(3:Int).toNat=3:=rfl
  have cN:(8+(t:Int)).toNat=8+t:=by omega
  have cB:(8+(n:Int)+t).toNat=8+n+t:=by omega
  have lN:=Q6f (n:=n) (L:=L) (c:=8+(t:Int)) hl (by omega) (by omega)
  have sN:=fun x=>Q3Y (n:=n) (L:=L) (c:=8+(t:Int)) (x:=x) hl (by omega) (by omega)
  have sB:=fun x=>Q3Y (n:=n) (L:=L) (c:=8+(n:Int)+t) (x:=x) hl (by omega) (by omega)
  have l0:=Q6f (n:=n) (L:=L) (c:=0) hl (by decide) (by omega)
  have a0:=fun x=>Q7B (n:=n) (L:=L) (c:=0) (x:=x) hl (by decide) (by omega)
  have k0:=fun x y=>Q4T (n:=n) (L:=L) (c:=0) (x:=x) (y:=y) hl (by decide) (by omega)
  have b0:=fun x y=>Q3Z (n:=n) (L:=L) (c:=0) (x:=x) (y:=y) hl (by decide) (by omega)
  have l1:=Q6f (n:=n) (L:=L) (c:=1) hl (by decide) (by omega)
  have a1:=fun x=>Q7B (n:=n) (L:=L) (c:=1) (x:=x) hl (by decide) (by omega)
  have w2:=fun x=>Y7r (n:=n) (L:=L) (c:=2) (x:=x) hl (by decide) (by omega)
  have k2:=fun x y=>Q4T (n:=n) (L:=L) (c:=2) (x:=x) (y:=y) hl (by decide) (by omega)
  have b2:=fun x y=>Q3Z (n:=n) (L:=L) (c:=2) (x:=x) (y:=y) hl (by decide) (by omega)
  have l3:=Q6f (n:=n) (L:=L) (c:=3) hl (by decide) (by omega)
  have s3:=fun x=>Q3Y (n:=n) (L:=L) (c:=3) (x:=x) hl (by decide) (by omega)
  simp only[c0,c1,c2,c3,cN,cB]at lN sN sB w2 k2 b2 k0 b0 l0 l1 l3 a0 a1 s3
  show X3e (pqK n) n p (Q0F n t (Q0j n L) p) _ _
  change pqOk n p at hok
  cases p<;>simp[pqK,Q2P]at hw<;>simp[pqK,Q0Y,Q1V,Fr.zero]at hop
  case r0=>by_cases q0:Q0j n L 0%4=0<;>constructor<;>simp[pqK,Q0Y,Q1V,pqA,Q0F,Q0S,Q1H,Q1d,Q1h,Q0M,Q0y,Q1M,Q1L,Q0P,Q0O,Q1o,Q1n,Q1m,Q1l,Q1k,Q0n,Q0L,Q0v,Q1S,Q2b,Q1U,Q2a,Q1Y,Q1X,Q1T,Q1W,Q1Z,Q0H,wrap64,Rn.fresh,Rn.did,Rn.Q0h,Rn.setB,Rn.note,Rn.goto,Rn.Q0d,Rn.fin,Rn.wake,Rn.keep,Q0e,Q0o,Q0c,Q1f,Q0w,q0,e0,e1,ow,lN,sN,sB,w2,k2,b2,k0,b0,l0,l1,l3,a0,a1,s3]<;>omega
  case u0=>constructor<;>simp[pqK,Q0Y,Q1V,pqA,Q0F,Q0S,Q1H,Q1d,Q1h,Q0M,Q0y,Q1M,Q1L,Q0P,Q0O,Q1o,Q1n,Q1m,Q1l,Q1k,Q0n,Q0L,Q0v,Q1S,Q2b,Q1U,Q2a,Q1Y,Q1X,Q1T,Q1W,Q1Z,Q0H,wrap64,Rn.fresh,Rn.did,Rn.Q0h,Rn.setB,Rn.note,Rn.goto,Rn.Q0d,Rn.fin,Rn.wake,Rn.keep,Q0e,Q0o,Q0c,Q1f,Q0w,e0,e1,ow,lN,sN,sB,w2,k2,b2,k0,b0,l0,l1,l3,a0,a1,s3]<;>omega
  case q0 a=>by_cases q0:Q0j n L 0%4=0<;>constructor<;>simp[pqK,Q0Y,Q1V,pqA,Q0F,Q0S,Q1H,Q1d,Q1h,Q0M,Q0y,Q1M,Q1L,Q0P,Q0O,Q1o,Q1n,Q1m,Q1l,Q1k,Q0n,Q0L,Q0v,Q1S,Q2b,Q1U,Q2a,Q1Y,Q1X,Q1T,Q1W,Q1Z,Q0H,wrap64,Rn.fresh,Rn.did,Rn.Q0h,Rn.setB,Rn.note,Rn.goto,Rn.Q0d,Rn.fin,Rn.wake,Rn.keep,Q0e,Q0o,Q0c,Q1f,Q0w,q0,e0,e1,ow,lN,sN,sB,w2,k2,b2,k0,b0,l0,l1,l3,a0,a1,s3]<;>omega
  case q1 a=>by_cases q0:Q0j n L 0=a<;>constructor<;>simp[pqK,Q0Y,Q1V,pqA,Q0F,Q0S,Q1H,Q1d,Q1h,Q0M,Q0y,Q1M,Q1L,Q0P,Q0O,Q1o,Q1n,Q1m,Q1l,Q1k,Q0n,Q0L,Q0v,Q1S,Q2b,Q1U,Q2a,Q1Y,Q1X,Q1T,Q1W,Q1Z,Q0H,wrap64,Rn.fresh,Rn.did,Rn.Q0h,Rn.setB,Rn.note,Rn.goto,Rn.Q0d,Rn.fin,Rn.wake,Rn.keep,Q0e,Q0o,Q0c,Q1f,Q0w,q0,e0,e1,ow,lN,sN,sB,w2,k2,b2,k0,b0,l0,l1,l3,a0,a1,s3]<;>omega
  case w0=>constructor<;>simp[pqK,Q0Y,Q1V,pqA,Q0F,Q0S,Q1H,Q1d,Q1h,Q0M,Q0y,Q1M,Q1L,Q0P,Q0O,Q1o,Q1n,Q1m,Q1l,Q1k,Q0n,Q0L,Q0v,Q1S,Q2b,Q1U,Q2a,Q1Y,Q1X,Q1T,Q1W,Q1Z,Q0H,wrap64,Rn.fresh,Rn.did,Rn.Q0h,Rn.setB,Rn.note,Rn.goto,Rn.Q0d,Rn.fin,Rn.wake,Rn.keep,Q0e,Q0o,Q0c,Q1f,Q0w,e0,e1,ow,lN,sN,sB,w2,k2,b2,k0,b0,l0,l1,l3,a0,a1,s3]<;>omega
  case w1=>constructor<;>simp[pqK,Q0Y,Q1V,pqA,Q0F,Q0S,Q1H,Q1d,Q1h,Q0M,Q0y,Q1M,Q1L,Q0P,Q0O,Q1o,Q1n,Q1m,Q1l,Q1k,Q0n,Q0L,Q0v,Q1S,Q2b,Q1U,Q2a,Q1Y,Q1X,Q1T,Q1W,Q1Z,Q0H,wrap64,Rn.fresh,Rn.did,Rn.Q0h,Rn.setB,Rn.note,Rn.goto,Rn.Q0d,Rn.fin,Rn.wake,Rn.keep,Q0e,Q0o,Q0c,Q1f,Q0w,e0,e1,ow,lN,sN,sB,w2,k2,b2,k0,b0,l0,l1,l3,a0,a1,s3]<;>omega
  case w2=>by_cases q0:Q0j n L 2=0<;>constructor<;>simp[pqK,Q0Y,Q1V,pqA,Q0F,Q0S,Q1H,Q1d,Q1h,Q0M,Q0y,Q1M,Q1L,Q0P,Q0O,Q1o,Q1n,Q1m,Q1l,Q1k,Q0n,Q0L,Q0v,Q1S,Q2b,Q1U,Q2a,Q1Y,Q1X,Q1T,Q1W,Q1Z,Q0H,wrap64,Rn.fresh,Rn.did,Rn.Q0h,Rn.setB,Rn.note,Rn.goto,Rn.Q0d,Rn.fin,Rn.wake,Rn.keep,Q0e,Q0o,Q0c,Q1f,Q0w,q0,e0,e1,ow,lN,sN,sB,w2,k2,b2,k0,b0,l0,l1,l3,a0,a1,s3]<;>omega
  case w3 a=>obtain⟨k,rfl⟩: ∃k:Nat,a=(k:Int)+1:=⟨(a-1).toNat,(by have:=hok a (by simp[Q3Q]);omega)⟩;have ho:=hok (k+1) (by simp[Q3Q]);have eA:=Q1p (n:=n) (row:=0) (i:=k) h1 h2 (by omega) (by omega);have eT:=Q3Y (n:=n) (L:=L) (c:=8+(k:Int)) (x:=(t:Int)+1) hl (by omega) (by omega);have eZ:(8+(k:Int)).toNat=8+k:=(by omega);have eK:(k:Int)+1-1=k:=(by omega);simp only[Int.zero_mul,Int.add_zero,Int.one_mul]at eA;rw[eZ]at eT;constructor<;>simp[pqK,Q0Y,Q1V,pqA,Q0F,Q0S,Q1H,Q1d,Q1h,Q0M,Q0y,Q1M,Q1L,Q0P,Q0O,Q1o,Q1n,Q1m,Q1l,Q1k,Q0n,Q0L,Q0v,Q1S,Q2b,Q1U,Q2a,Q1Y,Q1X,Q1T,Q1W,Q1Z,Q0H,wrap64,Rn.fresh,Rn.did,Rn.Q0h,Rn.setB,Rn.note,Rn.goto,Rn.Q0d,Rn.fin,Rn.wake,Rn.keep,Q0e,Q0o,Q0c,Q1f,Q0w,eA,eT,eK,e0,e1,ow,lN,sN,sB,w2,k2,b2,k0,b0,l0,l1,l3,a0,a1,s3]<;>omega
  case w5 a=>constructor<;>simp[pqK,Q0Y,Q1V,pqA,Q0F,Q0S,Q1H,Q1d,Q1h,Q0M,Q0y,Q1M,Q1L,Q0P,Q0O,Q1o,Q1n,Q1m,Q1l,Q1k,Q0n,Q0L,Q0v,Q1S,Q2b,Q1U,Q2a,Q1Y,Q1X,Q1T,Q1W,Q1Z,Q0H,wrap64,Rn.fresh,Rn.did,Rn.Q0h,Rn.setB,Rn.note,Rn.goto,Rn.Q0d,Rn.fin,Rn.wake,Rn.keep,Q0e,Q0o,Q0c,Q1f,Q0w,e0,e1,ow,lN,sN,sB,w2,k2,b2,k0,b0,l0,l1,l3,a0,a1,s3]<;>omega
  case w6 a b=>constructor<;>simp[pqK,Q0Y,Q1V,pqA,Q0F,Q0S,Q1H,Q1d,Q1h,Q0M,Q0y,Q1M,Q1L,Q0P,Q0O,Q1o,Q1n,Q1m,Q1l,Q1k,Q0n,Q0L,Q0v,Q1S,Q2b,Q1U,Q2a,Q1Y,Q1X,Q1T,Q1W,Q1Z,Q0H,wrap64,Rn.fresh,Rn.did,Rn.Q0h,Rn.setB,Rn.note,Rn.goto,Rn.Q0d,Rn.fin,Rn.wake,Rn.keep,Q0e,Q0o,Q0c,Q1f,Q0w,e0,e1,ow,lN,sN,sB,w2,k2,b2,k0,b0,l0,l1,l3,a0,a1,s3]<;>omega
  case v0=>constructor<;>simp[pqK,Q0Y,Q1V,pqA,Q0F,Q0S,Q1H,Q1d,Q1h,Q0M,Q0y,Q1M,Q1L,Q0P,Q0O,Q1o,Q1n,Q1m,Q1l,Q1k,Q0n,Q0L,Q0v,Q1S,Q2b,Q1U,Q2a,Q1Y,Q1X,Q1T,Q1W,Q1Z,Q0H,wrap64,Rn.fresh,Rn.did,Rn.Q0h,Rn.setB,Rn.note,Rn.goto,Rn.Q0d,Rn.fin,Rn.wake,Rn.keep,Q0e,Q0o,Q0c,Q1f,Q0w,e0,e1,ow,lN,sN,sB,w2,k2,b2,k0,b0,l0,l1,l3,a0,a1,s3]<;>omega
  case v1 b=>constructor<;>simp[pqK,Q0Y,Q1V,pqA,Q0F,Q0S,Q1H,Q1d,Q1h,Q0M,Q0y,Q1M,Q1L,Q0P,Q0O,Q1o,Q1n,Q1m,Q1l,Q1k,Q0n,Q0L,Q0v,Q1S,Q2b,Q1U,Q2a,Q1Y,Q1X,Q1T,Q1W,Q1Z,Q0H,wrap64,Rn.fresh,Rn.did,Rn.Q0h,Rn.setB,Rn.note,Rn.goto,Rn.Q0d,Rn.fin,Rn.wake,Rn.keep,Q0e,Q0o,Q0c,Q1f,Q0w,e0,e1,ow,lN,sN,sB,w2,k2,b2,k0,b0,l0,l1,l3,a0,a1,s3]<;>omega
  case v2 b=>constructor<;>simp[pqK,Q0Y,Q1V,pqA,Q0F,Q0S,Q1H,Q1d,Q1h,Q0M,Q0y,Q1M,Q1L,Q0P,Q0O,Q1o,Q1n,Q1m,Q1l,Q1k,Q0n,Q0L,Q0v,Q1S,Q2b,Q1U,Q2a,Q1Y,Q1X,Q1T,Q1W,Q1Z,Q0H,wrap64,Rn.fresh,Rn.did,Rn.Q0h,Rn.setB,Rn.note,Rn.goto,Rn.Q0d,Rn.fin,Rn.wake,Rn.keep,Q0e,Q0o,Q0c,Q1f,Q0w,e0,e1,ow,lN,sN,sB,w2,k2,b2,k0,b0,l0,l1,l3,a0,a1,s3]<;>omega
  case v3 b=>by_cases q0:Q0j n L (8+t)=0<;>constructor<;>simp[pqK,Q0Y,Q1V,pqA,Q0F,Q0S,Q1H,Q1d,Q1h,Q0M,Q0y,Q1M,Q1L,Q0P,Q0O,Q1o,Q1n,Q1m,Q1l,Q1k,Q0n,Q0L,Q0v,Q1S,Q2b,Q1U,Q2a,Q1Y,Q1X,Q1T,Q1W,Q1Z,Q0H,wrap64,Rn.fresh,Rn.did,Rn.Q0h,Rn.setB,Rn.note,Rn.goto,Rn.Q0d,Rn.fin,Rn.wake,Rn.keep,Q0e,Q0o,Q0c,Q1f,Q0w,q0,e0,e1,ow,lN,sN,sB,w2,k2,b2,k0,b0,l0,l1,l3,a0,a1,s3]<;>omega
  case v4 a b=>by_cases q0:Q0j n L 2=(t:Int)+1<;>constructor<;>simp[pqK,Q0Y,Q1V,pqA,Q0F,Q0S,Q1H,Q1d,Q1h,Q0M,Q0y,Q1M,Q1L,Q0P,Q0O,Q1o,Q1n,Q1m,Q1l,Q1k,Q0n,Q0L,Q0v,Q1S,Q2b,Q1U,Q2a,Q1Y,Q1X,Q1T,Q1W,Q1Z,Q0H,wrap64,Rn.fresh,Rn.did,Rn.Q0h,Rn.setB,Rn.note,Rn.goto,Rn.Q0d,Rn.fin,Rn.wake,Rn.keep,Q0e,Q0o,Q0c,Q1f,Q0w,q0,e0,e1,ow,lN,sN,sB,w2,k2,b2,k0,b0,l0,l1,l3,a0,a1,s3]<;>omega
  case v6 a b=>obtain⟨k,rfl⟩: ∃k:Nat,a=(k:Int)+1:=⟨(a-1).toNat,(by have:=hok a (by simp[Q3Q]);omega)⟩;have ho:=hok (k+1) (by simp[Q3Q]);have eA:=Q1p (n:=n) (row:=1) (i:=k) h1 h2 (by omega) (by omega);have eT:=Q3Y (n:=n) (L:=L) (c:=8+(n:Int)+(k:Int)) (x:=0) hl (by omega) (by omega);have eZ:(8+(n:Int)+(k:Int)).toNat=8+n+k:=(by omega);have eK:(k:Int)+1-1=k:=(by omega);simp only[Int.zero_mul,Int.add_zero,Int.one_mul]at eA;rw[eZ]at eT;constructor<;>simp[pqK,Q0Y,Q1V,pqA,Q0F,Q0S,Q1H,Q1d,Q1h,Q0M,Q0y,Q1M,Q1L,Q0P,Q0O,Q1o,Q1n,Q1m,Q1l,Q1k,Q0n,Q0L,Q0v,Q1S,Q2b,Q1U,Q2a,Q1Y,Q1X,Q1T,Q1W,Q1Z,Q0H,wrap64,Rn.fresh,Rn.did,Rn.Q0h,Rn.setB,Rn.note,Rn.goto,Rn.Q0d,Rn.fin,Rn.wake,Rn.keep,Q0e,Q0o,Q0c,Q1f,Q0w,eA,eT,eK,e0,e1,ow,lN,sN,sB,w2,k2,b2,k0,b0,l0,l1,l3,a0,a1,s3]<;>omega
  case d0=>constructor<;>simp[pqK,Q0Y,Q1V,pqA,Q0F,Q0S,Q1H,Q1d,Q1h,Q0M,Q0y,Q1M,Q1L,Q0P,Q0O,Q1o,Q1n,Q1m,Q1l,Q1k,Q0n,Q0L,Q0v,Q1S,Q2b,Q1U,Q2a,Q1Y,Q1X,Q1T,Q1W,Q1Z,Q0H,wrap64,Rn.fresh,Rn.did,Rn.Q0h,Rn.setB,Rn.note,Rn.goto,Rn.Q0d,Rn.fin,Rn.wake,Rn.keep,Q0e,Q0o,Q0c,Q1f,Q0w,e0,e1,ow,lN,sN,sB,w2,k2,b2,k0,b0,l0,l1,l3,a0,a1,s3]<;>omega
  case d1 b=>constructor<;>simp[pqK,Q0Y,Q1V,pqA,Q0F,Q0S,Q1H,Q1d,Q1h,Q0M,Q0y,Q1M,Q1L,Q0P,Q0O,Q1o,Q1n,Q1m,Q1l,Q1k,Q0n,Q0L,Q0v,Q1S,Q2b,Q1U,Q2a,Q1Y,Q1X,Q1T,Q1W,Q1Z,Q0H,wrap64,Rn.fresh,Rn.did,Rn.Q0h,Rn.setB,Rn.note,Rn.goto,Rn.Q0d,Rn.fin,Rn.wake,Rn.keep,Q0e,Q0o,Q0c,Q1f,Q0w,e0,e1,ow,lN,sN,sB,w2,k2,b2,k0,b0,l0,l1,l3,a0,a1,s3]<;>omega
  case d2 b=>constructor<;>simp[pqK,Q0Y,Q1V,pqA,Q0F,Q0S,Q1H,Q1d,Q1h,Q0M,Q0y,Q1M,Q1L,Q0P,Q0O,Q1o,Q1n,Q1m,Q1l,Q1k,Q0n,Q0L,Q0v,Q1S,Q2b,Q1U,Q2a,Q1Y,Q1X,Q1T,Q1W,Q1Z,Q0H,wrap64,Rn.fresh,Rn.did,Rn.Q0h,Rn.setB,Rn.note,Rn.goto,Rn.Q0d,Rn.fin,Rn.wake,Rn.keep,Q0e,Q0o,Q0c,Q1f,Q0w,e0,e1,ow,lN,sN,sB,w2,k2,b2,k0,b0,l0,l1,l3,a0,a1,s3]<;>omega
  case d3 b=>by_cases q0:Q0j n L (8+t)=0<;>constructor<;>simp[pqK,Q0Y,Q1V,pqA,Q0F,Q0S,Q1H,Q1d,Q1h,Q0M,Q0y,Q1M,Q1L,Q0P,Q0O,Q1o,Q1n,Q1m,Q1l,Q1k,Q0n,Q0L,Q0v,Q1S,Q2b,Q1U,Q2a,Q1Y,Q1X,Q1T,Q1W,Q1Z,Q0H,wrap64,Rn.fresh,Rn.did,Rn.Q0h,Rn.setB,Rn.note,Rn.goto,Rn.Q0d,Rn.fin,Rn.wake,Rn.keep,Q0e,Q0o,Q0c,Q1f,Q0w,q0,e0,e1,ow,lN,sN,sB,w2,k2,b2,k0,b0,l0,l1,l3,a0,a1,s3]<;>omega
  case d4 a b=>by_cases q0:Q0j n L 2=(t:Int)+1<;>constructor<;>simp[pqK,Q0Y,Q1V,pqA,Q0F,Q0S,Q1H,Q1d,Q1h,Q0M,Q0y,Q1M,Q1L,Q0P,Q0O,Q1o,Q1n,Q1m,Q1l,Q1k,Q0n,Q0L,Q0v,Q1S,Q2b,Q1U,Q2a,Q1Y,Q1X,Q1T,Q1W,Q1Z,Q0H,wrap64,Rn.fresh,Rn.did,Rn.Q0h,Rn.setB,Rn.note,Rn.goto,Rn.Q0d,Rn.fin,Rn.wake,Rn.keep,Q0e,Q0o,Q0c,Q1f,Q0w,q0,e0,e1,ow,lN,sN,sB,w2,k2,b2,k0,b0,l0,l1,l3,a0,a1,s3]<;>omega
  case d6 a b=>obtain⟨k,rfl⟩: ∃k:Nat,a=(k:Int)+1:=⟨(a-1).toNat,(by have:=hok a (by simp[Q3Q]);omega)⟩;have ho:=hok (k+1) (by simp[Q3Q]);have eA:=Q1p (n:=n) (row:=1) (i:=k) h1 h2 (by omega) (by omega);have eT:=Q3Y (n:=n) (L:=L) (c:=8+(n:Int)+(k:Int)) (x:=0) hl (by omega) (by omega);have eZ:(8+(n:Int)+(k:Int)).toNat=8+n+k:=(by omega);have eK:(k:Int)+1-1=k:=(by omega);simp only[Int.zero_mul,Int.add_zero,Int.one_mul]at eA;rw[eZ]at eT;constructor<;>simp[pqK,Q0Y,Q1V,pqA,Q0F,Q0S,Q1H,Q1d,Q1h,Q0M,Q0y,Q1M,Q1L,Q0P,Q0O,Q1o,Q1n,Q1m,Q1l,Q1k,Q0n,Q0L,Q0v,Q1S,Q2b,Q1U,Q2a,Q1Y,Q1X,Q1T,Q1W,Q1Z,Q0H,wrap64,Rn.fresh,Rn.did,Rn.Q0h,Rn.setB,Rn.note,Rn.goto,Rn.Q0d,Rn.fin,Rn.wake,Rn.keep,Q0e,Q0o,Q0c,Q1f,Q0w,eA,eT,eK,e0,e1,ow,lN,sN,sB,w2,k2,b2,k0,b0,l0,l1,l3,a0,a1,s3]<;>omega
  case y0=>constructor<;>simp[pqK,Q0Y,Q1V,pqA,Q0F,Q0S,Q1H,Q1d,Q1h,Q0M,Q0y,Q1M,Q1L,Q0P,Q0O,Q1o,Q1n,Q1m,Q1l,Q1k,Q0n,Q0L,Q0v,Q1S,Q2b,Q1U,Q2a,Q1Y,Q1X,Q1T,Q1W,Q1Z,Q0H,wrap64,Rn.fresh,Rn.did,Rn.Q0h,Rn.setB,Rn.note,Rn.goto,Rn.Q0d,Rn.fin,Rn.wake,Rn.keep,Q0e,Q0o,Q0c,Q1f,Q0w,e0,e1,ow,lN,sN,sB,w2,k2,b2,k0,b0,l0,l1,l3,a0,a1,s3]<;>omega
  case y1=>by_cases q0:Q0j n L 2=0<;>constructor<;>simp[pqK,Q0Y,Q1V,pqA,Q0F,Q0S,Q1H,Q1d,Q1h,Q0M,Q0y,Q1M,Q1L,Q0P,Q0O,Q1o,Q1n,Q1m,Q1l,Q1k,Q0n,Q0L,Q0v,Q1S,Q2b,Q1U,Q2a,Q1Y,Q1X,Q1T,Q1W,Q1Z,Q0H,wrap64,Rn.fresh,Rn.did,Rn.Q0h,Rn.setB,Rn.note,Rn.goto,Rn.Q0d,Rn.fin,Rn.wake,Rn.keep,Q0e,Q0o,Q0c,Q1f,Q0w,q0,e0,e1,ow,lN,sN,sB,w2,k2,b2,k0,b0,l0,l1,l3,a0,a1,s3]<;>omega
  case y2=>constructor<;>simp[pqK,Q0Y,Q1V,pqA,Q0F,Q0S,Q1H,Q1d,Q1h,Q0M,Q0y,Q1M,Q1L,Q0P,Q0O,Q1o,Q1n,Q1m,Q1l,Q1k,Q0n,Q0L,Q0v,Q1S,Q2b,Q1U,Q2a,Q1Y,Q1X,Q1T,Q1W,Q1Z,Q0H,wrap64,Rn.fresh,Rn.did,Rn.Q0h,Rn.setB,Rn.note,Rn.goto,Rn.Q0d,Rn.fin,Rn.wake,Rn.keep,Q0e,Q0o,Q0c,Q1f,Q0w,e0,e1,ow,lN,sN,sB,w2,k2,b2,k0,b0,l0,l1,l3,a0,a1,s3]<;>omega
  case y3 a=>by_cases q0:0<Q1s a (Q0j n L 1)<;>constructor<;>simp[pqK,Q0Y,Q1V,pqA,Q0F,Q0S,Q1H,Q1d,Q1h,Q0M,Q0y,Q1M,Q1L,Q0P,Q0O,Q1o,Q1n,Q1m,Q1l,Q1k,Q0n,Q0L,Q0v,Q1S,Q2b,Q1U,Q2a,Q1Y,Q1X,Q1T,Q1W,Q1Z,Q0H,wrap64,Rn.fresh,Rn.did,Rn.Q0h,Rn.setB,Rn.note,Rn.goto,Rn.Q0d,Rn.fin,Rn.wake,Rn.keep,Q0e,Q0o,Q0c,Q1f,Q0w,q0,e0,e1,ow,lN,sN,sB,w2,k2,b2,k0,b0,l0,l1,l3,a0,a1,s3]<;>omega
  case y4 a b=>constructor<;>simp[pqK,Q0Y,Q1V,pqA,Q0F,Q0S,Q1H,Q1d,Q1h,Q0M,Q0y,Q1M,Q1L,Q0P,Q0O,Q1o,Q1n,Q1m,Q1l,Q1k,Q0n,Q0L,Q0v,Q1S,Q2b,Q1U,Q2a,Q1Y,Q1X,Q1T,Q1W,Q1Z,Q0H,wrap64,Rn.fresh,Rn.did,Rn.Q0h,Rn.setB,Rn.note,Rn.goto,Rn.Q0d,Rn.fin,Rn.wake,Rn.keep,Q0e,Q0o,Q0c,Q1f,Q0w,e0,e1,ow,lN,sN,sB,w2,k2,b2,k0,b0,l0,l1,l3,a0,a1,s3]<;>omega
  case y5 a b=>constructor<;>simp[pqK,Q0Y,Q1V,pqA,Q0F,Q0S,Q1H,Q1d,Q1h,Q0M,Q0y,Q1M,Q1L,Q0P,Q0O,Q1o,Q1n,Q1m,Q1l,Q1k,Q0n,Q0L,Q0v,Q1S,Q2b,Q1U,Q2a,Q1Y,Q1X,Q1T,Q1W,Q1Z,Q0H,wrap64,Rn.fresh,Rn.did,Rn.Q0h,Rn.setB,Rn.note,Rn.goto,Rn.Q0d,Rn.fin,Rn.wake,Rn.keep,Q0e,Q0o,Q0c,Q1f,Q0w,e0,e1,ow,lN,sN,sB,w2,k2,b2,k0,b0,l0,l1,l3,a0,a1,s3]<;>omega
  case y8 a b=>by_cases q0:Q0j n L (8+t)=0<;>constructor<;>simp[pqK,Q0Y,Q1V,pqA,Q0F,Q0S,Q1H,Q1d,Q1h,Q0M,Q0y,Q1M,Q1L,Q0P,Q0O,Q1o,Q1n,Q1m,Q1l,Q1k,Q0n,Q0L,Q0v,Q1S,Q2b,Q1U,Q2a,Q1Y,Q1X,Q1T,Q1W,Q1Z,Q0H,wrap64,Rn.fresh,Rn.did,Rn.Q0h,Rn.setB,Rn.note,Rn.goto,Rn.Q0d,Rn.fin,Rn.wake,Rn.keep,Q0e,Q0o,Q0c,Q1f,Q0w,q0,e0,e1,ow,lN,sN,sB,w2,k2,b2,k0,b0,l0,l1,l3,a0,a1,s3]<;>omega
  case y9 a b=>by_cases q0:Q0j n L 2=(t:Int)+1<;>constructor<;>simp[pqK,Q0Y,Q1V,pqA,Q0F,Q0S,Q1H,Q1d,Q1h,Q0M,Q0y,Q1M,Q1L,Q0P,Q0O,Q1o,Q1n,Q1m,Q1l,Q1k,Q0n,Q0L,Q0v,Q1S,Q2b,Q1U,Q2a,Q1Y,Q1X,Q1T,Q1W,Q1Z,Q0H,wrap64,Rn.fresh,Rn.did,Rn.Q0h,Rn.setB,Rn.note,Rn.goto,Rn.Q0d,Rn.fin,Rn.wake,Rn.keep,Q0e,Q0o,Q0c,Q1f,Q0w,q0,e0,e1,ow,lN,sN,sB,w2,k2,b2,k0,b0,l0,l1,l3,a0,a1,s3]<;>omega
  case y11 a b=>obtain⟨k,rfl⟩: ∃k:Nat,a=(k:Int)+1:=⟨(a-1).toNat,(by have:=hok a (by simp[Q3Q]);omega)⟩;have ho:=hok (k+1) (by simp[Q3Q]);have eA:=Q1p (n:=n) (row:=1) (i:=k) h1 h2 (by omega) (by omega);have eT:=Q3Y (n:=n) (L:=L) (c:=8+(n:Int)+(k:Int)) (x:=0) hl (by omega) (by omega);have eZ:(8+(n:Int)+(k:Int)).toNat=8+n+k:=(by omega);have eK:(k:Int)+1-1=k:=(by omega);simp only[Int.zero_mul,Int.add_zero,Int.one_mul]at eA;rw[eZ]at eT;constructor<;>simp[pqK,Q0Y,Q1V,pqA,Q0F,Q0S,Q1H,Q1d,Q1h,Q0M,Q0y,Q1M,Q1L,Q0P,Q0O,Q1o,Q1n,Q1m,Q1l,Q1k,Q0n,Q0L,Q0v,Q1S,Q2b,Q1U,Q2a,Q1Y,Q1X,Q1T,Q1W,Q1Z,Q0H,wrap64,Rn.fresh,Rn.did,Rn.Q0h,Rn.setB,Rn.note,Rn.goto,Rn.Q0d,Rn.fin,Rn.wake,Rn.keep,Q0e,Q0o,Q0c,Q1f,Q0w,eA,eT,eK,e0,e1,ow,lN,sN,sB,w2,k2,b2,k0,b0,l0,l1,l3,a0,a1,s3]<;>omega
  case z0=>constructor<;>simp[pqK,Q0Y,Q1V,pqA,Q0F,Q0S,Q1H,Q1d,Q1h,Q0M,Q0y,Q1M,Q1L,Q0P,Q0O,Q1o,Q1n,Q1m,Q1l,Q1k,Q0n,Q0L,Q0v,Q1S,Q2b,Q1U,Q2a,Q1Y,Q1X,Q1T,Q1W,Q1Z,Q0H,wrap64,Rn.fresh,Rn.did,Rn.Q0h,Rn.setB,Rn.note,Rn.goto,Rn.Q0d,Rn.fin,Rn.wake,Rn.keep,Q0e,Q0o,Q0c,Q1f,Q0w,e0,e1,ow,lN,sN,sB,w2,k2,b2,k0,b0,l0,l1,l3,a0,a1,s3]<;>omega
  case z1=>by_cases q0:Q0j n L 2=0<;>constructor<;>simp[pqK,Q0Y,Q1V,pqA,Q0F,Q0S,Q1H,Q1d,Q1h,Q0M,Q0y,Q1M,Q1L,Q0P,Q0O,Q1o,Q1n,Q1m,Q1l,Q1k,Q0n,Q0L,Q0v,Q1S,Q2b,Q1U,Q2a,Q1Y,Q1X,Q1T,Q1W,Q1Z,Q0H,wrap64,Rn.fresh,Rn.did,Rn.Q0h,Rn.setB,Rn.note,Rn.goto,Rn.Q0d,Rn.fin,Rn.wake,Rn.keep,Q0e,Q0o,Q0c,Q1f,Q0w,q0,e0,e1,ow,lN,sN,sB,w2,k2,b2,k0,b0,l0,l1,l3,a0,a1,s3]<;>omega
  case z2=>constructor<;>simp[pqK,Q0Y,Q1V,pqA,Q0F,Q0S,Q1H,Q1d,Q1h,Q0M,Q0y,Q1M,Q1L,Q0P,Q0O,Q1o,Q1n,Q1m,Q1l,Q1k,Q0n,Q0L,Q0v,Q1S,Q2b,Q1U,Q2a,Q1Y,Q1X,Q1T,Q1W,Q1Z,Q0H,wrap64,Rn.fresh,Rn.did,Rn.Q0h,Rn.setB,Rn.note,Rn.goto,Rn.Q0d,Rn.fin,Rn.wake,Rn.keep,Q0e,Q0o,Q0c,Q1f,Q0w,e0,e1,ow,lN,sN,sB,w2,k2,b2,k0,b0,l0,l1,l3,a0,a1,s3]<;>omega
  case z3 a=>by_cases q0:256<Q1s a (Q0j n L 1)<;>constructor<;>simp[pqK,Q0Y,Q1V,pqA,Q0F,Q0S,Q1H,Q1d,Q1h,Q0M,Q0y,Q1M,Q1L,Q0P,Q0O,Q1o,Q1n,Q1m,Q1l,Q1k,Q0n,Q0L,Q0v,Q1S,Q2b,Q1U,Q2a,Q1Y,Q1X,Q1T,Q1W,Q1Z,Q0H,wrap64,Rn.fresh,Rn.did,Rn.Q0h,Rn.setB,Rn.note,Rn.goto,Rn.Q0d,Rn.fin,Rn.wake,Rn.keep,Q0e,Q0o,Q0c,Q1f,Q0w,q0,e0,e1,ow,lN,sN,sB,w2,k2,b2,k0,b0,l0,l1,l3,a0,a1,s3]<;>omega
  case z4 a b=>constructor<;>simp[pqK,Q0Y,Q1V,pqA,Q0F,Q0S,Q1H,Q1d,Q1h,Q0M,Q0y,Q1M,Q1L,Q0P,Q0O,Q1o,Q1n,Q1m,Q1l,Q1k,Q0n,Q0L,Q0v,Q1S,Q2b,Q1U,Q2a,Q1Y,Q1X,Q1T,Q1W,Q1Z,Q0H,wrap64,Rn.fresh,Rn.did,Rn.Q0h,Rn.setB,Rn.note,Rn.goto,Rn.Q0d,Rn.fin,Rn.wake,Rn.keep,Q0e,Q0o,Q0c,Q1f,Q0w,e0,e1,ow,lN,sN,sB,w2,k2,b2,k0,b0,l0,l1,l3,a0,a1,s3]<;>omega
  case z5 a b=>constructor<;>simp[pqK,Q0Y,Q1V,pqA,Q0F,Q0S,Q1H,Q1d,Q1h,Q0M,Q0y,Q1M,Q1L,Q0P,Q0O,Q1o,Q1n,Q1m,Q1l,Q1k,Q0n,Q0L,Q0v,Q1S,Q2b,Q1U,Q2a,Q1Y,Q1X,Q1T,Q1W,Q1Z,Q0H,wrap64,Rn.fresh,Rn.did,Rn.Q0h,Rn.setB,Rn.note,Rn.goto,Rn.Q0d,Rn.fin,Rn.wake,Rn.keep,Q0e,Q0o,Q0c,Q1f,Q0w,e0,e1,ow,lN,sN,sB,w2,k2,b2,k0,b0,l0,l1,l3,a0,a1,s3]<;>omega
  case z7 a b=>constructor<;>simp[pqK,Q0Y,Q1V,pqA,Q0F,Q0S,Q1H,Q1d,Q1h,Q0M,Q0y,Q1M,Q1L,Q0P,Q0O,Q1o,Q1n,Q1m,Q1l,Q1k,Q0n,Q0L,Q0v,Q1S,Q2b,Q1U,Q2a,Q1Y,Q1X,Q1T,Q1W,Q1Z,Q0H,wrap64,Rn.fresh,Rn.did,Rn.Q0h,Rn.setB,Rn.note,Rn.goto,Rn.Q0d,Rn.fin,Rn.wake,Rn.keep,Q0e,Q0o,Q0c,Q1f,Q0w,e0,e1,ow,lN,sN,sB,w2,k2,b2,k0,b0,l0,l1,l3,a0,a1,s3]<;>omega
  case z8 a b=>by_cases q0:Q0j n L (8+t)=0<;>constructor<;>simp[pqK,Q0Y,Q1V,pqA,Q0F,Q0S,Q1H,Q1d,Q1h,Q0M,Q0y,Q1M,Q1L,Q0P,Q0O,Q1o,Q1n,Q1m,Q1l,Q1k,Q0n,Q0L,Q0v,Q1S,Q2b,Q1U,Q2a,Q1Y,Q1X,Q1T,Q1W,Q1Z,Q0H,wrap64,Rn.fresh,Rn.did,Rn.Q0h,Rn.setB,Rn.note,Rn.goto,Rn.Q0d,Rn.fin,Rn.wake,Rn.keep,Q0e,Q0o,Q0c,Q1f,Q0w,q0,e0,e1,ow,lN,sN,sB,w2,k2,b2,k0,b0,l0,l1,l3,a0,a1,s3]<;>omega
  case z9 a b=>by_cases q0:Q0j n L 2=(t:Int)+1<;>constructor<;>simp[pqK,Q0Y,Q1V,pqA,Q0F,Q0S,Q1H,Q1d,Q1h,Q0M,Q0y,Q1M,Q1L,Q0P,Q0O,Q1o,Q1n,Q1m,Q1l,Q1k,Q0n,Q0L,Q0v,Q1S,Q2b,Q1U,Q2a,Q1Y,Q1X,Q1T,Q1W,Q1Z,Q0H,wrap64,Rn.fresh,Rn.did,Rn.Q0h,Rn.setB,Rn.note,Rn.goto,Rn.Q0d,Rn.fin,Rn.wake,Rn.keep,Q0e,Q0o,Q0c,Q1f,Q0w,q0,e0,e1,ow,lN,sN,sB,w2,k2,b2,k0,b0,l0,l1,l3,a0,a1,s3]<;>omega
  case z11 a b=>obtain⟨k,rfl⟩: ∃k:Nat,a=(k:Int)+1:=⟨(a-1).toNat,(by have:=hok a (by simp[Q3Q]);omega)⟩;have ho:=hok (k+1) (by simp[Q3Q]);have eA:=Q1p (n:=n) (row:=1) (i:=k) h1 h2 (by omega) (by omega);have eT:=Q3Y (n:=n) (L:=L) (c:=8+(n:Int)+(k:Int)) (x:=0) hl (by omega) (by omega);have eZ:(8+(n:Int)+(k:Int)).toNat=8+n+k:=(by omega);have eK:(k:Int)+1-1=k:=(by omega);simp only[Int.zero_mul,Int.add_zero,Int.one_mul]at eA;rw[eZ]at eT;constructor<;>simp[pqK,Q0Y,Q1V,pqA,Q0F,Q0S,Q1H,Q1d,Q1h,Q0M,Q0y,Q1M,Q1L,Q0P,Q0O,Q1o,Q1n,Q1m,Q1l,Q1k,Q0n,Q0L,Q0v,Q1S,Q2b,Q1U,Q2a,Q1Y,Q1X,Q1T,Q1W,Q1Z,Q0H,wrap64,Rn.fresh,Rn.did,Rn.Q0h,Rn.setB,Rn.note,Rn.goto,Rn.Q0d,Rn.fin,Rn.wake,Rn.keep,Q0e,Q0o,Q0c,Q1f,Q0w,eA,eT,eK,e0,e1,ow,lN,sN,sB,w2,k2,b2,k0,b0,l0,l1,l3,a0,a1,s3]<;>omega
 ·obtain⟨sn,sm,stk,f,acc,notes,L⟩:=s
  simp only at hn hmd htk hf hl
  subst hn hmd htk hf
  have e0:=Q1p (n:=n) (row:=0) (i:=t) h1 h2 (by omega) (by omega)
  have e1:=Q1p (n:=n) (row:=1) (i:=t) h1 h2 (by omega) (by omega)
  simp only[Int.zero_mul,Int.add_zero,Int.one_mul]at e0 e1
  cases p<;>simp[pqK,Q2P]at hw
  case r1 a=>
   obtain⟨rfl,rfl⟩:=hw
   have hd:=fun h=>Q1u (L:=L) (n:=n) (mode:=sm) (task:=t) (st:=st) (c:=(0:Int)) (p:=fun v=>v%4 !=a%4) h
   have hs:=fun h=>Q2i (L:=L) (n:=n) (mode:=sm) (task:=t) (st:=st) (c:=(0:Int)) (p:=fun v=>v%4 !=a%4) h0 h3 h
   skip
   simp[pqK,Q0Y,Q1V,pqA,Q0F,Q0S,Q1H,Q1d,Q1h,Q0M,Q0y,Q1M,Q1L,Q0P,Q0O,Q1o,Q1n,Q1m,Q1l,Q1k,Q0n,Q0L,Q0v,Q1S,Q2b,Q1U,Q2a,Q1Y,Q1X,Q1T,Q1W,Q1Z,Q0H,wrap64,Rn.fresh,Rn.did,Rn.Q0h,Rn.setB,Rn.note,Rn.goto,Rn.Q0d,Rn.fin,Rn.wake,Rn.keep,Q0e,Q0o,Q0c,Q1f,Q0w,Rn.waited,Q3M,Q3b,e0,e1]
   generalize Q0t L n sm t st (0:Int) (fun v=>v%4 !=a%4)=R at hd hs⊢
   obtain⟨rs,ra,rsn,rd,rw_⟩:=R
   cases rsn<;>cases rd<;>simp[Rn.note,Rn.fin,Rn.goto,Rn.Q0h,Q0o,Q0c]at hd hs⊢ <;>simp[hd,Wk.zero]
  case w4 a=>
   obtain⟨rfl,rfl⟩:=hw
   have hd:=fun h=>Q1u (L:=L) (n:=n) (mode:=sm) (task:=t) (st:=st) (c:=(8+(n:Int)+t)) (p:=fun v=>v==0) h
   have hs:=fun h=>Q2i (L:=L) (n:=n) (mode:=sm) (task:=t) (st:=st) (c:=(8+(n:Int)+t)) (p:=fun v=>v==0) h0 h3 h
   have hc:((8+n+t:Nat):Int)=8+(n:Int)+t:=by omega
   simp[pqK,Q0Y,Q1V,pqA,Q0F,Q0S,Q1H,Q1d,Q1h,Q0M,Q0y,Q1M,Q1L,Q0P,Q0O,Q1o,Q1n,Q1m,Q1l,Q1k,Q0n,Q0L,Q0v,Q1S,Q2b,Q1U,Q2a,Q1Y,Q1X,Q1T,Q1W,Q1Z,Q0H,wrap64,Rn.fresh,Rn.did,Rn.Q0h,Rn.setB,Rn.note,Rn.goto,Rn.Q0d,Rn.fin,Rn.wake,Rn.keep,Q0e,Q0o,Q0c,Q1f,Q0w,Rn.waited,Q3M,Q3b,e0,e1,hc]
   generalize Q0t L n sm t st (8+(n:Int)+t) (fun v=>v==0)=R at hd hs⊢
   obtain⟨rs,ra,rsn,rd,rw_⟩:=R
   cases rsn<;>cases rd<;>simp[Rn.note,Rn.fin,Rn.goto,Rn.Q0h,Q0o,Q0c]at hd hs⊢ <;>simp[hd,Wk.zero]
  case w7 a b=>
   obtain⟨rfl,rfl⟩:=hw
   have hd:=fun h=>Q1u (L:=L) (n:=n) (mode:=sm) (task:=t) (st:=st) (c:=(1:Int)) (p:=fun v=>v==a) h
   have hs:=fun h=>Q2i (L:=L) (n:=n) (mode:=sm) (task:=t) (st:=st) (c:=(1:Int)) (p:=fun v=>v==a) h0 h3 h
   skip
   simp[pqK,Q0Y,Q1V,pqA,Q0F,Q0S,Q1H,Q1d,Q1h,Q0M,Q0y,Q1M,Q1L,Q0P,Q0O,Q1o,Q1n,Q1m,Q1l,Q1k,Q0n,Q0L,Q0v,Q1S,Q2b,Q1U,Q2a,Q1Y,Q1X,Q1T,Q1W,Q1Z,Q0H,wrap64,Rn.fresh,Rn.did,Rn.Q0h,Rn.setB,Rn.note,Rn.goto,Rn.Q0d,Rn.fin,Rn.wake,Rn.keep,Q0e,Q0o,Q0c,Q1f,Q0w,Rn.waited,Q3M,Q3b,e0,e1]
   generalize Q0t L n sm t st (1:Int) (fun v=>v==a)=R at hd hs⊢
   obtain⟨rs,ra,rsn,rd,rw_⟩:=R
   cases rsn<;>cases rd<;>simp[Rn.note,Rn.fin,Rn.goto,Rn.Q0h,Q0o,Q0c]at hd hs⊢ <;>simp[hd,Wk.zero]
  case y6 a b=>
   obtain⟨rfl,rfl⟩:=hw
   have hd:=fun h=>Q1u (L:=L) (n:=n) (mode:=sm) (task:=t) (st:=st) (c:=(1:Int)) (p:=fun v=>v==a) h
   have hs:=fun h=>Q2i (L:=L) (n:=n) (mode:=sm) (task:=t) (st:=st) (c:=(1:Int)) (p:=fun v=>v==a) h0 h3 h
   skip
   simp[pqK,Q0Y,Q1V,pqA,Q0F,Q0S,Q1H,Q1d,Q1h,Q0M,Q0y,Q1M,Q1L,Q0P,Q0O,Q1o,Q1n,Q1m,Q1l,Q1k,Q0n,Q0L,Q0v,Q1S,Q2b,Q1U,Q2a,Q1Y,Q1X,Q1T,Q1W,Q1Z,Q0H,wrap64,Rn.fresh,Rn.did,Rn.Q0h,Rn.setB,Rn.note,Rn.goto,Rn.Q0d,Rn.fin,Rn.wake,Rn.keep,Q0e,Q0o,Q0c,Q1f,Q0w,Rn.waited,Q3M,Q3b,e0,e1]
   generalize Q0t L n sm t st (1:Int) (fun v=>v==a)=R at hd hs⊢
   obtain⟨rs,ra,rsn,rd,rw_⟩:=R
   cases rsn<;>cases rd<;>simp[Rn.note,Rn.fin,Rn.goto,Rn.Q0h,Q0o,Q0c]at hd hs⊢ <;>simp[hd,Wk.zero]
  case z6 a b=>
   obtain⟨rfl,rfl⟩:=hw
   have hd:=fun h=>Q1u (L:=L) (n:=n) (mode:=sm) (task:=t) (st:=st) (c:=(1:Int)) (p:=fun v=>v==(a-256)%4294967296) h
   have hs:=fun h=>Q2i (L:=L) (n:=n) (mode:=sm) (task:=t) (st:=st) (c:=(1:Int)) (p:=fun v=>v==(a-256)%4294967296) h0 h3 h
   skip
   simp[pqK,Q0Y,Q1V,pqA,Q0F,Q0S,Q1H,Q1d,Q1h,Q0M,Q0y,Q1M,Q1L,Q0P,Q0O,Q1o,Q1n,Q1m,Q1l,Q1k,Q0n,Q0L,Q0v,Q1S,Q2b,Q1U,Q2a,Q1Y,Q1X,Q1T,Q1W,Q1Z,Q0H,wrap64,Rn.fresh,Rn.did,Rn.Q0h,Rn.setB,Rn.note,Rn.goto,Rn.Q0d,Rn.fin,Rn.wake,Rn.keep,Q0e,Q0o,Q0c,Q1f,Q0w,Rn.waited,Q3M,Q3b,e0,e1]
   generalize Q0t L n sm t st (1:Int) (fun v=>v==(a-256)%4294967296)=R at hd hs⊢
   obtain⟨rs,ra,rsn,rd,rw_⟩:=R
   cases rsn<;>cases rd<;>simp[Rn.note,Rn.fin,Rn.goto,Rn.Q0h,Q0o,Q0c]at hd hs⊢ <;>simp[hd,Wk.zero]
  case v5 a b=>
   obtain⟨rfl,rfl⟩:=hw
   have hd:=fun h=>Q1u (L:=L) (n:=n) (mode:=sm) (task:=t) (st:=st) (c:=(8+(t:Int))) (p:=fun v=>v !=0) h
   have hs:=fun h=>Q2i (L:=L) (n:=n) (mode:=sm) (task:=t) (st:=st) (c:=(8+(t:Int))) (p:=fun v=>v !=0) h0 h3 h
   have hc:((8+t:Nat):Int)=8+(t:Int):=by omega
   simp[pqK,Q0Y,Q1V,pqA,Q0F,Q0S,Q1H,Q1d,Q1h,Q0M,Q0y,Q1M,Q1L,Q0P,Q0O,Q1o,Q1n,Q1m,Q1l,Q1k,Q0n,Q0L,Q0v,Q1S,Q2b,Q1U,Q2a,Q1Y,Q1X,Q1T,Q1W,Q1Z,Q0H,wrap64,Rn.fresh,Rn.did,Rn.Q0h,Rn.setB,Rn.note,Rn.goto,Rn.Q0d,Rn.fin,Rn.wake,Rn.keep,Q0e,Q0o,Q0c,Q1f,Q0w,Rn.waited,Q3M,Q3b,e0,e1,hc]
   generalize Q0t L n sm t st (8+(t:Int)) (fun v=>v !=0)=R at hd hs⊢
   obtain⟨rs,ra,rsn,rd,rw_⟩:=R
   cases rsn<;>cases rd<;>simp[Rn.note,Rn.fin,Rn.goto,Rn.Q0h,Q0o,Q0c]at hd hs⊢ <;>simp[hd,Wk.zero]
  case d5 a b=>
   obtain⟨rfl,rfl⟩:=hw
   have hd:=fun h=>Q1u (L:=L) (n:=n) (mode:=sm) (task:=t) (st:=st) (c:=(8+(t:Int))) (p:=fun v=>v !=0) h
   have hs:=fun h=>Q2i (L:=L) (n:=n) (mode:=sm) (task:=t) (st:=st) (c:=(8+(t:Int))) (p:=fun v=>v !=0) h0 h3 h
   have hc:((8+t:Nat):Int)=8+(t:Int):=by omega
   simp[pqK,Q0Y,Q1V,pqA,Q0F,Q0S,Q1H,Q1d,Q1h,Q0M,Q0y,Q1M,Q1L,Q0P,Q0O,Q1o,Q1n,Q1m,Q1l,Q1k,Q0n,Q0L,Q0v,Q1S,Q2b,Q1U,Q2a,Q1Y,Q1X,Q1T,Q1W,Q1Z,Q0H,wrap64,Rn.fresh,Rn.did,Rn.Q0h,Rn.setB,Rn.note,Rn.goto,Rn.Q0d,Rn.fin,Rn.wake,Rn.keep,Q0e,Q0o,Q0c,Q1f,Q0w,Rn.waited,Q3M,Q3b,e0,e1,hc]
   generalize Q0t L n sm t st (8+(t:Int)) (fun v=>v !=0)=R at hd hs⊢
   obtain⟨rs,ra,rsn,rd,rw_⟩:=R
   cases rsn<;>cases rd<;>simp[Rn.note,Rn.fin,Rn.goto,Rn.Q0h,Q0o,Q0c]at hd hs⊢ <;>simp[hd,Wk.zero]
  case y10 a b=>
   obtain⟨rfl,rfl⟩:=hw
   have hd:=fun h=>Q1u (L:=L) (n:=n) (mode:=sm) (task:=t) (st:=st) (c:=(8+(t:Int))) (p:=fun v=>v !=0) h
   have hs:=fun h=>Q2i (L:=L) (n:=n) (mode:=sm) (task:=t) (st:=st) (c:=(8+(t:Int))) (p:=fun v=>v !=0) h0 h3 h
   have hc:((8+t:Nat):Int)=8+(t:Int):=by omega
   simp[pqK,Q0Y,Q1V,pqA,Q0F,Q0S,Q1H,Q1d,Q1h,Q0M,Q0y,Q1M,Q1L,Q0P,Q0O,Q1o,Q1n,Q1m,Q1l,Q1k,Q0n,Q0L,Q0v,Q1S,Q2b,Q1U,Q2a,Q1Y,Q1X,Q1T,Q1W,Q1Z,Q0H,wrap64,Rn.fresh,Rn.did,Rn.Q0h,Rn.setB,Rn.note,Rn.goto,Rn.Q0d,Rn.fin,Rn.wake,Rn.keep,Q0e,Q0o,Q0c,Q1f,Q0w,Rn.waited,Q3M,Q3b,e0,e1,hc]
   generalize Q0t L n sm t st (8+(t:Int)) (fun v=>v !=0)=R at hd hs⊢
   obtain⟨rs,ra,rsn,rd,rw_⟩:=R
   cases rsn<;>cases rd<;>simp[Rn.note,Rn.fin,Rn.goto,Rn.Q0h,Q0o,Q0c]at hd hs⊢ <;>simp[hd,Wk.zero]
  case z10 a b=>
   obtain⟨rfl,rfl⟩:=hw
   have hd:=fun h=>Q1u (L:=L) (n:=n) (mode:=sm) (task:=t) (st:=st) (c:=(8+(t:Int))) (p:=fun v=>v !=0) h
   have hs:=fun h=>Q2i (L:=L) (n:=n) (mode:=sm) (task:=t) (st:=st) (c:=(8+(t:Int))) (p:=fun v=>v !=0) h0 h3 h
   have hc:((8+t:Nat):Int)=8+(t:Int):=by omega
   simp[pqK,Q0Y,Q1V,pqA,Q0F,Q0S,Q1H,Q1d,Q1h,Q0M,Q0y,Q1M,Q1L,Q0P,Q0O,Q1o,Q1n,Q1m,Q1l,Q1k,Q0n,Q0L,Q0v,Q1S,Q2b,Q1U,Q2a,Q1Y,Q1X,Q1T,Q1W,Q1Z,Q0H,wrap64,Rn.fresh,Rn.did,Rn.Q0h,Rn.setB,Rn.note,Rn.goto,Rn.Q0d,Rn.fin,Rn.wake,Rn.keep,Q0e,Q0o,Q0c,Q1f,Q0w,Rn.waited,Q3M,Q3b,e0,e1,hc]
   generalize Q0t L n sm t st (8+(t:Int)) (fun v=>v !=0)=R at hd hs⊢
   obtain⟨rs,ra,rsn,rd,rw_⟩:=R
   cases rsn<;>cases rd<;>simp[Rn.note,Rn.fin,Rn.goto,Rn.Q0h,Q0o,Q0c]at hd hs⊢ <;>simp[hd,Wk.zero]
 ·obtain⟨sn,sm,stk,f,acc,notes,L⟩:=s
  simp only at hn hmd htk hf hl
  subst hn hmd htk hf
  have e0:=Q1p (n:=n) (row:=0) (i:=t) h1 h2 (by omega) (by omega)
  have e1:=Q1p (n:=n) (row:=1) (i:=t) h1 h2 (by omega) (by omega)
  simp only[Int.zero_mul,Int.add_zero,Int.one_mul]at e0 e1
  cases p<;>simp[pqK,Q2P]at hw
  case r1 a=>
   obtain⟨rfl,rfl⟩:=hw
   have hd:=Q1b (L:=L) (n:=n) (task:=t) (c:=(0:Int)) (p:=fun v=>v%4 !=a%4) hm2
   have hs:=Q1i (L:=L) (n:=n) (task:=t) (c:=(0:Int)) (p:=fun v=>v%4 !=a%4) hm2
   skip
   simp[pqK,Q0Y,Q1V,pqA,Q0F,Q0S,Q1H,Q1d,Q1h,Q0M,Q0y,Q1M,Q1L,Q0P,Q0O,Q1o,Q1n,Q1m,Q1l,Q1k,Q0n,Q0L,Q0v,Q1S,Q2b,Q1U,Q2a,Q1Y,Q1X,Q1T,Q1W,Q1Z,Q0H,wrap64,Rn.fresh,Rn.did,Rn.Q0h,Rn.setB,Rn.note,Rn.goto,Rn.Q0d,Rn.fin,Rn.wake,Rn.keep,Q0e,Q0o,Q0c,Q1f,Q0w,Rn.waited,Q3M,Q3b,e0,e1]
   generalize Q0t L n sm t 4 (0:Int) (fun v=>v%4 !=a%4)=R at hd hs⊢
   obtain⟨rs,ra,rsn,rd,rw_⟩:=R
   obtain⟨rfl,rfl⟩:=hd
   obtain rfl:=hs
   simp[Rn.note,Rn.fin,Rn.goto,Rn.Q0h,Q0o,Q0c,Wk.zero]
  case w4 a=>
   obtain⟨rfl,rfl⟩:=hw
   have hd:=Q1b (L:=L) (n:=n) (task:=t) (c:=(8+(n:Int)+t)) (p:=fun v=>v==0) hm2
   have hs:=Q1i (L:=L) (n:=n) (task:=t) (c:=(8+(n:Int)+t)) (p:=fun v=>v==0) hm2
   have hc:((8+n+t:Nat):Int)=8+(n:Int)+t:=by omega
   simp[pqK,Q0Y,Q1V,pqA,Q0F,Q0S,Q1H,Q1d,Q1h,Q0M,Q0y,Q1M,Q1L,Q0P,Q0O,Q1o,Q1n,Q1m,Q1l,Q1k,Q0n,Q0L,Q0v,Q1S,Q2b,Q1U,Q2a,Q1Y,Q1X,Q1T,Q1W,Q1Z,Q0H,wrap64,Rn.fresh,Rn.did,Rn.Q0h,Rn.setB,Rn.note,Rn.goto,Rn.Q0d,Rn.fin,Rn.wake,Rn.keep,Q0e,Q0o,Q0c,Q1f,Q0w,Rn.waited,Q3M,Q3b,e0,e1,hc]
   generalize Q0t L n sm t 4 (8+(n:Int)+t) (fun v=>v==0)=R at hd hs⊢
   obtain⟨rs,ra,rsn,rd,rw_⟩:=R
   obtain⟨rfl,rfl⟩:=hd
   obtain rfl:=hs
   simp[Rn.note,Rn.fin,Rn.goto,Rn.Q0h,Q0o,Q0c,Wk.zero]
  case w7 a b=>
   obtain⟨rfl,rfl⟩:=hw
   have hd:=Q1b (L:=L) (n:=n) (task:=t) (c:=(1:Int)) (p:=fun v=>v==a) hm2
   have hs:=Q1i (L:=L) (n:=n) (task:=t) (c:=(1:Int)) (p:=fun v=>v==a) hm2
   skip
   simp[pqK,Q0Y,Q1V,pqA,Q0F,Q0S,Q1H,Q1d,Q1h,Q0M,Q0y,Q1M,Q1L,Q0P,Q0O,Q1o,Q1n,Q1m,Q1l,Q1k,Q0n,Q0L,Q0v,Q1S,Q2b,Q1U,Q2a,Q1Y,Q1X,Q1T,Q1W,Q1Z,Q0H,wrap64,Rn.fresh,Rn.did,Rn.Q0h,Rn.setB,Rn.note,Rn.goto,Rn.Q0d,Rn.fin,Rn.wake,Rn.keep,Q0e,Q0o,Q0c,Q1f,Q0w,Rn.waited,Q3M,Q3b,e0,e1]
   generalize Q0t L n sm t 4 (1:Int) (fun v=>v==a)=R at hd hs⊢
   obtain⟨rs,ra,rsn,rd,rw_⟩:=R
   obtain⟨rfl,rfl⟩:=hd
   obtain rfl:=hs
   simp[Rn.note,Rn.fin,Rn.goto,Rn.Q0h,Q0o,Q0c,Wk.zero]
  case y6 a b=>
   obtain⟨rfl,rfl⟩:=hw
   have hd:=Q1b (L:=L) (n:=n) (task:=t) (c:=(1:Int)) (p:=fun v=>v==a) hm2
   have hs:=Q1i (L:=L) (n:=n) (task:=t) (c:=(1:Int)) (p:=fun v=>v==a) hm2
   skip
   simp[pqK,Q0Y,Q1V,pqA,Q0F,Q0S,Q1H,Q1d,Q1h,Q0M,Q0y,Q1M,Q1L,Q0P,Q0O,Q1o,Q1n,Q1m,Q1l,Q1k,Q0n,Q0L,Q0v,Q1S,Q2b,Q1U,Q2a,Q1Y,Q1X,Q1T,Q1W,Q1Z,Q0H,wrap64,Rn.fresh,Rn.did,Rn.Q0h,Rn.setB,Rn.note,Rn.goto,Rn.Q0d,Rn.fin,Rn.wake,Rn.keep,Q0e,Q0o,Q0c,Q1f,Q0w,Rn.waited,Q3M,Q3b,e0,e1]
   generalize Q0t L n sm t 4 (1:Int) (fun v=>v==a)=R at hd hs⊢
   obtain⟨rs,ra,rsn,rd,rw_⟩:=R
   obtain⟨rfl,rfl⟩:=hd
   obtain rfl:=hs
   simp[Rn.note,Rn.fin,Rn.goto,Rn.Q0h,Q0o,Q0c,Wk.zero]
  case z6 a b=>
   obtain⟨rfl,rfl⟩:=hw
   have hd:=Q1b (L:=L) (n:=n) (task:=t) (c:=(1:Int)) (p:=fun v=>v==(a-256)%4294967296) hm2
   have hs:=Q1i (L:=L) (n:=n) (task:=t) (c:=(1:Int)) (p:=fun v=>v==(a-256)%4294967296) hm2
   skip
   simp[pqK,Q0Y,Q1V,pqA,Q0F,Q0S,Q1H,Q1d,Q1h,Q0M,Q0y,Q1M,Q1L,Q0P,Q0O,Q1o,Q1n,Q1m,Q1l,Q1k,Q0n,Q0L,Q0v,Q1S,Q2b,Q1U,Q2a,Q1Y,Q1X,Q1T,Q1W,Q1Z,Q0H,wrap64,Rn.fresh,Rn.did,Rn.Q0h,Rn.setB,Rn.note,Rn.goto,Rn.Q0d,Rn.fin,Rn.wake,Rn.keep,Q0e,Q0o,Q0c,Q1f,Q0w,Rn.waited,Q3M,Q3b,e0,e1]
   generalize Q0t L n sm t 4 (1:Int) (fun v=>v==(a-256)%4294967296)=R at hd hs⊢
   obtain⟨rs,ra,rsn,rd,rw_⟩:=R
   obtain⟨rfl,rfl⟩:=hd
   obtain rfl:=hs
   simp[Rn.note,Rn.fin,Rn.goto,Rn.Q0h,Q0o,Q0c,Wk.zero]
  case v5 a b=>
   obtain⟨rfl,rfl⟩:=hw
   have hd:=Q1b (L:=L) (n:=n) (task:=t) (c:=(8+(t:Int))) (p:=fun v=>v !=0) hm2
   have hs:=Q1i (L:=L) (n:=n) (task:=t) (c:=(8+(t:Int))) (p:=fun v=>v !=0) hm2
   have hc:((8+t:Nat):Int)=8+(t:Int):=by omega
   simp[pqK,Q0Y,Q1V,pqA,Q0F,Q0S,Q1H,Q1d,Q1h,Q0M,Q0y,Q1M,Q1L,Q0P,Q0O,Q1o,Q1n,Q1m,Q1l,Q1k,Q0n,Q0L,Q0v,Q1S,Q2b,Q1U,Q2a,Q1Y,Q1X,Q1T,Q1W,Q1Z,Q0H,wrap64,Rn.fresh,Rn.did,Rn.Q0h,Rn.setB,Rn.note,Rn.goto,Rn.Q0d,Rn.fin,Rn.wake,Rn.keep,Q0e,Q0o,Q0c,Q1f,Q0w,Rn.waited,Q3M,Q3b,e0,e1,hc]
   generalize Q0t L n sm t 4 (8+(t:Int)) (fun v=>v !=0)=R at hd hs⊢
   obtain⟨rs,ra,rsn,rd,rw_⟩:=R
   obtain⟨rfl,rfl⟩:=hd
   obtain rfl:=hs
   simp[Rn.note,Rn.fin,Rn.goto,Rn.Q0h,Q0o,Q0c,Wk.zero]
  case d5 a b=>
   obtain⟨rfl,rfl⟩:=hw
   have hd:=Q1b (L:=L) (n:=n) (task:=t) (c:=(8+(t:Int))) (p:=fun v=>v !=0) hm2
   have hs:=Q1i (L:=L) (n:=n) (task:=t) (c:=(8+(t:Int))) (p:=fun v=>v !=0) hm2
   have hc:((8+t:Nat):Int)=8+(t:Int):=by omega
   simp[pqK,Q0Y,Q1V,pqA,Q0F,Q0S,Q1H,Q1d,Q1h,Q0M,Q0y,Q1M,Q1L,Q0P,Q0O,Q1o,Q1n,Q1m,Q1l,Q1k,Q0n,Q0L,Q0v,Q1S,Q2b,Q1U,Q2a,Q1Y,Q1X,Q1T,Q1W,Q1Z,Q0H,wrap64,Rn.fresh,Rn.did,Rn.Q0h,Rn.setB,Rn.note,Rn.goto,Rn.Q0d,Rn.fin,Rn.wake,Rn.keep,Q0e,Q0o,Q0c,Q1f,Q0w,Rn.waited,Q3M,Q3b,e0,e1,hc]
   generalize Q0t L n sm t 4 (8+(t:Int)) (fun v=>v !=0)=R at hd hs⊢
   obtain⟨rs,ra,rsn,rd,rw_⟩:=R
   obtain⟨rfl,rfl⟩:=hd
   obtain rfl:=hs
   simp[Rn.note,Rn.fin,Rn.goto,Rn.Q0h,Q0o,Q0c,Wk.zero]
  case y10 a b=>
   obtain⟨rfl,rfl⟩:=hw
   have hd:=Q1b (L:=L) (n:=n) (task:=t) (c:=(8+(t:Int))) (p:=fun v=>v !=0) hm2
   have hs:=Q1i (L:=L) (n:=n) (task:=t) (c:=(8+(t:Int))) (p:=fun v=>v !=0) hm2
   have hc:((8+t:Nat):Int)=8+(t:Int):=by omega
   simp[pqK,Q0Y,Q1V,pqA,Q0F,Q0S,Q1H,Q1d,Q1h,Q0M,Q0y,Q1M,Q1L,Q0P,Q0O,Q1o,Q1n,Q1m,Q1l,Q1k,Q0n,Q0L,Q0v,Q1S,Q2b,Q1U,Q2a,Q1Y,Q1X,Q1T,Q1W,Q1Z,Q0H,wrap64,Rn.fresh,Rn.did,Rn.Q0h,Rn.setB,Rn.note,Rn.goto,Rn.Q0d,Rn.fin,Rn.wake,Rn.keep,Q0e,Q0o,Q0c,Q1f,Q0w,Rn.waited,Q3M,Q3b,e0,e1,hc]
   generalize Q0t L n sm t 4 (8+(t:Int)) (fun v=>v !=0)=R at hd hs⊢
   obtain⟨rs,ra,rsn,rd,rw_⟩:=R
   obtain⟨rfl,rfl⟩:=hd
   obtain rfl:=hs
   simp[Rn.note,Rn.fin,Rn.goto,Rn.Q0h,Q0o,Q0c,Wk.zero]
  case z10 a b=>
   obtain⟨rfl,rfl⟩:=hw
   have hd:=Q1b (L:=L) (n:=n) (task:=t) (c:=(8+(t:Int))) (p:=fun v=>v !=0) hm2
   have hs:=Q1i (L:=L) (n:=n) (task:=t) (c:=(8+(t:Int))) (p:=fun v=>v !=0) hm2
   have hc:((8+t:Nat):Int)=8+(t:Int):=by omega
   simp[pqK,Q0Y,Q1V,pqA,Q0F,Q0S,Q1H,Q1d,Q1h,Q0M,Q0y,Q1M,Q1L,Q0P,Q0O,Q1o,Q1n,Q1m,Q1l,Q1k,Q0n,Q0L,Q0v,Q1S,Q2b,Q1U,Q2a,Q1Y,Q1X,Q1T,Q1W,Q1Z,Q0H,wrap64,Rn.fresh,Rn.did,Rn.Q0h,Rn.setB,Rn.note,Rn.goto,Rn.Q0d,Rn.fin,Rn.wake,Rn.keep,Q0e,Q0o,Q0c,Q1f,Q0w,Rn.waited,Q3M,Q3b,e0,e1,hc]
   generalize Q0t L n sm t 4 (8+(t:Int)) (fun v=>v !=0)=R at hd hs⊢
   obtain⟨rs,ra,rsn,rd,rw_⟩:=R
   obtain⟨rfl,rfl⟩:=hd
   obtain rfl:=hs
   simp[Rn.note,Rn.fin,Rn.goto,Rn.Q0h,Q0o,Q0c,Wk.zero]
theorem X7H{P Q:Type}(f:Q→Int)(g:P→Q): ∀l,ws f (l.map g)=ws (fun x=>f (g x)) l
 |[]=>rfl
 |x::l=>by simp only[List.map_cons,ws,X7H f g l]
theorem Q3H{P Q:Type}{g:P→Q}{l:List P}{i:Nat}{d:P}{e:Q}(h:i<l.length):(l.map g).getD i e=g (l.getD i d):=by
 simp[List.getD,h]
theorem Q1E{m:Nat→Int}{c:Nat}{v:Int}:written m (some (c,v)) c=v:=by simp[written,upd]
theorem Q0p{m:Nat→Int}{c j:Nat}{v:Int}(h:j≠c):written m (some (c,v)) j=m j:=by simp[written,upd,h]
theorem Y0A{n tc c:Nat}{m:Nat→Int}{v:Int}(h1:c<8)(h2:c≠tc)(ht:tc<8):Q1N n tc m (written m (some (c,v))):=
 ⟨Q0p (Ne.symm h2),fun j _=>⟨Q0p (by omega),Q0p (by omega)⟩⟩
theorem QI.Q8D{P:Type}{n tc:Nat}{mk:P→Mk}{d:P}{ps:List P}{m:Nat→Int}(H:QI n tc mk d ps m)(hz:m tc=0): ∀j,j<n→(mk (ps.getD j d)).turn=false:=by
 obtain⟨Q,H⟩:=H
 exact H.Q8D hz
theorem QI.first{P:Type}{n tc:Nat}{mk:P→Mk}{d:P}{ps:List P}{m:Nat→Int}{i:Nat}(H:QI n tc mk d ps m)(hi:i<n)(h:mk (ps.getD i d)= .e4)(hb:m (8+n+i)=0): ∀j,j<n→(mk (ps.getD j d)).turn=false:=by
 obtain⟨Q,H⟩:=H
 exact(H.X4g hi h (by rw[X5O hi];omega)).2
theorem pq_hd: ∀p,(Q0D p).hd=(Q3Q p).turn:=by
 intro p
 cases p<;>first|rfl|skip
 rename_i h
 by_cases e:h=2<;>simp[Q0D,Q3Q,e,Mk.turn]
def Q6n:PqP→Prop
 |.idle h=>h=0∨h=1∨h=2
 |.q1 a=>a%4=0
 |_=>True
def pqI(n b:Nat)(ps:List PqP)(m:Nat→Int):Prop:=1≤n∧n≤64∧ps.length=n∧(∃Rin Rout,Q2u (ps.map Q0D) (m 0) (m 1) (m 3) Rin Rout)∧QI n 2 Q3Q (.idle 0) ps m∧ ∀p,p∈ps→Q6n p
theorem X7M{ps:List PqP}{i:Nat}{q:PqP}(h: ∀p,p∈ps→Q6n p)(hq:Q6n q): ∀p,p∈ps.set i q→Q6n p:=fun p hp=>by
 rcases List.mem_or_eq_of_mem_set hp with h1|h1
 ·exact h p h1
 ·rw[h1];exact hq
theorem Y0N{ps:List PqP}{i n:Nat}(h: ∀p,p∈ps→Q6n p)(hl:ps.length=n)(hi:i<n):Q6n (ps.getD i (.idle 0)):=h _ (by simp[List.getD,hl,hi])
theorem Q6O{ps:List PqP}{n:Nat}(hl:ps.length=n)(h: ∀j,j<n→(Q3Q (ps.getD j (.idle 0))).turn=false):ws wHd (ps.map Q0D)=0:=by
 rw[X7H]
 exact Q5H (d:=PqP.idle 0) hl (fun i hi=>by unfold wHd;rw[pq_hd,h i hi];rfl)
theorem Y0M{n t c:Nat}{p:PqP}{pr:Int→Bool}(h:Q2P n t p=some (c,pr)):(c=0∧ ∃a,p= .r1 a∧pr=(fun v=>v%4 !=a%4))∨(c=1∧(Q0D p).hd=true)∨(c=8+t∧pr=(fun v=>v !=0))∨(c=8+n+t∧pr=(fun v=>v==0)):=by
 cases p<;>simp[Q2P]at h<;>obtain⟨rfl,rfl⟩:=h<;>simp[Q0D]
theorem Y3M(n:Nat):(pqK n).Q5D n (pqI n):=by
 refine⟨fun b ps m H=>H,fun b ps m i H hi hl=> ?_,fun b ps m i op h H hi hl hp hm=> ?_,fun b ps m i H hi hl hw hop=> ?_,fun b ps m i c pr H hi hl hw hpr=> ?_,fun b ps m i j c pr H hi hj hij hl hw hop hwj hpr=> ?_⟩
 ·intro a ha
  exact H.2.2.2.2.1.ok3 hi rfl ha
 ·obtain⟨h1,h2,_,⟨Rin,Rout,HP⟩,HQ,h5⟩:=H
  have hok:=Y0N h5 hl hi
  change ps.getD i (.idle 0)= .idle h at hp
  rw[hp]at hok
  have hok:h=0∨h=1∨h=2:=hok
  show pqI n b (ps.set i (Q5q op h)) m
  have key:Q0D (Q5q op h)=Q0D (.idle h)∧Q6n (Q5q op h):=by
   rcases Q2L hm with⟨rfl,rfl|rfl|rfl|rfl⟩|⟨rfl,rfl|rfl⟩|⟨g1,g2,rfl|rfl⟩<;>first|exact⟨rfl,trivial⟩|(obtain rfl:h=2:=by omega);exact⟨rfl,trivial⟩
  refine⟨h1,h2,by simpa using hl,⟨Rin,Rout,?_⟩,?_,X7M h5 key.2⟩
  ·rw[List.map_set,key.1,set_self (by simpa using(show i<ps.length by omega)) (d:=Ph.none) (by rw[Q3H (d:=PqP.idle 0) (by omega),hp])]
   exact HP
  ·rcases Q2L hm with⟨rfl,hh⟩|⟨rfl,hh⟩|⟨g1,g2,hh⟩
   ·refine HQ.outs hl hi hp rfl ?_ ⟨rfl,fun j hj hji=>⟨rfl,rfl⟩⟩ ?_<;>rcases hh with rfl|rfl|rfl|rfl<;>simp[Q5q,Q3Q,Mk.inq]
   ·refine HQ.outs hl hi hp rfl ?_ ⟨rfl,fun j hj hji=>⟨rfl,rfl⟩⟩ ?_<;>rcases hh with rfl|rfl<;>simp[Q5q,Q3Q,Mk.inq]
   ·obtain rfl:h=2:=by omega
    refine HQ.heads hl hi hp (Or.inl rfl) (Or.inl ?_) Q1N.refl
    rcases hh with rfl|rfl<;>rfl
 ·obtain⟨h1,h2,_,⟨Rin,Rout,HP⟩,HQ,h5⟩:=H
  have hok:=Y0N h5 hl hi
  change Q2P n i (ps.getD i (.idle 0))=none at hw
  change(Q0Y (ps.getD i (.idle 0))).1.op≠0 at hop
  change pqI n b (ps.set i (Q0F n i m (ps.getD i (.idle 0))).1) (written m (Q0F n i m (ps.getD i (.idle 0))).2.1)
  have hil:i<(ps.map Q0D).length:=by simpa using(show i<ps.length by omega)
  have hq:=Q3H (g:=Q0D) (d:=PqP.idle 0) (e:=Ph.none) (l:=ps) (i:=i) (by omega)
  obtain⟨p,hp⟩: ∃p,ps.getD i (.idle 0)=p:=⟨_,rfl⟩
  rw[hp]at hok hq hw hop⊢
  have fin: ∀q w,(∃Rin Rout,Q2u ((ps.map Q0D).set i (Q0D q)) (written m w 0) (written m w 1) (written m w 3) Rin Rout)→QI n 2 Q3Q (.idle 0) (ps.set i q) (written m w)→Q6n q→pqI n b (ps.set i q) (written m w):=
   fun q w g1 g2 g3=>⟨h1,h2,by simpa using hl,by rw[List.map_set];exact g1,g2,X7M h5 g3⟩
  have pw0: ∀q v R R',Q2u ((ps.map Q0D).set i (Q0D q)) v (m 1) (m 3) R R'→ ∃Rin Rout,Q2u ((ps.map Q0D).set i (Q0D q)) (written m (some (0,v)) 0) (written m (some (0,v)) 1) (written m (some (0,v)) 3) Rin Rout:=fun q v R R' h=>⟨R,R',h⟩
  have pw1: ∀q v R R',Q2u ((ps.map Q0D).set i (Q0D q)) (m 0) v (m 3) R R'→ ∃Rin Rout,Q2u ((ps.map Q0D).set i (Q0D q)) (written m (some (1,v)) 0) (written m (some (1,v)) 1) (written m (some (1,v)) 3) Rin Rout:=fun q v R R' h=>⟨R,R',h⟩
  have pw3: ∀q v R R',Q2u ((ps.map Q0D).set i (Q0D q)) (m 0) (m 1) v R R'→ ∃Rin Rout,Q2u ((ps.map Q0D).set i (Q0D q)) (written m (some (3,v)) 0) (written m (some (3,v)) 1) (written m (some (3,v)) 3) Rin Rout:=fun q v R R' h=>⟨R,R',h⟩
  have pwx: ∀q c v,0≠c→1≠c→3≠c→ ∀R R',Q2u ((ps.map Q0D).set i (Q0D q)) (m 0) (m 1) (m 3) R R'→ ∃Rin Rout,Q2u ((ps.map Q0D).set i (Q0D q)) (written m (some (c,v)) 0) (written m (some (c,v)) 1) (written m (some (c,v)) 3) Rin Rout:=fun q c v g0 g1 g3 R R' h=>⟨R,R',by rw[Q0p g0,Q0p g1,Q0p g3];exact h⟩
  have pself: ∀q,Q0D q=Q0D p→Q2u ((ps.map Q0D).set i (Q0D q)) (m 0) (m 1) (m 3) Rin Rout:=fun q g=>by rw[g,set_self hil hq];exact HP
  have psame: ∀q,Q0D q=Q0D p→ ∃Rin Rout,Q2u ((ps.map Q0D).set i (Q0D q)) (written m none 0) (written m none 1) (written m none 3) Rin Rout:=fun q g=>⟨_,_,pself q g⟩
  have psx: ∀q c v,Q0D q=Q0D p→0≠c→1≠c→3≠c→ ∃Rin Rout,Q2u ((ps.map Q0D).set i (Q0D q)) (written m (some (c,v)) 0) (written m (some (c,v)) 1) (written m (some (c,v)) 3) Rin Rout:=fun q c v g g0 g1 g3=>pwx q c v g0 g1 g3 _ _ (pself q g)
  have sameq: ∀w:Option (Nat×Int),(∀x,w=some x→x.1=0∨x.1=1∨x.1=3)→Q1N n 2 m (written m w):=fun w g=>by
   cases w with
   |none=>exact Q1N.refl
   |some x=>have:=g x rfl;obtain⟨c',v'⟩:=x;exact Y0A (by simp only at this;omega) (by simp only at this;omega) (by decide)
  have celn: ∀x:Nat×Int,none=some x→x.1=0∨x.1=1∨x.1=3:=fun x h=>by cases h
  have cel0: ∀{v:Int},∀x:Nat×Int,some (0,v)=some x→x.1=0∨x.1=1∨x.1=3:=fun x h=>by cases h;exact Or.inl rfl
  have cel1: ∀{v:Int},∀x:Nat×Int,some (1,v)=some x→x.1=0∨x.1=1∨x.1=3:=fun x h=>by cases h;exact Or.inr (Or.inl rfl)
  have cel3: ∀{v:Int},∀x:Nat×Int,some (3,v)=some x→x.1=0∨x.1=1∨x.1=3:=fun x h=>by cases h;exact Or.inr (Or.inr rfl)
  have qhd: ∀q w,(Q3Q p).turn=true→Q3Q q= .hd→(∀x,w=some x→x.1=0∨x.1=1∨x.1=3)→QI n 2 Q3Q (.idle 0) (ps.set i q) (written m w):=fun q w g1 g2 g3=>HQ.heads hl hi hp (Or.inl g1) (Or.inl g2) (sameq w g3)
  have qout: ∀q w,(Q3Q p).inq=false→Q3Q q= .out→(∀x,w=some x→x.1=0∨x.1=1∨x.1=3)→QI n 2 Q3Q (.idle 0) (ps.set i q) (written m w):=fun q w g1 g2 g3=>HQ.outs hl hi hp g1 (by rw[g2];rfl) ⟨(sameq w g3).1,fun j hj _=>(sameq w g3).2 j hj⟩ (by rw[g2];exact⟨(fun h=>by rcases h with h|h<;>cases h),(fun h=>by cases h)⟩)
  cases p<;>simp[Q2P]at hw<;>simp[Q0Y,Q1V,Fr.zero]at hop<;>simp only[Q6n]at hok<;>simp only[Q0F]
  case r0=>
   split
   ·exact fin _ _ (pw0 _ _ _ _ (HP.reads hil hq (by assumption))) (qout _ _ rfl rfl cel0) (Or.inr (Or.inl rfl))
   ·exact fin _ _ (pw0 _ _ _ _ (HP.waits hil hq (by assumption))) (qout _ _ rfl rfl cel0) trivial
  case u0=>
   exact fin _ _ (pw1 _ _ _ _ (HP.goes hil hq)) (qout _ _ rfl rfl cel1) (Or.inl rfl)
  case q0 a=>
   split
   ·exact fin _ none (psame _ rfl) (qout _ _ rfl rfl celn) (by assumption)
   ·exact fin _ none (psame _ rfl) (qout _ _ rfl rfl celn) (Or.inl rfl)
  case q1 a=>
   split
   ·rename_i h0
    exact fin _ _ (pw0 _ _ _ _ (by rw[←h0];exact HP.reads hil hq (by rw[h0];exact hok))) (qout _ _ rfl rfl cel0) (Or.inr (Or.inl rfl))
   ·exact fin _ none (psame _ rfl) (qout _ _ rfl rfl celn) trivial
  case w0=>
   exact fin _ _ (psx _ _ _ rfl (by omega) (by omega) (by omega)) (HQ.outs hl hi hp rfl rfl ⟨Q0p (by omega),fun j hj hji=>⟨Q0p (by omega),Q0p (by omega)⟩⟩ ⟨(fun _=>Q1E),(fun h=>by cases h)⟩) trivial
  case w1=>
   have hpre:=(HQ.pre hi hp).1 (Or.inl rfl)
   exact fin _ _ (psx _ _ _ rfl (by omega) (by omega) (by omega)) (HQ.outs hl hi hp rfl rfl ⟨Q0p (by omega),fun j hj hji=>⟨Q0p (by omega),Q0p (by omega)⟩⟩ ⟨(fun _=>by rw[Q0p (by omega)];exact hpre),(fun _=>Q1E)⟩) trivial
  case w2=>
   split
   ·rename_i hz
    exact fin _ _ (pwx _ _ _ (by omega) (by omega) (by omega) _ _ (HP.take hil hq (Q6O hl (HQ.Q8D hz)))) (HQ.comes hl hi hp (Or.inr rfl) hz rfl Q1E (fun j hj=>⟨Q0p (by omega),Q0p (by omega)⟩)) trivial
   ·rename_i hz
    exact fin _ _ (psx _ _ _ rfl (by omega) (by omega) (by omega)) (HQ.behind hl hi hp rfl hz rfl Q1E (fun j hj=>⟨Q0p (by omega),Q0p (by omega)⟩)) trivial
  case w3 a=>
   have ho:=HQ.ok3 hi hp (a:=a) (Or.inl rfl)
   refine fin _ _ (psx _ _ _ rfl (by omega) (by omega) (by omega)) (HQ.link hl hi hp (a:=a) rfl rfl (Q0p (by omega)) (fun j hj=>⟨fun e=> ?_,fun e=>Q0p (by omega),Q0p (by omega)⟩)) trivial
   rw[show 8+j=8+(a-1).toNat by omega,Q1E]
  case w5 a=>
   exact fin _ none ⟨_,_,HP.phase hil hq⟩ (qhd _ none rfl rfl celn) trivial
  case w6 a b=>
   exact fin _ _ (pw0 _ _ _ _ (HP.present hil hq)) (qhd _ _ rfl rfl cel0) trivial
  case v0=>
   exact fin _ none ⟨_,_,HP.X3K hil hq⟩ (qhd _ none rfl rfl celn) trivial
  case v1 b=>
   exact fin _ _ (pw0 _ _ _ _ (HP.leave hil hq)) (qhd _ _ rfl rfl cel0) trivial
  case v2 b=>
   exact fin _ _ (pw3 _ _ _ _ (HP.store hil hq)) (qhd _ _ rfl rfl cel3) trivial
  case v3 b=>
   split
   ·exact fin _ none (psame _ rfl) (HQ.heads hl hi hp (Or.inl rfl) (Or.inr (Or.inl rfl)) Q1N.refl) trivial
   ·rename_i hz
    exact fin _ none (psame _ rfl) (HQ.heads hl hi hp (Or.inl rfl) (Or.inr (Or.inr (Or.inr ⟨_,rfl,rfl,hz⟩))) Q1N.refl) trivial
  case v4 a b=>
   split
   ·rename_i hz
    exact fin _ _ (pwx _ _ _ (by omega) (by omega) (by omega) _ _ (HP.pass hil hq)) (HQ.leaves hl hi hp rfl hz rfl Q1E (fun j hj=>⟨Q0p (by omega),Q0p (by omega)⟩)) (Or.inl rfl)
   ·rename_i hz
    exact fin _ none (psame _ rfl) (HQ.heads hl hi hp (Or.inl rfl) (Or.inr (Or.inr (Or.inl ⟨rfl,rfl,hz⟩))) Q1N.refl) trivial
  case v6 a b=>
   have ho:=HQ.ok3 hi hp (a:=a) (Or.inr rfl)
   refine fin _ _ (pwx _ _ _ (by omega) (by omega) (by omega) _ _ (HP.pass hil hq)) (HQ.gives hl hi hp (a:=a) rfl rfl (Q0p (by omega)) (fun j hj=>⟨fun e=> ?_,fun e=>Q0p (by omega),Q0p (by omega)⟩)) (Or.inl rfl)
   rw[show 8+n+j=8+n+(a-1).toNat by omega,Q1E]
  case d0=>
   exact fin _ none ⟨_,_,HP.X3K hil hq⟩ (qhd _ none rfl rfl celn) trivial
  case d1 b=>
   exact fin _ _ (pw0 _ _ _ _ (HP.down hil hq)) (qhd _ _ rfl rfl cel0) trivial
  case d2 b=>
   exact fin _ _ (pw3 _ _ _ _ (HP.Y1X hil hq)) (qhd _ _ rfl rfl cel3) trivial
  case d3 b=>
   split
   ·exact fin _ none (psame _ rfl) (HQ.heads hl hi hp (Or.inl rfl) (Or.inr (Or.inl rfl)) Q1N.refl) trivial
   ·rename_i hz
    exact fin _ none (psame _ rfl) (HQ.heads hl hi hp (Or.inl rfl) (Or.inr (Or.inr (Or.inr ⟨_,rfl,rfl,hz⟩))) Q1N.refl) trivial
  case d4 a b=>
   split
   ·rename_i hz
    exact fin _ _ (pwx _ _ _ (by omega) (by omega) (by omega) _ _ (HP.X5u hil hq)) (HQ.leaves hl hi hp rfl hz rfl Q1E (fun j hj=>⟨Q0p (by omega),Q0p (by omega)⟩)) (Or.inr (Or.inl rfl))
   ·rename_i hz
    exact fin _ none (psame _ rfl) (HQ.heads hl hi hp (Or.inl rfl) (Or.inr (Or.inr (Or.inl ⟨rfl,rfl,hz⟩))) Q1N.refl) trivial
  case d6 a b=>
   have ho:=HQ.ok3 hi hp (a:=a) (Or.inr rfl)
   refine fin _ _ (pwx _ _ _ (by omega) (by omega) (by omega) _ _ (HP.X5u hil hq)) (HQ.gives hl hi hp (a:=a) rfl rfl (Q0p (by omega)) (fun j hj=>⟨fun e=> ?_,fun e=>Q0p (by omega),Q0p (by omega)⟩)) (Or.inr (Or.inl rfl))
   rw[show 8+n+j=8+n+(a-1).toNat by omega,Q1E]
  case y0=>
   exact fin _ _ (psx _ _ _ rfl (by omega) (by omega) (by omega)) (HQ.outs hl hi hp rfl rfl ⟨Q0p (by omega),fun j hj hji=>⟨Q0p (by omega),Q0p (by omega)⟩⟩ ⟨(fun _=>Q1E),(fun h=>by cases h)⟩) trivial
  case y1=>
   split
   ·rename_i hz
    exact fin _ _ (pwx _ _ _ (by omega) (by omega) (by omega) _ _ (HP.take hil hq (Q6O hl (HQ.Q8D hz)))) (HQ.comes hl hi hp (Or.inl rfl) hz rfl Q1E (fun j hj=>⟨Q0p (by omega),Q0p (by omega)⟩)) trivial
   ·exact fin _ none (psame _ rfl) (qout _ _ rfl rfl celn) (Or.inl rfl)
  case y2=>
   exact fin _ none (psame _ rfl) (qhd _ none rfl rfl celn) trivial
  case y3 a=>
   split
   ·exact fin _ none (psame _ rfl) (qhd _ none rfl rfl celn) trivial
   ·exact fin _ none (psame _ rfl) (qhd _ none rfl rfl celn) trivial
  case y4 a b=>
   exact fin _ none ⟨_,_,HP.phase hil hq⟩ (qhd _ none rfl rfl celn) trivial
  case y5 a b=>
   exact fin _ _ (pw0 _ _ _ _ (HP.present hil hq)) (qhd _ _ rfl rfl cel0) trivial
  case y8 a b=>
   split
   ·exact fin _ none (psame _ rfl) (HQ.heads hl hi hp (Or.inl rfl) (Or.inr (Or.inl rfl)) Q1N.refl) trivial
   ·rename_i hz
    exact fin _ none (psame _ rfl) (HQ.heads hl hi hp (Or.inl rfl) (Or.inr (Or.inr (Or.inr ⟨_,rfl,rfl,hz⟩))) Q1N.refl) trivial
  case y9 a b=>
   split
   ·rename_i hz
    exact fin _ _ (pwx _ _ _ (by omega) (by omega) (by omega) _ _ (HP.pass hil hq)) (HQ.leaves hl hi hp rfl hz rfl Q1E (fun j hj=>⟨Q0p (by omega),Q0p (by omega)⟩)) (Or.inl rfl)
   ·rename_i hz
    exact fin _ none (psame _ rfl) (HQ.heads hl hi hp (Or.inl rfl) (Or.inr (Or.inr (Or.inl ⟨rfl,rfl,hz⟩))) Q1N.refl) trivial
  case y11 a b=>
   have ho:=HQ.ok3 hi hp (a:=a) (Or.inr rfl)
   refine fin _ _ (pwx _ _ _ (by omega) (by omega) (by omega) _ _ (HP.pass hil hq)) (HQ.gives hl hi hp (a:=a) rfl rfl (Q0p (by omega)) (fun j hj=>⟨fun e=> ?_,fun e=>Q0p (by omega),Q0p (by omega)⟩)) (Or.inl rfl)
   rw[show 8+n+j=8+n+(a-1).toNat by omega,Q1E]
  case z0=>
   exact fin _ _ (psx _ _ _ rfl (by omega) (by omega) (by omega)) (HQ.outs hl hi hp rfl rfl ⟨Q0p (by omega),fun j hj hji=>⟨Q0p (by omega),Q0p (by omega)⟩⟩ ⟨(fun _=>Q1E),(fun h=>by cases h)⟩) trivial
  case z1=>
   split
   ·rename_i hz
    exact fin _ _ (pwx _ _ _ (by omega) (by omega) (by omega) _ _ (HP.Y5X hil hq (Q6O hl (HQ.Q8D hz)))) (HQ.comes hl hi hp (Or.inl rfl) hz rfl Q1E (fun j hj=>⟨Q0p (by omega),Q0p (by omega)⟩)) trivial
   ·exact fin _ none (psame _ rfl) (qout _ _ rfl rfl celn) (Or.inr (Or.inl rfl))
  case z2=>
   exact fin _ none (psame _ rfl) (qhd _ none rfl rfl celn) trivial
  case z3 a=>
   split
   ·exact fin _ none (psame _ rfl) (qhd _ none rfl rfl celn) trivial
   ·exact fin _ none (psame _ rfl) (qhd _ none rfl rfl celn) trivial
  case z4 a b=>
   exact fin _ none ⟨_,_,HP.Y2l hil hq⟩ (qhd _ none rfl rfl celn) trivial
  case z5 a b=>
   exact fin _ _ (pw0 _ _ _ _ (HP.X3G hil hq)) (qhd _ _ rfl rfl cel0) trivial
  case z7 a b=>
   exact fin _ _ (pw1 _ _ _ _ (HP.upin hil hq)) (qhd _ _ rfl rfl cel1) (Or.inr (Or.inr rfl))
  case z8 a b=>
   split
   ·exact fin _ none (psame _ rfl) (HQ.heads hl hi hp (Or.inl rfl) (Or.inr (Or.inl rfl)) Q1N.refl) trivial
   ·rename_i hz
    exact fin _ none (psame _ rfl) (HQ.heads hl hi hp (Or.inl rfl) (Or.inr (Or.inr (Or.inr ⟨_,rfl,rfl,hz⟩))) Q1N.refl) trivial
  case z9 a b=>
   split
   ·rename_i hz
    exact fin _ _ (pwx _ _ _ (by omega) (by omega) (by omega) _ _ (HP.X5u hil hq)) (HQ.leaves hl hi hp rfl hz rfl Q1E (fun j hj=>⟨Q0p (by omega),Q0p (by omega)⟩)) (Or.inr (Or.inl rfl))
   ·rename_i hz
    exact fin _ none (psame _ rfl) (HQ.heads hl hi hp (Or.inl rfl) (Or.inr (Or.inr (Or.inl ⟨rfl,rfl,hz⟩))) Q1N.refl) trivial
  case z11 a b=>
   have ho:=HQ.ok3 hi hp (a:=a) (Or.inr rfl)
   refine fin _ _ (pwx _ _ _ (by omega) (by omega) (by omega) _ _ (HP.X5u hil hq)) (HQ.gives hl hi hp (a:=a) rfl rfl (Q0p (by omega)) (fun j hj=>⟨fun e=> ?_,fun e=>Q0p (by omega),Q0p (by omega)⟩)) (Or.inr (Or.inl rfl))
   rw[show 8+n+j=8+n+(a-1).toNat by omega,Q1E]
 ·obtain⟨h1,h2,_,⟨Rin,Rout,HP⟩,HQ,h5⟩:=H
  change Q2P n i (ps.getD i (.idle 0))=some (c,pr)at hw
  change pqI n b (ps.set i (Q3b (m c) (ps.getD i (.idle 0)))) m
  have hil:i<(ps.map Q0D).length:=by simpa using(show i<ps.length by omega)
  have hq:=Q3H (g:=Q0D) (d:=PqP.idle 0) (e:=Ph.none) (l:=ps) (i:=i) (by omega)
  obtain⟨p,hp⟩: ∃p,ps.getD i (.idle 0)=p:=⟨_,rfl⟩
  rw[hp]at hq hw⊢
  have fin: ∀q,(∃Rin Rout,Q2u ((ps.map Q0D).set i (Q0D q)) (m 0) (m 1) (m 3) Rin Rout)→QI n 2 Q3Q (.idle 0) (ps.set i q) m→Q6n q→pqI n b (ps.set i q) m:=
   fun q g1 g2 g3=>⟨h1,h2,by simpa using hl,by rw[List.map_set];exact g1,g2,X7M h5 g3⟩
  have psame: ∀q,Q0D q=Q0D p→ ∃Rin Rout,Q2u ((ps.map Q0D).set i (Q0D q)) (m 0) (m 1) (m 3) Rin Rout:=fun q g=>⟨_,_,by rw[g,set_self hil hq];exact HP⟩
  cases p<;>simp[Q2P]at hw
  case r1 a=>
   obtain⟨rfl,rfl⟩:=hw
   have h0: ¬m 0%4=a%4:=by simpa using hpr
   exact fin _ ⟨_,_,HP.lets hil hq h0⟩ (HQ.outs hl hi hp rfl rfl ⟨rfl,fun j hj hji=>⟨rfl,rfl⟩⟩ ⟨(fun h=>by rcases h with h|h<;>cases h),(fun h=>by cases h)⟩) (Or.inr (Or.inl rfl))
  case w4 a=>
   obtain⟨rfl,rfl⟩:=hw
   have h0:m (8+n+i)=0:=by simpa using hpr
   exact fin _ ⟨_,_,HP.take hil hq (Q6O hl (HQ.first hi (by rw[hp];rfl) h0))⟩ (HQ.heads hl hi hp (Or.inr ⟨rfl,h0⟩) (Or.inl rfl) Q1N.refl) trivial
  case w7 a b=>
   obtain⟨rfl,rfl⟩:=hw
   have h0:m 1=a:=by simpa using hpr
   exact fin _ ⟨_,_,HP.Y1J hil hq h0⟩ (HQ.heads hl hi hp (Or.inl rfl) (Or.inl rfl) Q1N.refl) (Or.inr (Or.inr rfl))
  case y6 a b=>
   obtain⟨rfl,rfl⟩:=hw
   have h0:m 1=a:=by simpa using hpr
   exact fin _ ⟨_,_,HP.Y1J hil hq h0⟩ (HQ.heads hl hi hp (Or.inl rfl) (Or.inl rfl) Q1N.refl) (Or.inr (Or.inr rfl))
  case z6 a b=>
   obtain⟨rfl,rfl⟩:=hw
   have h0:m 1=(a-256)%4294967296:=by simpa using hpr
   exact fin _ ⟨_,_,HP.Y2B hil hq h0⟩ (HQ.heads hl hi hp (Or.inl rfl) (Or.inl rfl) Q1N.refl) trivial
  case v5 a b=>
   obtain⟨rfl,rfl⟩:=hw
   exact fin _ (psame _ rfl) (HQ.heads hl hi hp (Or.inl rfl) (Or.inr (Or.inr (Or.inr ⟨_,rfl,rfl,by simpa using hpr⟩))) Q1N.refl) trivial
  case d5 a b=>
   obtain⟨rfl,rfl⟩:=hw
   exact fin _ (psame _ rfl) (HQ.heads hl hi hp (Or.inl rfl) (Or.inr (Or.inr (Or.inr ⟨_,rfl,rfl,by simpa using hpr⟩))) Q1N.refl) trivial
  case y10 a b=>
   obtain⟨rfl,rfl⟩:=hw
   exact fin _ (psame _ rfl) (HQ.heads hl hi hp (Or.inl rfl) (Or.inr (Or.inr (Or.inr ⟨_,rfl,rfl,by simpa using hpr⟩))) Q1N.refl) trivial
  case z10 a b=>
   obtain⟨rfl,rfl⟩:=hw
   exact fin _ (psame _ rfl) (HQ.heads hl hi hp (Or.inl rfl) (Or.inr (Or.inr (Or.inr ⟨_,rfl,rfl,by simpa using hpr⟩))) Q1N.refl) trivial
 ·obtain⟨h1,h2,_,⟨Rin,Rout,HP⟩,HQ,h5⟩:=H
  change Q2P n i (ps.getD i (.idle 0))=none at hw
  change(Q0Y (ps.getD i (.idle 0))).1.op≠0 at hop
  change Q2P n j (ps.getD j (.idle 0))=some (c,pr)at hwj
  change pr (written m (Q0F n i m (ps.getD i (.idle 0))).2.1 c)=true at hpr
  change _∨(Q0F n i m (ps.getD i (.idle 0))).2.2=some c
  have hok: ∀a,(Q3Q (ps.getD i (.idle 0))= .e3 a∨Q3Q (ps.getD i (.idle 0))= .g3 a)→1≤a∧a≤n:=fun a h=>HQ.ok3 hi rfl h
  have hil:i<(ps.map Q0D).length:=by simpa using(show i<ps.length by omega)
  have hjl:j<(ps.map Q0D).length:=by simpa using(show j<ps.length by omega)
  have hq:=Q3H (g:=Q0D) (d:=PqP.idle 0) (e:=Ph.none) (l:=ps) (i:=i) (by omega)
  have hqj:=Q3H (g:=Q0D) (d:=PqP.idle 0) (e:=Ph.none) (l:=ps) (i:=j) (by omega)
  obtain⟨p,hp⟩: ∃p,ps.getD i (.idle 0)=p:=⟨_,rfl⟩
  obtain⟨q,hqq⟩: ∃q,ps.getD j (.idle 0)=q:=⟨_,rfl⟩
  rw[hp]at hw hop hpr hq hok⊢
  rw[hqq]at hwj hqj
  have QM:=HP.ok _ (Q0k (d:=Ph.none) hjl)
  rw[hqj]at QM
  have hal:=fun h=>HP.alone hil hq h hjl (fun h=>hij h.symm)
  rw[hqj]at hal
  have HA:=HP.own hil hq
  have hone:=HP.one
  have off:=HP.off
  obtain⟨⟨s0,s1,s2,s3,s4,s5,s6,s7⟩,s8,s9⟩:=HP.sums
  have hx0:0≤m 0∧m 0<4294967296:=by have:=HP.on;omega
  have hc:=Y0M hwj
  have keep: ∀w,(Q0F n i m p).2.1=w→written m w c=m c→pr (m c)=true∨(Q0F n i m p).2.2=some c:=fun w g1 g2=>Or.inl (by rw[←g2,←g1];exact hpr)
  have other: ∀c0 v,(Q0F n i m p).2.1=some (c0,v)→c≠c0→pr (m c)=true∨(Q0F n i m p).2.2=some c:=fun c0 v g1 g2=>keep _ g1 (Q0p g2)
  have more: ∀v,(Q0F n i m p).2.1=some (0,v)→v%4=m 0%4→pr (m c)=true∨(Q0F n i m p).2.2=some c:=fun v g1 g2=>by
   rcases hc with⟨rfl,a,rfl,rfl⟩|⟨rfl,_⟩|⟨rfl,_⟩|⟨rfl,_⟩
   ·left
    rw[g1]at hpr
    simp only[written,upd,if_true]at hpr⊢
    rw[←g2];exact hpr
   all_goals exact other 0 _ g1 (by omega)
  have pres: ∀v,(Q0F n i m p).2.1=some (0,v)→(Q0D p).hd=true→wIn (Q0D p)+wUp (Q0D p)+wPd (Q0D p)+wA2 (Q0D p)=0→pr (m c)=true∨(Q0F n i m p).2.2=some c:=fun v g1 g2 g3=>by
   rcases hc with⟨rfl,a,rfl,rfl⟩|⟨rfl,_⟩|⟨rfl,_⟩|⟨rfl,_⟩
   ·left
    have hh:wHd (Q0D p)=1:=by unfold wHd;rw[g2];rfl
    have h0:=off (by omega)
    have hwt:=(QM.wt (a%4) rfl).1
    have: ¬m 0%4=a%4:=by omega
    simpa using this
   all_goals exact other 0 _ g1 (by omega)
  cases p<;>simp[Q2P]at hw<;>simp[Q0Y,Q1V,Fr.zero]at hop
  case r0=>
   exact more _ rfl (by omega)
  case u0=>
   rcases hc with⟨rfl,_⟩|⟨rfl,hh⟩|⟨rfl,_⟩|⟨rfl,_⟩<;>first|exact Or.inr rfl|exact other 1 _ rfl (by omega)
  case q0 a=>
   exact keep none rfl rfl
  case q1 a=>
   by_cases h0:m 0=a
   ·exact more ((a+256)%4294967296) (by simp only[Q0F,if_pos h0]) (by omega)
   ·exact keep none (by simp only[Q0F,if_neg h0]) rfl
  case w0=>
   rcases hc with⟨rfl,_⟩|⟨rfl,hh⟩|⟨rfl,_⟩|⟨rfl,_⟩<;>exact other (8+i) _ rfl (by omega)
  case w1=>
   rcases hc with⟨rfl,_⟩|⟨rfl,hh⟩|⟨rfl,_⟩|⟨rfl,_⟩<;>exact other (8+n+i) _ rfl (by omega)
  case w2=>
   rcases hc with⟨rfl,_⟩|⟨rfl,hh⟩|⟨rfl,_⟩|⟨rfl,_⟩<;>exact other 2 _ rfl (by omega)
  case w3 a=>
   have ho:=hok a (Or.inl rfl)
   rcases Decidable.em (8+(a-1).toNat=c)with e|e
   ·exact Or.inr (by rw[←e];rfl)
   ·exact other _ _ rfl (fun h=>e h.symm)
  case w5 a=>
   exact keep none rfl rfl
  case w6 a b=>
   exact pres _ rfl rfl rfl
  case v0=>
   exact keep none rfl rfl
  case v1 b=>
   rcases hc with⟨rfl,_⟩|⟨rfl,hh⟩|⟨rfl,_⟩|⟨rfl,_⟩<;>first|exact Or.inr rfl|exact other 0 _ rfl (by omega)
  case v2 b=>
   rcases hc with⟨rfl,_⟩|⟨rfl,hh⟩|⟨rfl,_⟩|⟨rfl,_⟩<;>exact other 3 _ rfl (by omega)
  case v3 b=>
   exact keep none rfl rfl
  case v4 a b=>
   by_cases h0:m 2=(i:Int)+1
   ·rcases hc with⟨rfl,_⟩|⟨rfl,hh⟩|⟨rfl,_⟩|⟨rfl,_⟩<;>exact other 2 _ (by simp only[Q0F,if_pos h0];rfl) (by omega)
   ·exact keep none (by simp only[Q0F,if_neg h0]) rfl
  case v6 a b=>
   have ho:=hok a (Or.inr rfl)
   rcases Decidable.em (8+n+(a-1).toNat=c)with e|e
   ·exact Or.inr (by rw[←e];rfl)
   ·exact other _ _ rfl (fun h=>e h.symm)
  case d0=>
   exact keep none rfl rfl
  case d1 b=>
   rcases hc with⟨rfl,_⟩|⟨rfl,hh⟩|⟨rfl,_⟩|⟨rfl,_⟩<;>first|exact Or.inr rfl|exact other 0 _ rfl (by omega)
  case d2 b=>
   rcases hc with⟨rfl,_⟩|⟨rfl,hh⟩|⟨rfl,_⟩|⟨rfl,_⟩<;>exact other 3 _ rfl (by omega)
  case d3 b=>
   exact keep none rfl rfl
  case d4 a b=>
   by_cases h0:m 2=(i:Int)+1
   ·rcases hc with⟨rfl,_⟩|⟨rfl,hh⟩|⟨rfl,_⟩|⟨rfl,_⟩<;>exact other 2 _ (by simp only[Q0F,if_pos h0];rfl) (by omega)
   ·exact keep none (by simp only[Q0F,if_neg h0]) rfl
  case d6 a b=>
   have ho:=hok a (Or.inr rfl)
   rcases Decidable.em (8+n+(a-1).toNat=c)with e|e
   ·exact Or.inr (by rw[←e];rfl)
   ·exact other _ _ rfl (fun h=>e h.symm)
  case y0=>
   rcases hc with⟨rfl,_⟩|⟨rfl,hh⟩|⟨rfl,_⟩|⟨rfl,_⟩<;>exact other (8+i) _ rfl (by omega)
  case y1=>
   by_cases h0:m 2=0
   ·rcases hc with⟨rfl,_⟩|⟨rfl,hh⟩|⟨rfl,_⟩|⟨rfl,_⟩<;>exact other 2 _ (by simp only[Q0F,if_pos h0];rfl) (by omega)
   ·exact keep none (by simp only[Q0F,if_neg h0]) rfl
  case y2=>
   exact keep none rfl rfl
  case y3 a=>
   exact keep none rfl rfl
  case y4 a b=>
   exact keep none rfl rfl
  case y5 a b=>
   exact pres _ rfl rfl rfl
  case y8 a b=>
   exact keep none rfl rfl
  case y9 a b=>
   by_cases h0:m 2=(i:Int)+1
   ·rcases hc with⟨rfl,_⟩|⟨rfl,hh⟩|⟨rfl,_⟩|⟨rfl,_⟩<;>exact other 2 _ (by simp only[Q0F,if_pos h0];rfl) (by omega)
   ·exact keep none (by simp only[Q0F,if_neg h0]) rfl
  case y11 a b=>
   have ho:=hok a (Or.inr rfl)
   rcases Decidable.em (8+n+(a-1).toNat=c)with e|e
   ·exact Or.inr (by rw[←e];rfl)
   ·exact other _ _ rfl (fun h=>e h.symm)
  case z0=>
   rcases hc with⟨rfl,_⟩|⟨rfl,hh⟩|⟨rfl,_⟩|⟨rfl,_⟩<;>exact other (8+i) _ rfl (by omega)
  case z1=>
   by_cases h0:m 2=0
   ·rcases hc with⟨rfl,_⟩|⟨rfl,hh⟩|⟨rfl,_⟩|⟨rfl,_⟩<;>exact other 2 _ (by simp only[Q0F,if_pos h0];rfl) (by omega)
   ·exact keep none (by simp only[Q0F,if_neg h0]) rfl
  case z2=>
   exact keep none rfl rfl
  case z3 a=>
   exact keep none rfl rfl
  case z4 a b=>
   exact keep none rfl rfl
  case z5 a b=>
   exact pres _ rfl rfl rfl
  case z7 a b=>
   rcases hc with⟨rfl,_⟩|⟨rfl,hh⟩|⟨rfl,_⟩|⟨rfl,_⟩
   ·exact other 1 _ rfl (by omega)
   ·have:=hal rfl
    rw[hh]at this
    cases this
   ·exact other 1 _ rfl (by omega)
   ·exact other 1 _ rfl (by omega)
  case z8 a b=>
   exact keep none rfl rfl
  case z9 a b=>
   by_cases h0:m 2=(i:Int)+1
   ·rcases hc with⟨rfl,_⟩|⟨rfl,hh⟩|⟨rfl,_⟩|⟨rfl,_⟩<;>exact other 2 _ (by simp only[Q0F,if_pos h0];rfl) (by omega)
   ·exact keep none (by simp only[Q0F,if_neg h0]) rfl
  case z11 a b=>
   have ho:=hok a (Or.inr rfl)
   rcases Decidable.em (8+n+(a-1).toNat=c)with e|e
   ·exact Or.inr (by rw[←e];rfl)
   ·exact other _ _ rfl (fun h=>e h.symm)
end Go.Proofs.YthnimpkoidablaaGreat.Z
