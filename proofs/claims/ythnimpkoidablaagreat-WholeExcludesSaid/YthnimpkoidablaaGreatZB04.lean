import Derived.Test.YthnimpkoidablaaGreatZB01
set_option linter.unusedVariables false
set_option linter.unusedSimpArgs false
set_option maxHeartbeats 1600000
namespace Go.Proofs.YthnimpkoidablaaGreat.Z
open Go.RowKit
theorem X0r(v:Int)(hv:0≤v∧v<4294967296):Q4U v=(v/65536%2 !=0):=by
 obtain⟨n,rfl⟩: ∃n:Nat,v=n:=⟨v.toNat,by omega⟩
 have h:=ZB.Q3z n 65536 (by omega) (by decide)
 have h2:n &&&65536=n/65536%2*65536:=ZB.Q3A n 16 1
 rw[h2]at h
 unfold Q4U
 have h3:bits .and .u32 (n:Int) 65536=((n/65536%2*65536:Nat):Int):=h
 rw[h3]
 rcases(show n/65536%2=0∨n/65536%2=1 by omega)with h4|h4
 ·rw[h4]
  have:((n:Int)/65536%2)=0:=by omega
  rw[this];rfl
 ·rw[h4]
  have:((n:Int)/65536%2)=1:=by omega
  rw[this];rfl
inductive RfP
 |idle (h:Int)
 |r0|r1 (a:Int)
 |u0
 |w0|w1 (a:Int)|w2 (a:Int)
 |v0
 |d0
 |tr0 (a:Int)|tr1 (a:Int)|tw0 (a:Int)|tw1 (a:Int)|tu0 (a:Int)|tu1 (a:Int)
def fr(op line a:Int):Fr:=⟨op,line,a,0,0,Wk.zero,0⟩
def Q2I:RfP→Fr×Int
 |.idle h=>(Fr.zero,h)
 |.r0=>(fr 1 0 0,0)| .r1 a=>(fr 1 1 a,0)
 |.u0=>(fr 2 0 0,0)
 |.w0=>(fr 3 0 0,0)| .w1 a=>(fr 3 1 a,0)| .w2 a=>(fr 3 2 a,0)
 |.v0=>(fr 4 0 0,0)
 |.d0=>(fr 8 0 0,1)
 |.tr0 a=>(fr 5 0 a,0)| .tr1 a=>(fr 5 1 a,0)
 |.tw0 a=>(fr 6 0 a,0)| .tw1 a=>(fr 6 1 a,0)
 |.tu0 a=>(fr 7 0 a,1)| .tu1 a=>(fr 7 1 a,1)
def Q3t:RfP→Option (Nat×(Int→Bool))
 |.r1 _=>some (0,fun v=> !Q4U v)
 |.w2 _=>some (0,fun v=>v==0)
 |_=>none
def Q6K:RfP→RfP
 |.r1 _=> .idle 1
 |.w2 a=> .w1 a
 |p=>p
def Y6p:RfP→Int
 |.r1 a=>a
 |.w2 a=>a
 |_=>0
def Q1G(x:Int):RfP→RfP×Option (Nat×Int)×Option Nat
 |.r0=>(if Q4U x then .r1 x else .idle 1,some (0,(x+1)%4294967296),none)
 |.u0=>(.idle 0,some (0,(x+4294967295)%4294967296),some 0)
 |.w0=>(if x=0 then .w1 x else .w2 x,none,none)
 |.w1 a=>if x=0 then(.idle 2,some (0,65536),none)else(.w2 a,none,none)
 |.v0=>(.idle 0,some (0,(x+4294901760)%4294967296),some 0)
 |.d0=>(.idle 1,some (0,(x+4294901761)%4294967296),some 0)
 |.tr0 a=>(if Q4U x then .idle 0 else .tr1 x,none,none)
 |.tr1 a=>if x=a then(.idle 1,some (0,(a+1)%4294967296),none)else(.tr0 a,none,none)
 |.tw0 a=>(if x=0 then .tw1 x else .idle 0,none,none)
 |.tw1 a=>if x=0 then(.idle 2,some (0,65536),none)else(.tw0 a,none,none)
 |.tu0 a=>(if x=1 then .tu1 x else .idle 1,none,none)
 |.tu1 a=>if x=1 then(.idle 2,some (0,65536),none)else(.tu0 a,none,none)
 |p=>(p,none,none)
def Q8p(op h:Int):RfP:=if op=1 then .r0 else if op=2 then .u0 else if op=3 then .w0 else if op=4 then .v0 else if op=5 then .tr0 0 else if op=6 then .tw0 0 else if op=7 then .tu0 0 else .d0
def rfK:Q3D RfP:=⟨rfA,Q2I,fun p _=>Y6p p,fun _ p=>Q3t p,fun p _=>Q6K p,fun _ p m=>Q1G (m 0) p, .idle,Q8p,fun _=>True⟩
theorem Y3y(n:Nat)(mode:Int):rfK.Good n mode:=by
 refine⟨fun p=>by cases p<;>exact⟨rfl,rfl,rfl⟩,fun h=>rfl,fun p hp=> ?_,fun p hp=> ?_,fun t p c pr hw=> ?_,fun op h hm=> ?_,fun t op h hm=> ?_,fun t p c pr _ _ hw=> ?_,fun t p c pr v hw hh=> ?_,fun p t s hok ht hw hop hn hmd htk hf hl=> ?_,fun p t c pr st s hok ht hw h0 h3 hn hmd htk hf hl=> ?_,fun p t c pr v s hok ht hm2 hw hpr hn hmd htk hf hl=> ?_⟩
 ·cases p<;>first|rfl|(simp[rfK,Q2I,fr]at hp)
 ·cases p<;>first|(simp[rfK,Q2I,fr]at hp;done)|(simp[rfK,Q2I]at hp;rw[hp];rfl)
 ·cases p<;>simp[rfK,Q3t]at hw<;>simp[rfK,Q2I,fr]
 ·rcases Q2L hm with⟨rfl,rfl|rfl|rfl|rfl⟩|⟨rfl,rfl|rfl⟩|⟨_,_,rfl|rfl⟩<;>simp[rfK,Q8p,Q2I,fr,Q4h,Q0w]
 ·rcases Q2L hm with⟨rfl,rfl|rfl|rfl|rfl⟩|⟨rfl,rfl|rfl⟩|⟨_,_,rfl|rfl⟩<;>simp[rfK,Q8p,Q3t]
 ·cases p<;>simp[rfK,Q3t]at hw<;>omega
 ·cases p<;>simp[rfK,Q3t]at hw<;>simp[rfK,Q2I]at hh
 ·obtain⟨sn,sm,st,f,acc,notes,L⟩:=s
  simp only at hn hmd htk hf hl
  subst hn hmd htk hf
  have e1:=Q6f (n:=n) (L:=L) (c:=0) hl (by decide) (by omega)
  have e2:=fun x=>Q7B (n:=n) (L:=L) (c:=0) (x:=x) hl (by decide) (by omega)
  have e3:=fun x y=>Q4T (n:=n) (L:=L) (c:=0) (x:=x) (y:=y) hl (by decide) (by omega)
  have e4:=fun x y=>Q3Z (n:=n) (L:=L) (c:=0) (x:=x) (y:=y) hl (by decide) (by omega)
  simp only[show(0:Int).toNat=0 from rfl]at e1 e2 e3 e4
  have hx:(rfK.act t p (Q0j n L))=Q1G (Q0j n L 0) p:=rfl
  show X3e rfK n p (Q1G (Q0j n L 0) p) _ _
  generalize Q0j n L 0=x at e1 e2 e3 e4
  cases p<;>simp[rfK,Q3t]at hw<;>simp[rfK,Q2I,Fr.zero]at hop
  case r0=>by_cases hq:Q4U x=true<;>constructor<;>simp[rfK,Q2I,fr,rfA,Y5l,Q1G,e2,hq,Rn.did,Rn.Q0h,Rn.note,Rn.goto,Rn.ends,Rn.Q0d,Rn.fin,Q0e,Q0o,Q0c,Q1f]<;>omega
  case u0=>constructor<;>simp[rfK,Q2I,fr,rfA,Y5k,Q1G,e2,Rn.did,Rn.wake,Rn.note,Rn.goto,Rn.ends,Rn.Q0d,Rn.fin,Q0e,Q0o,Q0c,Q1f]<;>omega
  case v0=>constructor<;>simp[rfK,Q2I,fr,rfA,Y5h,Q1G,e2,Rn.did,Rn.wake,Rn.note,Rn.goto,Rn.ends,Rn.Q0d,Rn.fin,Q0e,Q0o,Q0c,Q1f]<;>omega
  case d0=>constructor<;>simp[rfK,Q2I,fr,rfA,Y5g,Q1G,e2,Rn.did,Rn.wake,Rn.note,Rn.goto,Rn.ends,Rn.Q0d,Rn.fin,Q0e,Q0o,Q0c,Q1f]<;>omega
  case w0=>by_cases hq:x=0<;>constructor<;>simp[rfK,Q2I,fr,rfA,Y5j,Q1G,e1,hq,Rn.did,Rn.Q0h,Rn.note,Rn.goto,Q0e,Q0o,Q0c,Q1f]
  case w1 a=>by_cases hq:x=0<;>constructor<;>simp[rfK,Q2I,fr,rfA,Y5i,Q1G,e3,e4,hq,Rn.did,Rn.Q0h,Rn.note,Rn.goto,Rn.ends,Rn.Q0d,Rn.fin,Q0e,Q0o,Q0c,Q1f]<;>omega
  case tr0 a=>by_cases hq:Q4U x=true<;>constructor<;>simp[rfK,Q2I,fr,rfA,Y6v,Rn.chosen,Rn.refused,Q1G,e1,hq,Rn.did,Rn.Q0h,Rn.note,Rn.goto,Rn.fin,Q0e,Q0o,Q0c,Q1f]
  case tw0 a=>by_cases hq:x=0<;>constructor<;>simp[rfK,Q2I,fr,rfA,Y6t,Rn.chosen,Rn.refused,Q1G,e1,hq,Rn.did,Rn.Q0h,Rn.note,Rn.goto,Rn.fin,Q0e,Q0o,Q0c,Q1f]
  case tu0 a=>by_cases hq:x=1<;>constructor<;>simp[rfK,Q2I,fr,rfA,Y6r,Rn.chosen,Rn.refused,Q1G,e1,hq,Rn.did,Rn.Q0h,Rn.note,Rn.goto,Rn.fin,Q0e,Q0o,Q0c,Q1f]
  case tr1 a=>by_cases hq:x=a<;>constructor<;>simp[rfK,Q2I,fr,rfA,Y6u,Rn.swapped,Q1G,e3,e4,hq,Rn.did,Rn.Q0h,Rn.note,Rn.goto,Rn.ends,Rn.Q0d,Rn.fin,Q0e,Q0o,Q0c,Q1f]<;>omega
  case tw1 a=>by_cases hq:x=0<;>constructor<;>simp[rfK,Q2I,fr,rfA,Y6s,Rn.swapped,Q1G,e3,e4,hq,Rn.did,Rn.Q0h,Rn.note,Rn.goto,Rn.ends,Rn.Q0d,Rn.fin,Q0e,Q0o,Q0c,Q1f]<;>omega
  case tu1 a=>by_cases hq:x=1<;>constructor<;>simp[rfK,Q2I,fr,rfA,Y6q,Rn.swapped,Q1G,e3,e4,hq,Rn.did,Rn.Q0h,Rn.note,Rn.goto,Rn.ends,Rn.Q0d,Rn.fin,Q0e,Q0o,Q0c,Q1f]<;>omega
 ·obtain⟨sn,sm,stk,f,acc,notes,L⟩:=s
  simp only at hn hmd htk hf hl
  subst hn hmd htk hf
  cases p<;>simp[rfK,Q3t]at hw
  case r1 a=>
   obtain⟨rfl,rfl⟩:=hw
   have hd:=fun h=>Q1u (L:=L) (n:=n) (mode:=sm) (task:=t) (st:=st) (c:=0) (p:=fun v=> !Q4U v) h
   simp[rfK,Q2I,fr,rfA,Y3D,Rn.waited,Y6p,Q6K]
   generalize Q0t L n sm t st 0 (fun v=> !Q4U v)=R at hd⊢
   obtain⟨rs,ra,rsn,rd,rw_⟩:=R
   cases rsn<;>cases rd<;>simp[Rn.note,Rn.fin,Q0o,Q0c]at hd⊢ <;>simp[hd,Wk.zero]
  case w2 a=>
   obtain⟨rfl,rfl⟩:=hw
   have hd:=fun h=>Q1u (L:=L) (n:=n) (mode:=sm) (task:=t) (st:=st) (c:=0) (p:=fun v=>v==0) h
   simp[rfK,Q2I,fr,rfA,Y3C,Rn.waited,Y6p,Q6K]
   generalize Q0t L n sm t st 0 (fun v=>v==0)=R at hd⊢
   obtain⟨rs,ra,rsn,rd,rw_⟩:=R
   cases rsn<;>cases rd<;>simp[Rn.goto,Q0o,Q0c]at hd⊢ <;>simp[hd,Wk.zero]
 ·obtain⟨sn,sm,stk,f,acc,notes,L⟩:=s
  simp only at hn hmd htk hf hl
  subst hn hmd htk hf
  cases p<;>simp[rfK,Q3t]at hw
  case r1 a=>
   obtain⟨rfl,rfl⟩:=hw
   have hd:=Q1b (L:=L) (n:=n) (task:=t) (c:=0) (p:=fun v=> !Q4U v) hm2
   simp[rfK,Q2I,fr,rfA,Y3D,Rn.waited,Y6p,Q6K]
   generalize Q0t L n sm t 4 0 (fun v=> !Q4U v)=R at hd⊢
   obtain⟨rs,ra,rsn,rd,rw_⟩:=R
   obtain⟨rfl,rfl⟩:=hd
   cases rsn<;>simp[Rn.note,Rn.fin,Q0o,Q0c,Wk.zero]
  case w2 a=>
   obtain⟨rfl,rfl⟩:=hw
   have hd:=Q1b (L:=L) (n:=n) (task:=t) (c:=0) (p:=fun v=>v==0) hm2
   simp[rfK,Q2I,fr,rfA,Y3C,Rn.waited,Y6p,Q6K]
   generalize Q0t L n sm t 4 0 (fun v=>v==0)=R at hd⊢
   obtain⟨rs,ra,rsn,rd,rw_⟩:=R
   obtain⟨rfl,rfl⟩:=hd
   cases rsn<;>simp[Rn.goto,Q0o,Q0c,Wk.zero]
def rfW:RfP→Int
 |.idle h=>if h=2 then 1 else 0
 |.v0=>1| .d0=>1
 |_=>0
def rfR:RfP→Int
 |.idle h=>if h=1 then 1 else 0
 |.r1 _=>1| .u0=>1| .tu0 _=>1| .tu1 _=>1
 |_=>0
def rfN:RfP→Int
 |.idle h=>if h=1 then 1 else 0
 |.u0=>1| .tu0 _=>1| .tu1 _=>1
 |_=>0
def X4I:RfP→Prop
 |.idle h=>h=0∨h=1∨h=2
 |.tr1 a=>Q4U a=false
 |_=>True
def rfI(n b:Nat)(ps:List RfP)(m:Nat→Int):Prop:=n≤64∧ps.length=n∧m 0=65536*ws rfW ps+ws rfR ps∧ws rfW ps≤1∧(ws rfW ps=1→ws rfN ps=0)∧ ∀p,p∈ps→X4I p
theorem Q7I: ∀x,0≤rfW x:=by intro x;cases x<;>simp[rfW];split<;>omega
theorem X1k: ∀x,0≤rfR x:=by intro x;cases x<;>simp[rfR];split<;>omega
theorem Y3B: ∀x,rfR x≤1:=by intro x;cases x<;>simp[rfR];split<;>omega
theorem X7o: ∀x,0≤rfN x:=by intro x;cases x<;>simp[rfN];split<;>omega
theorem Y6o: ∀x,rfN x≤rfR x:=by intro x;cases x<;>simp[rfN,rfR]
theorem X3D{n b:Nat}{ps:List RfP}{m:Nat→Int}(H:rfI n b ps m):Q4U (m 0)=(ws rfW ps==1):=by
 obtain⟨h1,h2,h3,h4,h5,h6⟩:=H
 have a1:=Q1w Q7I ps
 have a2:=Q1w X1k ps
 have a3:=Q8b Y3B ps
 rw[X0r _ (by omega)]
 rcases(show ws rfW ps=0∨ws rfW ps=1 by omega)with h|h
 ·rw[h]
  have:m 0/65536%2=0:=by omega
  rw[this];rfl
 ·rw[h]
  have:m 0/65536%2=1:=by omega
  rw[this];rfl
theorem X3z{ps:List RfP}{i:Nat}{q:RfP}(h: ∀p,p∈ps→X4I p)(hq:X4I q): ∀p,p∈ps.set i q→X4I p:=fun p hp=>by
 rcases List.mem_or_eq_of_mem_set hp with h1|h1
 ·exact h p h1
 ·rw[h1];exact hq
theorem X7n{ps:List RfP}{i n:Nat}(h: ∀p,p∈ps→X4I p)(hl:ps.length=n)(hi:i<n):X4I (ps.getD i (rfK.idle 0)):=h _ (by simp[List.getD,hl,hi])
theorem Y0v(n:Nat):rfK.Q5D n (rfI n):=by
 refine⟨fun b ps m H=>H,fun b ps m i _ _ _=>trivial,fun b ps m i op h H hi hl hp hm=> ?_,fun b ps m i H hi hl hw hop=> ?_,fun b ps m i c pr H hi hl hw hpr=> ?_,fun b ps m i j c pr H hi hj hij hl hw hop hwj hpr=> ?_⟩
 ·obtain⟨h1,h2,h3,h4,h5,h6⟩:=H
  have hs:=fun f=>Q0l (f:=f) (d:=rfK.idle 0) (x:=rfK.start op h) (l:=ps) (i:=i) (by omega)
  have e1:=hs rfW
  have e2:=hs rfR
  have e3:=hs rfN
  rw[hp]at e1 e2 e3
  have hh:=X7n h6 hl hi
  rw[hp]at hh
  have key:rfW (rfK.start op h)=rfW (rfK.idle h)∧rfR (rfK.start op h)=rfR (rfK.idle h)∧rfN (rfK.start op h)=rfN (rfK.idle h)∧X4I (rfK.start op h):=by
   rcases Q2L hm with⟨rfl,rfl|rfl|rfl|rfl⟩|⟨rfl,rfl|rfl⟩|⟨g1,g2,rfl|rfl⟩<;>simp[rfK,X4I]at hh<;>simp[rfK,Q8p,rfW,rfR,rfN,X4I]<;>omega
  obtain⟨k1,k2,k3,k4⟩:=key
  rw[k1]at e1
  rw[k2]at e2
  rw[k3]at e3
  exact⟨h1,by simpa using h2,by rw[e1,e2];omega,by omega,fun h=>by omega,X3z h6 k4⟩
 ·have hin:=X3D H
  obtain⟨h1,h2,h3,h4,h5,h6⟩:=H
  have hs:=fun f x=>Q0l (f:=f) (d:=rfK.idle 0) (x:=x) (l:=ps) (i:=i) (by omega)
  have b1:=Q0m (d:=rfK.idle 0) Q7I (l:=ps) (i:=i) (by omega)
  have b2:=Q0m (d:=rfK.idle 0) X1k (l:=ps) (i:=i) (by omega)
  have b3:=Q0m (d:=rfK.idle 0) X7o (l:=ps) (i:=i) (by omega)
  have a1:=Q1w Q7I ps
  have a2:=Q1w X1k ps
  have a3:=Q8b Y3B ps
  have a4:=Q1w X7o ps
  have a5:=Y5O Y6o ps
  have hh:=X7n h6 hl hi
  have hact:rfK.act i (ps.getD i (rfK.idle 0)) m=Q1G (m 0) (ps.getD i (rfK.idle 0)):=rfl
  rw[hact]
  generalize ps.getD i (rfK.idle 0)=p at*
  have hset: ∀(p':RfP) (w:Option (Nat×Int)),(written m w 0=65536*ws rfW (ps.set i p')+ws rfR (ps.set i p'))→ws rfW (ps.set i p')≤1→(ws rfW (ps.set i p')=1→ws rfN (ps.set i p')=0)→X4I p'→rfI n b (ps.set i p') (written m w):=
   fun p' w g1 g2 g3 g4=>⟨h1,by simpa using h2,g1,g2,g3,X3z h6 g4⟩
  have hwr: ∀v,written m (some (0,v)) 0=v:=fun v=>by simp[written,upd]
  have hwn:written m none 0=m 0:=rfl
  have hin2:Q4U (m 0)=true→ws rfW ps=1:=fun h=>by rw[h]at hin;simpa using hin.symm
  have hin3:Q4U (m 0)=false→ws rfW ps≠1:=fun h=>by rw[h]at hin;simpa using hin.symm
  cases p<;>simp[rfK,Q3t]at hw<;>simp[rfK,Q2I,Fr.zero]at hop<;>simp only[rfW,rfR,rfN]at hs b1 b2 b3<;>simp only[X4I]at hh
  case r0=>
   cases hq:Q4U (m 0)with
   |true=>
    have hi2:=hin2 hq
    have g1:=hs rfW (.r1 (m 0));have g2:=hs rfR (.r1 (m 0));have g3:=hs rfN (.r1 (m 0))
    simp[rfW,rfR,rfN]at g1 g2 g3
    simp only[Q1G,hq,if_true]
    exact hset _ _ (by rw[hwr];omega) (by omega) (by omega) trivial
   |false=>
    have hi3:=hin3 hq
    have g1:=hs rfW (.idle 1);have g2:=hs rfR (.idle 1);have g3:=hs rfN (.idle 1)
    simp[rfW,rfR,rfN]at g1 g2 g3
    simp only[Q1G,hq,Bool.false_eq_true,if_false]
    exact hset _ _ (by rw[hwr];omega) (by omega) (by omega) (Or.inr (Or.inl rfl))
  case u0=>
   have g1:=hs rfW (.idle 0);have g2:=hs rfR (.idle 0);have g3:=hs rfN (.idle 0)
   simp[rfW,rfR,rfN]at g1 g2 g3
   simp only[Q1G]
   exact hset _ _ (by rw[hwr];omega) (by omega) (by omega) (Or.inl rfl)
  case v0=>
   have g1:=hs rfW (.idle 0);have g2:=hs rfR (.idle 0);have g3:=hs rfN (.idle 0)
   simp[rfW,rfR,rfN]at g1 g2 g3
   simp only[Q1G]
   exact hset _ _ (by rw[hwr];omega) (by omega) (by omega) (Or.inl rfl)
  case d0=>
   have g1:=hs rfW (.idle 1);have g2:=hs rfR (.idle 1);have g3:=hs rfN (.idle 1)
   simp[rfW,rfR,rfN]at g1 g2 g3
   simp only[Q1G]
   exact hset _ _ (by rw[hwr];omega) (by omega) (by omega) (Or.inr (Or.inl rfl))
  case w0=>
   by_cases hq:m 0=0
   ·skip
    have g1:=hs rfW (.w1 (m 0));have g2:=hs rfR (.w1 (m 0));have g3:=hs rfN (.w1 (m 0))
    simp[rfW,rfR,rfN]at g1 g2 g3
    simp only[Q1G,if_pos hq]
    exact hset _ _ (by rw[hwn];omega) (by omega) (by omega) trivial
   ·skip
    have g1:=hs rfW (.w2 (m 0));have g2:=hs rfR (.w2 (m 0));have g3:=hs rfN (.w2 (m 0))
    simp[rfW,rfR,rfN]at g1 g2 g3
    simp only[Q1G,if_neg hq]
    exact hset _ _ (by rw[hwn];omega) (by omega) (by omega) trivial
  case w1 a=>
   by_cases hq:m 0=0
   ·skip
    have g1:=hs rfW (.idle 2);have g2:=hs rfR (.idle 2);have g3:=hs rfN (.idle 2)
    simp[rfW,rfR,rfN]at g1 g2 g3
    simp only[Q1G,if_pos hq]
    exact hset _ _ (by rw[hwr];omega) (by omega) (by omega) (Or.inr (Or.inr rfl))
   ·skip
    have g1:=hs rfW (.w2 a);have g2:=hs rfR (.w2 a);have g3:=hs rfN (.w2 a)
    simp[rfW,rfR,rfN]at g1 g2 g3
    simp only[Q1G,if_neg hq]
    exact hset _ _ (by rw[hwn];omega) (by omega) (by omega) trivial
  case tr0 a=>
   cases hq:Q4U (m 0)with
   |true=>
    have hi2:=hin2 hq
    have g1:=hs rfW (.idle 0);have g2:=hs rfR (.idle 0);have g3:=hs rfN (.idle 0)
    simp[rfW,rfR,rfN]at g1 g2 g3
    simp only[Q1G,hq,if_true]
    exact hset _ _ (by rw[hwn];omega) (by omega) (by omega) (Or.inl rfl)
   |false=>
    have hi3:=hin3 hq
    have g1:=hs rfW (.tr1 (m 0));have g2:=hs rfR (.tr1 (m 0));have g3:=hs rfN (.tr1 (m 0))
    simp[rfW,rfR,rfN]at g1 g2 g3
    simp only[Q1G,hq,Bool.false_eq_true,if_false]
    exact hset _ _ (by rw[hwn];omega) (by omega) (by omega) hq
  case tr1 a=>
   by_cases hq:m 0=a
   ·skip
    have hi3:=hin3 (by rw[hq];exact hh)
    have g1:=hs rfW (.idle 1);have g2:=hs rfR (.idle 1);have g3:=hs rfN (.idle 1)
    simp[rfW,rfR,rfN]at g1 g2 g3
    simp only[Q1G,if_pos hq]
    exact hset _ _ (by rw[hwr];omega) (by omega) (by omega) (Or.inr (Or.inl rfl))
   ·skip
    have g1:=hs rfW (.tr0 a);have g2:=hs rfR (.tr0 a);have g3:=hs rfN (.tr0 a)
    simp[rfW,rfR,rfN]at g1 g2 g3
    simp only[Q1G,if_neg hq]
    exact hset _ _ (by rw[hwn];omega) (by omega) (by omega) trivial
  case tw0 a=>
   by_cases hq:m 0=0
   ·skip
    have g1:=hs rfW (.tw1 (m 0));have g2:=hs rfR (.tw1 (m 0));have g3:=hs rfN (.tw1 (m 0))
    simp[rfW,rfR,rfN]at g1 g2 g3
    simp only[Q1G,if_pos hq]
    exact hset _ _ (by rw[hwn];omega) (by omega) (by omega) trivial
   ·skip
    have g1:=hs rfW (.idle 0);have g2:=hs rfR (.idle 0);have g3:=hs rfN (.idle 0)
    simp[rfW,rfR,rfN]at g1 g2 g3
    simp only[Q1G,if_neg hq]
    exact hset _ _ (by rw[hwn];omega) (by omega) (by omega) (Or.inl rfl)
  case tw1 a=>
   by_cases hq:m 0=0
   ·skip
    have g1:=hs rfW (.idle 2);have g2:=hs rfR (.idle 2);have g3:=hs rfN (.idle 2)
    simp[rfW,rfR,rfN]at g1 g2 g3
    simp only[Q1G,if_pos hq]
    exact hset _ _ (by rw[hwr];omega) (by omega) (by omega) (Or.inr (Or.inr rfl))
   ·skip
    have g1:=hs rfW (.tw0 a);have g2:=hs rfR (.tw0 a);have g3:=hs rfN (.tw0 a)
    simp[rfW,rfR,rfN]at g1 g2 g3
    simp only[Q1G,if_neg hq]
    exact hset _ _ (by rw[hwn];omega) (by omega) (by omega) trivial
  case tu0 a=>
   by_cases hq:m 0=1
   ·skip
    have g1:=hs rfW (.tu1 (m 0));have g2:=hs rfR (.tu1 (m 0));have g3:=hs rfN (.tu1 (m 0))
    simp[rfW,rfR,rfN]at g1 g2 g3
    simp only[Q1G,if_pos hq]
    exact hset _ _ (by rw[hwn];omega) (by omega) (by omega) trivial
   ·skip
    have g1:=hs rfW (.idle 1);have g2:=hs rfR (.idle 1);have g3:=hs rfN (.idle 1)
    simp[rfW,rfR,rfN]at g1 g2 g3
    simp only[Q1G,if_neg hq]
    exact hset _ _ (by rw[hwn];omega) (by omega) (by omega) (Or.inr (Or.inl rfl))
  case tu1 a=>
   by_cases hq:m 0=1
   ·skip
    have g1:=hs rfW (.idle 2);have g2:=hs rfR (.idle 2);have g3:=hs rfN (.idle 2)
    simp[rfW,rfR,rfN]at g1 g2 g3
    simp only[Q1G,if_pos hq]
    exact hset _ _ (by rw[hwr];omega) (by omega) (by omega) (Or.inr (Or.inr rfl))
   ·skip
    have g1:=hs rfW (.tu0 a);have g2:=hs rfR (.tu0 a);have g3:=hs rfN (.tu0 a)
    simp[rfW,rfR,rfN]at g1 g2 g3
    simp only[Q1G,if_neg hq]
    exact hset _ _ (by rw[hwn];omega) (by omega) (by omega) trivial
 ·have hin:=X3D H
  obtain⟨h1,h2,h3,h4,h5,h6⟩:=H
  have hs:=fun f x=>Q0l (f:=f) (d:=rfK.idle 0) (x:=x) (l:=ps) (i:=i) (by omega)
  have a1:=Q1w Q7I ps
  have hpost:rfK.post (ps.getD i (rfK.idle 0)) (m c)=Q6K (ps.getD i (rfK.idle 0)):=rfl
  rw[hpost]
  generalize ps.getD i (rfK.idle 0)=p at*
  cases p<;>simp[rfK,Q3t]at hw
  case r1 a=>
   obtain⟨rfl,rfl⟩:=hw
   have hq:Q4U (m 0)=false:=by simpa using hpr
   rw[hq]at hin
   have hi3:ws rfW ps≠1:=by simpa using hin.symm
   have g1:=hs rfW (.idle 1);have g2:=hs rfR (.idle 1);have g3:=hs rfN (.idle 1)
   simp[rfW,rfR,rfN]at g1 g2 g3
   exact⟨h1,by simpa using h2,by show m 0=65536*ws rfW (ps.set i (.idle 1))+ws rfR (ps.set i (.idle 1));omega,by show ws rfW (ps.set i (.idle 1))≤1;omega,fun h=>by have h:ws rfW (ps.set i (.idle 1))=1:=h;omega,X3z h6 (Or.inr (Or.inl rfl))⟩
  case w2 a=>
   have g1:=hs rfW (.w1 a);have g2:=hs rfR (.w1 a);have g3:=hs rfN (.w1 a)
   simp[rfW,rfR,rfN]at g1 g2 g3
   exact⟨h1,by simpa using h2,by show m 0=65536*ws rfW (ps.set i (.w1 a))+ws rfR (ps.set i (.w1 a));omega,by show ws rfW (ps.set i (.w1 a))≤1;omega,fun h=>by have h:ws rfW (ps.set i (.w1 a))=1:=h;show ws rfN (ps.set i (.w1 a))=0;omega,X3z h6 trivial⟩
 ·have hin:=X3D H
  obtain⟨h1,h2,h3,h4,h5,h6⟩:=H
  have b1:=Q0m (d:=rfK.idle 0) Q7I (l:=ps) (i:=i) (by omega)
  have b2:=Q0m (d:=rfK.idle 0) X1k (l:=ps) (i:=i) (by omega)
  have a1:=Q1w Q7I ps
  have a2:=Q1w X1k ps
  have a3:=Q8b Y3B ps
  have hh:=X7n h6 hl hi
  have hact:rfK.act i (ps.getD i (rfK.idle 0)) m=Q1G (m 0) (ps.getD i (rfK.idle 0)):=rfl
  rw[hact]at hpr⊢
  have hc:c=0∧(pr=(fun v=> !Q4U v)∨pr=(fun v=>v==0)):=by
   generalize ps.getD j (rfK.idle 0)=q at hwj
   cases q<;>simp[rfK,Q3t]at hwj
   case r1=>exact⟨hwj.1.symm,Or.inl hwj.2.symm⟩
   case w2=>exact⟨hwj.1.symm,Or.inr hwj.2.symm⟩
  obtain⟨rfl,hprs⟩:=hc
  generalize ps.getD i (rfK.idle 0)=p at*
  have hwr: ∀v,written m (some (0,v)) 0=v:=fun v=>by simp[written,upd]
  have hx:0≤m 0∧m 0<4294967296:=by omega
  have keep:(written m (Q1G (m 0) p).2.1 0=m 0)→pr (m 0)=true∨(Q1G (m 0) p).2.2=some 0:=fun e=>Or.inl (by rw[←e];exact hpr)
  have no: ∀v,written m (Q1G (m 0) p).2.1 0=v→(Q4U v=true∨(Q4U (m 0)=false∧Q4U v=false))→v≠0→pr (m 0)=true∨(Q1G (m 0) p).2.2=some 0:=fun v e hv hv0=>by
   rw[e]at hpr
   rcases hprs with rfl|rfl
   ·rcases hv with hv|⟨hv,_⟩
    ·simp[hv]at hpr
    ·exact Or.inl (by simp[hv])
   ·simp at hpr
    exact absurd hpr hv0
  have w16:Q4U 65536=true:=by decide+kernel
  cases p<;>simp[rfK,Q3t]at hw<;>simp[rfK,Q2I,Fr.zero]at hop<;>simp only[rfW,rfR]at b1 b2<;>simp only[X4I]at hh
  case r0=>
   refine no _ (hwr _) ?_ (by omega)
   rw[X0r _ hx,X0r _ (by omega)]
   rcases(show ws rfW ps=0∨ws rfW ps=1 by omega)with h|h
   ·right
    have g1:m 0/65536%2=0:=by omega
    have g2:(m 0+1)%4294967296/65536%2=0:=by omega
    rw[g1,g2];decide
   ·left
    have g2:(m 0+1)%4294967296/65536%2=1:=by omega
    rw[g2];decide
  case u0=>exact Or.inr rfl
  case v0=>exact Or.inr rfl
  case d0=>exact Or.inr rfl
  case w0=>exact keep rfl
  case w1 a=>
   by_cases hq:m 0=0
   ·exact no 65536 (by simp only[Q1G,if_pos hq];exact hwr _) (Or.inl w16) (by decide)
   ·exact keep (by simp only[Q1G,if_neg hq];rfl)
  case tr0 a=>exact keep rfl
  case tr1 a=>
   by_cases hq:m 0=a
   ·subst hq
    refine no ((m 0+1)%4294967296) (by simp only[Q1G,if_true];exact hwr _) (Or.inr ⟨hh,?_⟩) (by omega)
    have hw1:ws rfW ps≠1:=by rw[hh]at hin;simpa using hin.symm
    rw[X0r _ (by omega)]
    have g2:(m 0+1)%4294967296/65536%2=0:=by omega
    rw[g2];decide
   ·exact keep (by simp only[Q1G,if_neg hq];rfl)
  case tw0 a=>exact keep rfl
  case tw1 a=>
   by_cases hq:m 0=0
   ·exact no 65536 (by simp only[Q1G,if_pos hq];exact hwr _) (Or.inl w16) (by decide)
   ·exact keep (by simp only[Q1G,if_neg hq];rfl)
  case tu0 a=>exact keep rfl
  case tu1 a=>
   by_cases hq:m 0=1
   ·exact no 65536 (by simp only[Q1G,if_pos hq];exact hwr _) (Or.inl w16) (by decide)
   ·exact keep (by simp only[Q1G,if_neg hq];rfl)
end Go.Proofs.YthnimpkoidablaaGreat.Z
