import Derived.Test.YthnimpkoidablaaGreatZR07
set_option linter.unusedVariables false
set_option linter.unusedSimpArgs false
namespace Go.Proofs.YthnimpkoidablaaGreat.Z
open Go.RowKit
inductive FqP
 |idle (h:Int)
 |r0
 |r1
 |r2
 |r3 (a:Int)
 |r4 (a:Int)
 |r5 (a:Int)
 |r6 (a:Int)
 |r7 (a:Int)
 |r8 (a:Int)
 |r9 (a:Int)
 |q0 (a:Int)
 |q1 (a:Int)
 |q5 (a:Int)
 |q6 (a:Int)
 |q7 (a:Int)
 |q8 (a:Int)
 |q9 (a:Int)
 |w0
 |w1
 |w2
 |w3 (a:Int)
 |w4 (a:Int)
 |w5 (a:Int)
 |v0
 |v1 (a:Int)
 |v2 (a:Int)
 |v3 (a:Int)
 |t0 (a:Int)
 |t1 (a:Int)
 |t2 (a:Int)
 |t6 (a:Int)
 |t7 (a:Int)
 |t8 (a:Int)
 |t9 (a:Int)
 |x0 (a:Int)
 |x1 (a:Int)
 |x2 (a:Int)
 |x3 (a:Int)
 |x6 (a:Int)
 |x7 (a:Int)
 |x8 (a:Int)
 |x9 (a:Int)
 |u0
 |d0
 |d1 (a:Int)
 |d2 (a:Int)
 |d3 (a:Int)
 |d4 (a:Int)
def Q4v:FqP→Mk
 |.idle h=>if h=2 then .hd else .out
 |.r0=> .out
 |.r1=> .nx
 |.r2=> .nb
 |.r3 a=> .e3 a
 |.r4 _=> .e4
 |.r5 _=> .hd
 |.r6 _=> .hd
 |.r7 _=> .g1
 |.r8 _=> .g2
 |.r9 a=> .g3 a
 |.q0 _=> .out
 |.q1 _=> .nx
 |.q5 _=> .hd
 |.q6 _=> .hd
 |.q7 _=> .g1
 |.q8 _=> .g2
 |.q9 a=> .g3 a
 |.w0=> .out
 |.w1=> .nx
 |.w2=> .nb
 |.w3 a=> .e3 a
 |.w4 _=> .e4
 |.w5 _=> .hd
 |.v0=> .hd
 |.v1 _=> .g1
 |.v2 _=> .g2
 |.v3 a=> .g3 a
 |.t0 _=> .out
 |.t1 _=> .nx
 |.t2 _=> .hd
 |.t6 _=> .hd
 |.t7 _=> .g1
 |.t8 _=> .g2
 |.t9 a=> .g3 a
 |.x0 _=> .out
 |.x1 _=> .nx
 |.x2 _=> .hd
 |.x3 _=> .hd
 |.x6 _=> .hd
 |.x7 _=> .g1
 |.x8 _=> .g2
 |.x9 a=> .g3 a
 |.u0=> .out
 |.d0=> .hd
 |.d1 _=> .hd
 |.d2 _=> .g1
 |.d3 _=> .g2
 |.d4 a=> .g3 a
def Q2A:FqP→Int
 |.idle h=>if h=1 then 1 else 0
 |.r6 _=>1
 |.r7 _=>1
 |.r8 _=>1
 |.r9 _=>1
 |.q6 _=>1
 |.q7 _=>1
 |.q8 _=>1
 |.q9 _=>1
 |.x0 _=>1
 |.x1 _=>1
 |.x2 _=>1
 |.x3 _=>1
 |.x6 _=>1
 |.x7 _=>1
 |.x8 _=>1
 |.x9 _=>1
 |.u0=>1
 |.d1 _=>1
 |.d2 _=>1
 |.d3 _=>1
 |.d4 _=>1
 |_=>0
theorem Q8L: ∀x,0≤Q2A x:=by intro x;cases x<;>simp[Q2A];split<;>omega
theorem Y7e: ∀x,Q2A x≤1:=by intro x;cases x<;>simp[Q2A];split<;>omega
def X9I(R:Int):FqP→Prop
 |.idle h=>h=0∨h=1∨(h=2∧R=0)
 |.d0=>R=0
 |.x3 _=>R=1
 |_=>True
def fqI(n b:Nat)(ps:List FqP)(m:Nat→Int):Prop:=1≤n∧n≤64∧ps.length=n∧QI n 0 Q4v (.idle 0) ps m∧m 1=ws Q2A ps∧ ∀j,j<n→X9I (m 1) (ps.getD j (.idle 0))
section
variable {n b:Nat}{ps:List FqP}{m m':Nat→Int}{i:Nat}{p p':FqP}
theorem fqI.few(H:fqI n b ps m):0≤m 1∧m 1≤64:=by
 obtain⟨h1,h2,hl,H0,hR,ha⟩:=H
 have a1:=Q1w Q8L ps
 have a2:=Q8b Y7e ps
 omega
end
end Go.Proofs.YthnimpkoidablaaGreat.Z
