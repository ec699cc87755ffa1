import Derived.Test.YthnimpkoidablaaGreatZA00
set_option linter.unusedVariables false
set_option linter.unusedSimpArgs false
set_option maxHeartbeats 800000
namespace Go.Proofs.YthnimpkoidablaaGreat.Z
open Go.RowKit
theorem X2g(L:List Int):(Q4q L).length=L.length:=by simp[Q4q]
theorem X3m(L:List Int): ∀u∈Q4q L,u.oneCell'=true:=X1D
theorem X2B{w:World}{base e:Nat}{v:Value}{L:List Int}(h:w.ownsRow base e 1 v L.length (Q4q L))(hw:Words L)(hb:base≤w.heap.size)(T:TypeId):
 ∃a,Mem (w.alloc (.cells #[v] T)) w.heap.size a L∧base≤a:=by
 rcases h.2 with⟨rfl,h0⟩|⟨g,cap,cur,rfl,hg,hh,hc,hm,hs,ht⟩
 ·refine⟨w.heap.size+1,⟨by omega,hw,⟨none,0,?_,by omega,by omega,fun h=>by omega⟩,fun h=>by omega⟩,by omega⟩
  rw[h0]
  exact Blk.new _ _ _
 ·have hlt:g<w.heap.size:=by
   rcases Nat.lt_or_ge g w.heap.size with h'|h'
   ·exact h'
   ·simp[Array.getElem?_eq_none h']at hh
  refine⟨g,⟨by omega,hw,⟨_,cap,Blk.new _ _ _,hc,by unfold maxLen at hm;omega,fun _=>rfl⟩,fun _=>⟨cur.toList.drop (L.length*1),?_⟩⟩,hg⟩
  refine Blk.alloc ⟨e,?_⟩ _
  rw[hh,←ht,List.take_append_drop]
def X9D(w:World)(L:List Int)(e:Ending)(w':World):Prop:=
 ∃m a,e= .returned (.tuple #[.pointer (some ⟨m,0,none⟩), .int .i64 0])∧Mem w' m a L∧w.heap.size≤m∧w.heap.size≤a∧Touch [] w w'
theorem Q6V{w:World}{A:Option Addr}{n:Nat}{L:List Int}(h:Rd w 1 A n (Q4q L)):L.length=n:=by
 have:=h.1
 rw[X2g]at this
 omega
theorem X8T{A:Option Addr}{n c:Nat}{L:List Int}(w:World)(hr:Rd w 1 A n (Q4q L))(hw:Words L):
 Calls Tryz.prog 48 #[.slice A n c] w (X9D w L):=by
 have hl:=Q6V hr
 subst hl
 have h1024:=hw.1
 have hle: ¬((1024:Int)<(L.length:Int)):=by omega
 go_enter Tryz.func48,Tryz.ntmps48
 go_wp2_with (go_at_call 66;refine(clone_any _ hr (X3m L) (by omega)).mono ?_;rintro e w' ⟨v,rfl,hown,hb⟩;obtain⟨p,cap,rfl⟩:=Q2p hown)
 go_ret2
 obtain⟨a,hm,ha⟩:=X2B hown hw hb.size 127
 exact⟨w'.heap.size,a,rfl,hm,hb.size,ha,(Below.X2h hb).alloc _⟩
structure Row(w:World)(p:Option Addr)(g:Nat)(L:List Int):Prop where
 words:Words L
 at_:0<L.length→p=some ⟨g,0,none⟩
 body:0<L.length→ ∃rest,Blk w g ((Q4q L)++rest).toArray
theorem Row.lt{w:World}{p:Option Addr}{g:Nat}{L:List Int}(h:Row w p g L):0<L.length→g<w.heap.size:=fun h0=>by
 obtain⟨rest,hr⟩:=h.body h0
 exact hr.lt
theorem Row.touch{w w':World}{p:Option Addr}{g:Nat}{L:List Int}{S:List Nat}(h:Row w p g L)(t:Touch S w w')(hg:g∉S):Row w' p g L:=
 ⟨h.words,h.at_,fun h0=>by
  obtain⟨rest,hr⟩:=h.body h0
  exact⟨rest,t.blk hr hg⟩⟩
theorem Row.set{w:World}{p:Option Addr}{g:Nat}{L:List Int}(h:Row w p g L)(i:Nat)(hi:i<L.length)(v:Int)(h0:0≤v)(h1:v<4294967296):
 Row (w.setCell ⟨g,i,none⟩ (.int .u32 v)) p g (L.set i v):=by
 obtain⟨rest,hr⟩:=h.body (by omega)
 exact⟨h.words.set i v h0 h1,by simpa using h.at_,fun _=>⟨rest,(hr.set i _).eq (X3l hi rest v)⟩⟩
theorem Row.rd{w:World}{p:Option Addr}{g:Nat}{L:List Int}(h:Row w p g L):Rd w 1 p L.length (Q4q L):=by
 refine⟨by simp[Q4q],fun h0=> ?_⟩
 obtain⟨rest,hr⟩:=h.body h0
 refine⟨_,h.at_ h0,hr.lt,fun j u hj=> ?_⟩
 rw[Addr.add_lit]
 have hj':j<(Q4q L).length:=(List.getElem?_eq_some_iff.1 hj).1
 simp only[Nat.zero_add]
 rw[hr.cell,←hj]
 simp[List.getElem?_append,hj']
theorem Row.rd'{w:World}{p:Option Addr}{g n:Nat}{L:List Int}(h:Row w p g L)(hn:L.length=n):Rd w 1 p n (Q4q L):=hn▸h.rd
theorem Row.Q5R{w:World}{base e:Nat}{p:Option Addr}{cap:Nat}{L:List Int}(h:w.ownsRow base e 1 (.slice p L.length cap) L.length (Q4q L))(hw:Words L): ∃g,Row w p g L∧base≤g:=by
 rcases h.2 with⟨hv,h0⟩|⟨g,cap',cur,hv,hg,hh,hc,hm,hs,ht⟩
 ·exact⟨base,⟨hw,fun h=>by omega,fun h=>by omega⟩,Nat.le_refl _⟩
 ·simp only[Value.slice.injEq]at hv
  obtain⟨rfl,_,rfl⟩:=hv
  exact⟨g,⟨hw,fun _=>rfl,fun _=>⟨cur.toList.drop (L.length*1),e,by rw[hh,←ht,List.take_append_drop]⟩⟩,hg⟩
theorem Q2k(L:List Int)(b:Acc):(doA L b).2.2.length=L.length:=by
 unfold doA
 split
 ·dsimp only
  split
  ·rfl
  ·split
   ·simp
   ·split
    ·dsimp only;split<;>simp
    ·split<;>simp
 ·rfl
theorem Row.Q3o{w:World}{p:Option Addr}{g:Nat}{L:List Int}(h:Row w p g L)(c v:Int)(h0:0≤c)(h1:c<L.length)(hv:L.getD c.toNat 0=v):
 p=some ⟨g,0,none⟩∧w.cell? ⟨g,c.toNat,none⟩=some (.int .u32 v)∧w.frozen? ⟨g,c.toNat,none⟩=false∧g<w.heap.size∧g≠w.heap.size∧g≠w.heap.size+1:=by
 obtain⟨rest,hr⟩:=h.body (by omega)
 have hg:=hr.lt
 exact⟨h.at_ (by omega),by rw[hr.cell,X3n (by omega),hv],hr.free _,hg,by omega,by omega⟩
theorem Q1e{P:Program}{f:FuncId}{args:Array Value}{W0:World}{R:Ending→World→Prop}{Facts:World→Prop}(h: ∀W,Facts W→Calls P f args W R)(h0:Facts W0):Calls P f args W0 R:=h _ h0
theorem Q1q{P:Program}{c:Code}{Q:Exit→Act→World→Prop}{a:Act}{W0:World}{Facts:World→Prop}(h: ∀W,Facts W→c.wp P Q a W)(h0:Facts W0):c.wp P Q a W0:=h _ h0
theorem Q4m{w:World}{b:Nat}{c0 c1 c2 c3 c4 v0 v1 v2 v3 v4:Value}(h:Blk w b #[c0,c1,c2,c3,c4]):
 Blk (((((w.setCell ⟨b,0,none⟩ v0).setCell ⟨b,1,none⟩ v1).setCell ⟨b,2,none⟩ v2).setCell ⟨b,3,none⟩ v3).setCell ⟨b,4,none⟩ v4) b #[v0,v1,v2,v3,v4]:=
 (((((h.set 0 v0).set 1 v1).set 2 v2).set 3 v3).set 4 v4).eq rfl
theorem Q1J{w:World}{b:Nat}{v0 v1 v2 v3 v4:Value}:
 Touch [b] w (((((w.setCell ⟨b,0,none⟩ v0).setCell ⟨b,1,none⟩ v1).setCell ⟨b,2,none⟩ v2).setCell ⟨b,3,none⟩ v3).setCell ⟨b,4,none⟩ v4):=
 ((((((Touch.refl [b] w).set (p:=⟨b,0,none⟩) (by simp) v0).set (p:=⟨b,1,none⟩) (by simp) v1).set (p:=⟨b,2,none⟩) (by simp) v2).set (p:=⟨b,3,none⟩) (by simp) v3).set (p:=⟨b,4,none⟩) (by simp) v4)
theorem Row.new{w0 w2 wf:World}{p:Option Addr}{g:Nat}{L0 L2:List Int}{S:List Nat}(h0:Row w0 p g L0)(h:Row w2 p g L2)(hl:L2.length=L0.length)(t:Touch S w2 wf)(hS: ∀k,k∈S→w0.heap.size≤k):Row wf p g L2:=
 ⟨h.words,h.at_,fun hp=>by
  obtain⟨rest,hr⟩:=h.body hp
  exact⟨rest,t.blk hr (fun hm=>by have:=hS _ hm;have:=h0.lt (by omega);omega)⟩⟩
theorem Mem.new{w0 w2 wf:World}{m a:Nat}{L0 L2:List Int}{S:List Nat}(h0:Mem w0 m a L0)(h:Mem w2 m a L2)(hl:L2.length=L0.length)(t:Touch S w2 wf)(hS: ∀k,k∈S→w0.heap.size≤k):Mem wf m a L2:=by
 obtain⟨p,cap,hb,r⟩:=h.head
 have hlt:=h0.lt
 refine⟨h.ne,h.words,⟨p,cap,t.blk hb (fun hm=>by have:=hS _ hm;omega),r⟩,fun hp=> ?_⟩
 obtain⟨rest,hr⟩:=h.body hp
 exact⟨rest,t.blk hr (fun hm=>by have:=hS _ hm;have:=hlt.2 (by omega);omega)⟩
inductive Res where
 |blk (b:Nat) (cs:Array Value)
 |mem (m a:Nat) (L:List Int)
 |row (p:Option Addr) (g cap:Nat) (L:List Int)
 |own (e size:Nat) (v:Value) (n:Nat) (xs:List Value)
def Res.foot:Res→List Nat
 |.blk b _=>[b]
 |.mem m a L=>m::lv a L
 |.row _ g _ L=>lv g L
 |.own _ _ v _ _=>v.ownBlock.toList
def Res.holds(w:World):Res→Prop
 |.blk b cs=>Blk w b cs
 |.mem m a L=>Mem w m a L
 |.row p g cap L=>Row w p g L∧L.length≤cap∧cap≤9223372036854775807
 |.own e size v n xs=>w.ownsRow 0 e size v n xs
theorem Res.lt{w:World}{r:Res}(h:r.holds w): ∀k,k∈r.foot→k<w.heap.size:=by
 intro k hk
 cases r with
 |blk b cs=>simp only[Res.foot,List.mem_singleton]at hk;subst hk;exact Blk.lt h
 |mem m a L=>
  simp only[Res.foot,List.mem_cons]at hk
  have:=Mem.lt h
  rcases hk with rfl|hk
  ·exact this.1
  ·obtain⟨rfl,h0⟩:=Q6S hk;exact this.2 h0
 |row p g cap L=>
  obtain⟨rfl,h0⟩:=Q6S hk
  exact h.1.lt h0
 |own e size v n xs=>
  rcases owns_block h with rfl|⟨g,c,rfl,_,hg,_⟩
  ·simp[Res.foot,Value.ownBlock]at hk
  ·simp[Res.foot,Value.ownBlock]at hk;omega
theorem Res.keep{w w':World}{r:Res}{S:List Nat}(h:r.holds w)(t:Touch S w w')(hs: ∀k,k∈r.foot→k∉S):r.holds w':=by
 cases r with
 |blk b cs=>exact t.blk h (hs b (by simp[Res.foot]))
 |mem m a L=>
  obtain⟨p,cap,hb,r⟩:=Mem.head h
  refine⟨Mem.ne h,Mem.words h,⟨p,cap,t.blk hb (hs m (by simp[Res.foot])),r⟩,fun h0=> ?_⟩
  obtain⟨rest,hr⟩:=Mem.body h h0
  exact⟨rest,t.blk hr (hs a (by simp[Res.foot,lv,h0]))⟩
 |row p g cap L=>
  refine⟨⟨h.1.words,h.1.at_,fun h0=> ?_⟩,h.2⟩
  obtain⟨rest,hr⟩:=h.1.body h0
  exact⟨rest,t.blk hr (hs g (by simp[Res.foot,lv,h0]))⟩
 |own e size v n xs=>
  refine X5v h t (fun g hg=>hs g ?_)
  simp[Res.foot,hg]
def Q1F(rs:List Res):List Nat:=rs.flatMap Res.foot
theorem X1I{rs:List Res}{k:Nat}:k∈Q1F rs↔ ∃r,r∈rs∧k∈r.foot:=by simp[Q1F]
def Apart(r s:Res):Prop:= ∀k,k∈r.foot→k∉s.foot
theorem Apart.symm{r s:Res}(h:Apart r s):Apart s r:=fun k hs hr=>h k hr hs
structure Has(S0:List Nat)(w0 w:World)(rs:List Res):Prop where
 touch:Touch S0 w0 w
 all: ∀r,r∈rs→r.holds w
 apart:rs.Pairwise Apart
 fresh: ∀r,r∈rs→ ∀k,k∈r.foot→k∈S0∨w0.heap.size≤k
theorem Has.start(S0:List Nat)(w:World):Has S0 w w []:=⟨Touch.refl _ _,by simp,List.Pairwise.nil,by simp⟩
theorem Has.lt{S0:List Nat}{w0 w:World}{rs:List Res}(h:Has S0 w0 w rs): ∀r,r∈rs→ ∀k,k∈r.foot→k<w.heap.size:=fun r hr=>Res.lt (h.all r hr)
theorem Has.upd{S0:List Nat}{w0 w w':World}{xs rs:List Res}(ys:List Res){S:List Nat}(h:Has S0 w0 w (xs++rs))(t:Touch S w w')
 (hS: ∀k,k∈S→k∈Q1F xs∨w.heap.size≤k) (hy: ∀r,r∈ys→r.holds w') (ha:ys.Pairwise Apart) (hf: ∀r,r∈ys→ ∀k,k∈r.foot→k∈Q1F xs∨w.heap.size≤k):Has S0 w0 w' (ys++rs):=by
 obtain⟨h1,h2,h3⟩:=List.pairwise_append.1 h.apart
 have far: ∀r,r∈rs→ ∀k,k∈r.foot→k∉Q1F xs:=fun r hr k hk hm=>by
  obtain⟨s,hs,hks⟩:=X1I.1 hm
  exact h3 s hs r hr k hks hk
 have old: ∀k,k∈Q1F xs→k∈S0∨w0.heap.size≤k:=fun k hk=>by
  obtain⟨s,hs,hks⟩:=X1I.1 hk
  exact h.fresh s (List.mem_append_left _ hs) k hks
 have ht:Touch S0 w0 w':=by
  refine⟨t.os.trans h.touch.os,t.tape.trans h.touch.tape,t.output.trans h.touch.output,Nat.le_trans h.touch.size t.size,fun k hk hs=> ?_⟩
  refine(t.block k (Nat.lt_of_lt_of_le hk h.touch.size) (fun hm=> ?_)).trans (h.touch.block k hk hs)
  have:=h.touch.size
  rcases hS k hm with h'|h'
  ·rcases old k h' with h''|h''
   ·exact hs h''
   ·omega
  ·omega
 refine⟨ht,fun r hr=> ?_,List.pairwise_append.2 ⟨ha,h2,fun y hyy r hr k hk hkr=> ?_⟩,fun r hr k hk=> ?_⟩
 ·rcases List.mem_append.1 hr with hr|hr
  ·exact hy r hr
  ·refine Res.keep (h.all r (List.mem_append_right _ hr)) t (fun k hk hm=> ?_)
   have:=h.lt r (List.mem_append_right _ hr) k hk
   rcases hS k hm with h'|h'
   ·exact far r hr k hk h'
   ·omega
 ·have:=h.lt r (List.mem_append_right _ hr) k hkr
  rcases hf y hyy k hk with h'|h'
  ·exact far r hr k hkr h'
  ·omega
 ·rcases List.mem_append.1 hr with hr|hr
  ·rcases hf r hr k hk with h'|h'
   ·exact old k h'
   ·exact Or.inr (Nat.le_trans h.touch.size h')
  ·exact h.fresh r (List.mem_append_right _ hr) k hk
theorem Has.perm{S0:List Nat}{w0 w:World}{rs rs':List Res}(h:Has S0 w0 w rs)(p:rs.Perm rs'):Has S0 w0 w rs':=
 ⟨h.touch,fun r hr=>h.all r (p.mem_iff.2 hr),(p.pairwise_iff (fun h=>Apart.symm h)).1 h.apart,fun r hr=>h.fresh r (p.mem_iff.2 hr)⟩
theorem Q2j{α:Type}: ∀(l:List α) (i:Nat) (hi:i<l.length),l.Perm (l[i]::l.eraseIdx i)
 |[],i,hi=>by simp at hi
 |x::l,0,_=>by simp
 |x::l,i+1,hi=>by
  simp only[List.getElem_cons_succ,List.eraseIdx_cons_succ]
  exact((Q2j l i (by simpa using hi)).cons x).trans (List.Perm.swap _ _ _)
theorem Has.front{S0:List Nat}{w0 w:World}{rs:List Res}(h:Has S0 w0 w rs)(i:Nat)(hi:i<rs.length):Has S0 w0 w (rs[i]::rs.eraseIdx i):=
 h.perm (Q2j rs i hi)
theorem Has.swap{S0:List Nat}{w0 w:World}{x y:Res}{rs:List Res}(h:Has S0 w0 w (x::y::rs)):Has S0 w0 w (y::x::rs):=h.perm (List.Perm.swap y x rs)
theorem Has.rot3{S0:List Nat}{w0 w:World}{x y z:Res}{rs:List Res}(h:Has S0 w0 w (x::y::z::rs)):Has S0 w0 w (z::x::y::rs):=h.front 2 (by simp)
theorem Has.back3{S0:List Nat}{w0 w:World}{x y z:Res}{rs:List Res}(h:Has S0 w0 w (z::x::y::rs)):Has S0 w0 w (x::y::z::rs):=h.rot3.rot3
theorem Has.tail{S0:List Nat}{w0 w:World}{x:Res}{rs:List Res}(h:Has S0 w0 w (x::rs)):Has S0 w0 w rs:=
 ⟨h.touch,fun r hr=>h.all r (List.mem_cons_of_mem _ hr),(List.pairwise_cons.1 h.apart).2,fun r hr=>h.fresh r (List.mem_cons_of_mem _ hr)⟩
theorem Has.drop1{S0:List Nat}{w0 w:World}{x y:Res}{rs:List Res}(h:Has S0 w0 w (x::y::rs)):Has S0 w0 w (x::rs):=h.swap.tail
theorem Has.drew{S0:List Nat}{w0 w:World}{rs:List Res}(h:Has S0 w0 w rs):Has S0 w0 w.drew rs:=by
 have:=Has.upd (xs:=[]) (rs:=rs) [] (S:=[]) h ((Touch.refl [] w).drew) (by simp) (by simp) List.Pairwise.nil (by simp)
 exact this
theorem Has.drewN{S0:List Nat}{w0 w:World}{rs:List Res}(h:Has S0 w0 w rs)(n:Nat):Has S0 w0 (w.drewN n) rs:=by
 have:=Has.upd (xs:=[]) (rs:=rs) [] (S:=[]) h ((Touch.refl [] w).drewN n) (by simp) (by simp) List.Pairwise.nil (by simp)
 exact this
theorem Has.grow{S0:List Nat}{w0 w w':World}{rs:List Res}(h:Has S0 w0 w rs)(t:Touch [] w w'):Has S0 w0 w' rs:=by
 have:=Has.upd (xs:=[]) (rs:=rs) [] (S:=[]) h t (by simp) (by simp) List.Pairwise.nil (by simp)
 exact this
theorem Has.new{S0:List Nat}{w0 w:World}{rs:List Res}(h:Has S0 w0 w rs){b:Nat}(hb:w.heap.size=b)(cs:Array Value)(T:TypeId):Has S0 w0 (w.alloc (.cells cs T)) (.blk b cs::rs):=by
 subst hb
 exact Has.upd (xs:=[]) (rs:=rs) [.blk w.heap.size cs] (S:=[]) h ((Touch.refl [] w).alloc _) (by simp) (by simp[Res.holds];exact Blk.new _ _ _) (by simp) (by simp[Res.foot])
theorem Has.al{S0:List Nat}{w0 w:World}{x:Res}{rs:List Res}(h:Has S0 w0 w (x::rs)){b:Nat}(hb:w.heap.size=b)(cs:Array Value)(T:TypeId):Has S0 w0 (w.alloc (.cells cs T)) (x:: .blk b cs::rs):=(h.new hb cs T).swap
theorem Has.set{S0:List Nat}{w0 w:World}{b:Nat}{cs:Array Value}{rs:List Res}(h:Has S0 w0 w (.blk b cs::rs))(i:Nat)(v:Value):Has S0 w0 (w.setCell ⟨b,i,none⟩ v) (.blk b (cs.setIfInBounds i v)::rs):=
 Has.upd (xs:=[.blk b cs]) (rs:=rs) [.blk b (cs.setIfInBounds i v)] (S:=[b]) h ((Touch.refl [b] w).set (by simp) v) (by simp[Q1F,Res.foot]) (by simp[Res.holds];exact(h.all (.blk b cs) (by simp)).set i v) (by simp) (by simp[Q1F,Res.foot])
theorem Has.set1{S0:List Nat}{w0 w:World}{x:Res}{b:Nat}{cs:Array Value}{rs:List Res}(h:Has S0 w0 w (x:: .blk b cs::rs))(i:Nat)(v:Value):Has S0 w0 (w.setCell ⟨b,i,none⟩ v) (x:: .blk b (cs.setIfInBounds i v)::rs):=
 (h.swap.set i v).swap
theorem Has.blk{S0:List Nat}{w0 w:World}{b:Nat}{cs:Array Value}{rs:List Res}(h:Has S0 w0 w (.blk b cs::rs)):Blk w b cs:=h.all (.blk b cs) (by simp)
theorem Has.Q7A{S0:List Nat}{w0 w:World}{x:Res}{b:Nat}{cs:Array Value}{rs:List Res}(h:Has S0 w0 w (x:: .blk b cs::rs)):Blk w b cs:=h.all (.blk b cs) (by simp)
theorem Has.blk2{S0:List Nat}{w0 w:World}{x y:Res}{b:Nat}{cs:Array Value}{rs:List Res}(h:Has S0 w0 w (x::y:: .blk b cs::rs)):Blk w b cs:=h.all (.blk b cs) (by simp)
theorem Has.Y5I{S0:List Nat}{w0 w:World}{x y z:Res}{b:Nat}{cs:Array Value}{rs:List Res}(h:Has S0 w0 w (x::y::z:: .blk b cs::rs)):Blk w b cs:=h.all (.blk b cs) (by simp)
theorem Has.blk4{S0:List Nat}{w0 w:World}{x y z u:Res}{b:Nat}{cs:Array Value}{rs:List Res}(h:Has S0 w0 w (x::y::z::u:: .blk b cs::rs)):Blk w b cs:=h.all (.blk b cs) (by simp)
theorem Has.blk5{S0:List Nat}{w0 w:World}{x y z u v:Res}{b:Nat}{cs:Array Value}{rs:List Res}(h:Has S0 w0 w (x::y::z::u::v:: .blk b cs::rs)):Blk w b cs:=h.all (.blk b cs) (by simp)
theorem Has.mem{S0:List Nat}{w0 w:World}{m a:Nat}{L:List Int}{rs:List Res}(h:Has S0 w0 w (.mem m a L::rs)):Mem w m a L:=h.all (.mem m a L) (by simp)
theorem Has.row{S0:List Nat}{w0 w:World}{p:Option Addr}{g cap:Nat}{L:List Int}{rs:List Res}(h:Has S0 w0 w (.row p g cap L::rs)):Row w p g L:=(h.all (.row p g cap L) (by simp)).1
theorem Has.cap{S0:List Nat}{w0 w:World}{p:Option Addr}{g cap:Nat}{L:List Int}{rs:List Res}(h:Has S0 w0 w (.row p g cap L::rs)):L.length≤cap∧cap≤9223372036854775807:=(h.all (.row p g cap L) (by simp)).2
theorem Has.words{S0:List Nat}{w0 w w':World}{m a:Nat}{L L':List Int}{rs:List Res}(h:Has S0 w0 w (.mem m a L::rs))(hM:Mem w' m a L')(hl:L'.length=L.length)(t:Touch (lv a L) w w'):Has S0 w0 w' (.mem m a L'::rs):=
 Has.upd (xs:=[.mem m a L]) (rs:=rs) [.mem m a L'] (S:=lv a L) h t (fun k hk=>Or.inl (by simp[Q1F,Res.foot,hk])) (by simp[Res.holds];exact hM) (by simp) (by intro r hr k hk;simp only[List.mem_singleton]at hr;subst hr;left;simpa[Q1F,Res.foot,lv,hl]using hk)
theorem Has.take{S0:List Nat}{w:World}{r:Res}{rs:List Res}(h:Has S0 w w rs)(hr:r.holds w)(hf: ∀k,k∈r.foot→k∈S0)(ha: ∀s,s∈rs→Apart r s):Has S0 w w (r::rs):=
 ⟨h.touch,fun s hs=>by
  rcases List.mem_cons.1 hs with rfl|hs
  ·exact hr
  ·exact h.all s hs,List.pairwise_cons.2 ⟨ha,h.apart⟩,fun s hs k hk=>by
  rcases List.mem_cons.1 hs with rfl|hs
  ·exact Or.inl (hf k hk)
  ·exact h.fresh s hs k hk⟩
theorem Has.came{S0:List Nat}{w0 w w':World}{rs:List Res}(r:Res){S:List Nat}(h:Has S0 w0 w rs)(t:Touch S w w')(hS: ∀k,k∈S→w.heap.size≤k)(hr:r.holds w')(hf: ∀k,k∈r.foot→w.heap.size≤k):Has S0 w0 w' (r::rs):=
 Has.upd (xs:=[]) (rs:=rs) [r] (S:=S) h t (fun k hk=>Or.inr (hS k hk)) (by simp;exact hr) (by simp) (by simp;exact fun k hk=>Or.inr (hf k hk))
theorem Q1K{α:Type}(x:α): ∀(ys rs:List α),(ys++x::rs).Perm (x::(ys++rs)):=fun ys rs=>List.perm_middle
theorem Q1A{α:Type}(x y:α)(ys rs:List α):(ys++x::y::rs).Perm (x::y::(ys++rs)):=
 List.perm_middle.trans (List.Perm.cons x List.perm_middle)
theorem Q0X{α:Type}(x y z:α)(ys rs:List α):(ys++x::y::z::rs).Perm (x::y::z::(ys++rs)):=
 List.perm_middle.trans (List.Perm.cons x (Q1A y z ys rs))
theorem Q2c{α:Type}(x y z u:α)(ys rs:List α):(ys++x::y::z::u::rs).Perm (x::y::z::u::(ys++rs)):=
 List.perm_middle.trans (List.Perm.cons x (Q0X y z u ys rs))
theorem Has.leave{S0:List Nat}{w0 w w':World}{ys rs:List Res}{S:List Nat}(h:Has S0 w0 w (ys++rs))(t:Touch S w w')(hS: ∀k,k∈S→k∈Q1F ys):Has S0 w0 w' rs:=by
 have:=Has.upd (xs:=ys) (rs:=rs) [] (S:=S) h t (fun k hk=>Or.inl (hS k hk)) (by simp) List.Pairwise.nil (by simp)
 exact this
theorem Has.X1F{S0:List Nat}{w0 w:World}{rs:List Res}(h:Has S0 w0 w rs){c0:Array Value}{t0:TypeId}:Has S0 w0 (w.alloc (.cells c0 t0)) (.blk w.heap.size c0::rs):=by
 exact h.new rfl _ _
theorem Has.al1{S0:List Nat}{w0 w:World}{x:Res}{rs:List Res}(h:Has S0 w0 w (x::rs)){c0:Array Value}{t0:TypeId}:Has S0 w0 (w.alloc (.cells c0 t0)) (x:: .blk w.heap.size c0::rs):=
 h.X1F.perm (Q1K x [.blk w.heap.size c0] rs)
theorem Has.Y5L{S0:List Nat}{w0 w:World}{x y z:Res}{rs:List Res}(h:Has S0 w0 w (x::y::z::rs)){c0:Array Value}{t0:TypeId}:Has S0 w0 (w.alloc (.cells c0 t0)) (x::y::z:: .blk w.heap.size c0::rs):=
 h.X1F.perm (Q0X x y z [.blk w.heap.size c0] rs)
theorem Has.Y6X{S0:List Nat}{w0 w:World}{rs:List Res}(h:Has S0 w0 w rs){c0 c1:Array Value}{t0 t1:TypeId}:Has S0 w0 ((w.alloc (.cells c0 t0)).alloc (.cells c1 t1)) (.blk (w.heap.size+1) c1:: .blk w.heap.size c0::rs):=by
 exact(h.X1F).new (by simp) _ _
theorem Has.al22{S0:List Nat}{w0 w:World}{x y:Res}{rs:List Res}(h:Has S0 w0 w (x::y::rs)){c0 c1:Array Value}{t0 t1:TypeId}:Has S0 w0 ((w.alloc (.cells c0 t0)).alloc (.cells c1 t1)) (x::y:: .blk (w.heap.size+1) c1:: .blk w.heap.size c0::rs):=
 h.Y6X.perm (Q1A x y [.blk (w.heap.size+1) c1, .blk w.heap.size c0] rs)
theorem Has.new3{S0:List Nat}{w0 w:World}{rs:List Res}(h:Has S0 w0 w rs){c0 c1 c2:Array Value}{t0 t1 t2:TypeId}:Has S0 w0 (((w.alloc (.cells c0 t0)).alloc (.cells c1 t1)).alloc (.cells c2 t2)) (.blk (w.heap.size+2) c2:: .blk (w.heap.size+1) c1:: .blk w.heap.size c0::rs):=by
 exact(h.Y6X).new (by simp) _ _
theorem Has.new4{S0:List Nat}{w0 w:World}{rs:List Res}(h:Has S0 w0 w rs){c0 c1 c2 c3:Array Value}{t0 t1 t2 t3:TypeId}:Has S0 w0 ((((w.alloc (.cells c0 t0)).alloc (.cells c1 t1)).alloc (.cells c2 t2)).alloc (.cells c3 t3)) (.blk (w.heap.size+3) c3:: .blk (w.heap.size+2) c2:: .blk (w.heap.size+1) c1:: .blk w.heap.size c0::rs):=by
 exact(h.new3).new (by simp) _ _
theorem Has.new5{S0:List Nat}{w0 w:World}{rs:List Res}(h:Has S0 w0 w rs){c0 c1 c2 c3 c4:Array Value}{t0 t1 t2 t3 t4:TypeId}:Has S0 w0 (((((w.alloc (.cells c0 t0)).alloc (.cells c1 t1)).alloc (.cells c2 t2)).alloc (.cells c3 t3)).alloc (.cells c4 t4)) (.blk (w.heap.size+4) c4:: .blk (w.heap.size+3) c3:: .blk (w.heap.size+2) c2:: .blk (w.heap.size+1) c1:: .blk w.heap.size c0::rs):=by
 exact(h.new4).new (by simp) _ _
theorem Has.al5{S0:List Nat}{w0 w:World}{x:Res}{rs:List Res}(h:Has S0 w0 w (x::rs)){c0 c1 c2 c3 c4:Array Value}{t0 t1 t2 t3 t4:TypeId}:Has S0 w0 (((((w.alloc (.cells c0 t0)).alloc (.cells c1 t1)).alloc (.cells c2 t2)).alloc (.cells c3 t3)).alloc (.cells c4 t4)) (x:: .blk (w.heap.size+4) c4:: .blk (w.heap.size+3) c3:: .blk (w.heap.size+2) c2:: .blk (w.heap.size+1) c1:: .blk w.heap.size c0::rs):=
 h.new5.perm (Q1K x [.blk (w.heap.size+4) c4, .blk (w.heap.size+3) c3, .blk (w.heap.size+2) c2, .blk (w.heap.size+1) c1, .blk w.heap.size c0] rs)
theorem Has.Y4r{S0:List Nat}{w0 w:World}{x y z y0:Res}{rs:List Res}(h:Has S0 w0 w (x::y::z::y0::rs)):Has S0 w0 w (x::y::z::rs):=
 ((h.perm (Q0X x y z [y0] rs).symm).tail)
theorem Has.done5{S0:List Nat}{w0 w w':World}{x:Res}{rs:List Res}{b0 b1 b2 b3 b4:Nat}{c0 c1 c2 c3 c4:Array Value}(h:Has S0 w0 w (x:: .blk b0 c0:: .blk b1 c1:: .blk b2 c2:: .blk b3 c3:: .blk b4 c4::rs))(t:Touch [b0,b1,b2,b3,b4] w w'):Has S0 w0 w' (x::rs):=
 Has.leave (ys:=[.blk b0 c0, .blk b1 c1, .blk b2 c2, .blk b3 c3, .blk b4 c4]) (h.perm (Q1K x [.blk b0 c0, .blk b1 c1, .blk b2 c2, .blk b3 c3, .blk b4 c4] rs).symm) t (by simp[Q1F,Res.foot])
theorem Has.Y1E{S0:List Nat}{w0 w w':World}{x:Res}{rs:List Res}{b0 b1 b2 b3 b4 b5:Nat}{c0 c1 c2 c3 c4 c5:Array Value}(h:Has S0 w0 w (x:: .blk b0 c0:: .blk b1 c1:: .blk b2 c2:: .blk b3 c3:: .blk b4 c4:: .blk b5 c5::rs))(t:Touch [b0,b1,b2,b3,b4,b5] w w'):Has S0 w0 w' (x::rs):=
 Has.leave (ys:=[.blk b0 c0, .blk b1 c1, .blk b2 c2, .blk b3 c3, .blk b4 c4, .blk b5 c5]) (h.perm (Q1K x [.blk b0 c0, .blk b1 c1, .blk b2 c2, .blk b3 c3, .blk b4 c4, .blk b5 c5] rs).symm) t (by simp[Q1F,Res.foot])
theorem Has.Y4p{S0:List Nat}{w0 w w':World}{x y:Res}{rs:List Res}{b0 b1:Nat}{c0 c1:Array Value}(h:Has S0 w0 w (x::y:: .blk b0 c0:: .blk b1 c1::rs))(t:Touch [b0,b1] w w'):Has S0 w0 w' (x::y::rs):=
 Has.leave (ys:=[.blk b0 c0, .blk b1 c1]) (h.perm (Q1A x y [.blk b0 c0, .blk b1 c1] rs).symm) t (by simp[Q1F,Res.foot])
theorem Has.set2{S0:List Nat}{w0 w:World}{x y:Res}{b:Nat}{cs:Array Value}{rs:List Res}(h:Has S0 w0 w (x::y:: .blk b cs::rs))(i:Nat)(v:Value):Has S0 w0 (w.setCell ⟨b,i,none⟩ v) (x::y:: .blk b (cs.setIfInBounds i v)::rs):=
 ((h.perm (Q1A x y [_] rs).symm).set i v).perm (Q1A x y [_] rs)
theorem Has.Y0m{S0:List Nat}{w0 w:World}{x y z:Res}{b:Nat}{cs:Array Value}{rs:List Res}(h:Has S0 w0 w (x::y::z:: .blk b cs::rs))(i:Nat)(v:Value):Has S0 w0 (w.setCell ⟨b,i,none⟩ v) (x::y::z:: .blk b (cs.setIfInBounds i v)::rs):=
 ((h.perm (Q0X x y z [_] rs).symm).set i v).perm (Q0X x y z [_] rs)
theorem Has.Y0l{S0:List Nat}{w0 w:World}{x y z u:Res}{b:Nat}{cs:Array Value}{rs:List Res}(h:Has S0 w0 w (x::y::z::u:: .blk b cs::rs))(i:Nat)(v:Value):Has S0 w0 (w.setCell ⟨b,i,none⟩ v) (x::y::z::u:: .blk b (cs.setIfInBounds i v)::rs):=
 ((h.perm (Q2c x y z u [_] rs).symm).set i v).perm (Q2c x y z u [_] rs)
theorem Q9L{α:Type}(x y z u v:α)(ys rs:List α):(ys++x::y::z::u::v::rs).Perm (x::y::z::u::v::(ys++rs)):=
 List.perm_middle.trans (List.Perm.cons x (Q2c y z u v ys rs))
theorem Has.set5{S0:List Nat}{w0 w:World}{x y z u v:Res}{b:Nat}{cs:Array Value}{rs:List Res}(h:Has S0 w0 w (x::y::z::u::v:: .blk b cs::rs))(i:Nat)(c:Value):Has S0 w0 (w.setCell ⟨b,i,none⟩ c) (x::y::z::u::v:: .blk b (cs.setIfInBounds i c)::rs):=
 ((h.perm (Q9L x y z u v [_] rs).symm).set i c).perm (Q9L x y z u v [_] rs)
theorem Has.at_{S0:List Nat}{w0 w:World}{rs:List Res}(h:Has S0 w0 w rs)(i:Nat){b:Nat}{cs:Array Value}(hi:rs[i]? =some (.blk b cs)):Blk w b cs:=h.all _ (List.mem_of_getElem? hi)
theorem Has.free{S0:List Nat}{w0 w w':World}{rs:List Res}(h:Has S0 w0 w rs)(t:Touch [] w w'):Has S0 w0 w' rs:=h.grow t
theorem Has.X0z{S0:List Nat}{w0 w:World}{rs:List Res}(h:Has S0 w0 w rs)(i j:Nat){b c:Nat}{cs ds:Array Value}(hi:rs[i]? =some (.blk b cs))(hj:rs[j]? =some (.blk c ds))(hij:i<j):b≠c:=by
 have hp:=h.apart
 rw[List.pairwise_iff_getElem]at hp
 obtain⟨hi1,hi2⟩:=List.getElem?_eq_some_iff.1 hi
 obtain⟨hj1,hj2⟩:=List.getElem?_eq_some_iff.1 hj
 have:=hp i j hi1 hj1 hij
 rw[hi2,hj2]at this
 intro e
 exact this b (by simp[Res.foot]) (by simp[Res.foot,e])
theorem Y0k{c:Array Value}(h:c.size=4)(a b d e:Value):(((c.setIfInBounds 0 a).setIfInBounds 1 b).setIfInBounds 2 d).setIfInBounds 3 e= #[a,b,d,e]:=by
 obtain⟨l⟩:=c
 match l,h with
 |[x0,x1,x2,x3],_=>rfl
theorem X3v{c:Array Value}(h:c.size=5)(a b d e f:Value):((((c.setIfInBounds 0 a).setIfInBounds 1 b).setIfInBounds 2 d).setIfInBounds 3 e).setIfInBounds 4 f= #[a,b,d,e,f]:=by
 obtain⟨l⟩:=c
 match l,h with
 |[x0,x1,x2,x3,x4],_=>rfl
def Q7c(w:World)(b i:Nat):Value:=(w.cell? ⟨b,i,none⟩).getD undef
theorem Q5u{w:World}{b i:Nat}{cs:Array Value}(h:Blk w b cs)(hi:i<cs.size):w.cell? ⟨b,i,none⟩=some (Q7c w b i):=by
 unfold Q7c
 rw[h.cell,Array.getElem?_eq_getElem hi]
 rfl
def Y2D(n:Int):Prop:=1≤n∧n≤64
instance (n:Int):Decidable (Y2D n):=by unfold Y2D;infer_instance
def cellP(n row i:Int):Int:=if 1≤n∧n≤64∧0≤i∧i<n then 8+row*n+i else-1
theorem Q5c(n:Int)(w:World)(h:1≤n∧n≤64):Calls Tryz.prog 123 #[.int .i64 n] w fun e w'=>e= .returned (.bool true)∧w=w':=by
 obtain⟨h1,h2⟩:=h
 go_enter Tryz.func123,Tryz.ntmps123
 go_wp2
 go_ret
 exact⟨rfl,rfl⟩
theorem Q7W(n:Int)(w:World)(h: ¬(1≤n∧n≤64)):Calls Tryz.prog 123 #[.int .i64 n] w fun e w'=>e= .returned (.bool false)∧w=w':=by
 by_cases h1:1≤n
 ·have h2: ¬(n≤64):=fun h2=>h ⟨h1,h2⟩
  clear h
  go_enter Tryz.func123,Tryz.ntmps123
  go_wp2
  go_ret
  exact⟨rfl,rfl⟩
 ·clear h
  go_enter Tryz.func123,Tryz.ntmps123
  go_wp2
  go_ret
  exact⟨rfl,rfl⟩
theorem Y1p(n i:Int)(w:World)(hn: -9223372036854775808≤n∧n≤9223372036854775807):
 Calls Tryz.prog 166 #[.agg #[.int .i64 n], .int .i64 0, .int .i64 i] w fun e w'=>e= .returned (.int .i64 (cellP n 0 i))∧Touch [] w w':=by
 by_cases h:1≤n∧n≤64
 ·have hr:=fun w=>Q5c n w h
  obtain⟨h1,h2⟩:=h
  clear hn
  by_cases h3:i<0
  ·have HE:=Lib.hid (show cellP n 0 i= -1 from if_neg (by omega))
   go_enter Tryz.func166,Tryz.ntmps166
   go_wp2_with (go_at_call 123;refine(hr _).mono ?_;rintro e w' ⟨rfl,rfl⟩)
   go_ret
   exact⟨by rw[HE.out];rfl,(Touch.refl _ _).alloc _⟩
  ·by_cases h4:n≤i
   ·have HE:=Lib.hid (show cellP n 0 i= -1 from if_neg (by omega))
    go_enter Tryz.func166,Tryz.ntmps166
    go_wp2_with (go_at_call 123;refine(hr _).mono ?_;rintro e w' ⟨rfl,rfl⟩)
    go_ret
    exact⟨by rw[HE.out];rfl,(Touch.refl _ _).alloc _⟩
   ·have h5:0≤i:=by omega
    have h6:i<n:=by omega
    have HE:=Lib.hid (show cellP n 0 i=8+0*n+i from if_pos ⟨h1,h2,h5,h6⟩)
    go_enter Tryz.func166,Tryz.ntmps166
    go_wp2_with (go_at_call 123;refine(hr _).mono ?_;rintro e w' ⟨rfl,rfl⟩)
    go_ret
    exact⟨by rw[HE.out];first|rfl|simp,(Touch.refl _ _).alloc _⟩
 ·have hr:=fun w=>Q7W n w h
  have HE:=Lib.hid (show cellP n 0 i= -1 from if_neg (by omega))
  clear h hn
  go_enter Tryz.func166,Tryz.ntmps166
  go_wp2_with (go_at_call 123;refine(hr _).mono ?_;rintro e w' ⟨rfl,rfl⟩)
  go_ret
  exact⟨by rw[HE.out];rfl,(Touch.refl _ _).alloc _⟩
theorem Y1o(n i:Int)(w:World)(hn: -9223372036854775808≤n∧n≤9223372036854775807):
 Calls Tryz.prog 166 #[.agg #[.int .i64 n], .int .i64 1, .int .i64 i] w fun e w'=>e= .returned (.int .i64 (cellP n 1 i))∧Touch [] w w':=by
 by_cases h:1≤n∧n≤64
 ·have hr:=fun w=>Q5c n w h
  obtain⟨h1,h2⟩:=h
  clear hn
  by_cases h3:i<0
  ·have HE:=Lib.hid (show cellP n 1 i= -1 from if_neg (by omega))
   go_enter Tryz.func166,Tryz.ntmps166
   go_wp2_with (go_at_call 123;refine(hr _).mono ?_;rintro e w' ⟨rfl,rfl⟩)
   go_ret
   exact⟨by rw[HE.out];rfl,(Touch.refl _ _).alloc _⟩
  ·by_cases h4:n≤i
   ·have HE:=Lib.hid (show cellP n 1 i= -1 from if_neg (by omega))
    go_enter Tryz.func166,Tryz.ntmps166
    go_wp2_with (go_at_call 123;refine(hr _).mono ?_;rintro e w' ⟨rfl,rfl⟩)
    go_ret
    exact⟨by rw[HE.out];rfl,(Touch.refl _ _).alloc _⟩
   ·have h5:0≤i:=by omega
    have h6:i<n:=by omega
    have HE:=Lib.hid (show cellP n 1 i=8+1*n+i from if_pos ⟨h1,h2,h5,h6⟩)
    go_enter Tryz.func166,Tryz.ntmps166
    go_wp2_with (go_at_call 123;refine(hr _).mono ?_;rintro e w' ⟨rfl,rfl⟩)
    go_ret
    exact⟨by rw[HE.out];first|rfl|simp,(Touch.refl _ _).alloc _⟩
 ·have hr:=fun w=>Q7W n w h
  have HE:=Lib.hid (show cellP n 1 i= -1 from if_neg (by omega))
  clear h hn
  go_enter Tryz.func166,Tryz.ntmps166
  go_wp2_with (go_at_call 123;refine(hr _).mono ?_;rintro e w' ⟨rfl,rfl⟩)
  go_ret
  exact⟨by rw[HE.out];rfl,(Touch.refl _ _).alloc _⟩
theorem Y1n(n i:Int)(w:World)(hn: -9223372036854775808≤n∧n≤9223372036854775807):
 Calls Tryz.prog 166 #[.agg #[.int .i64 n], .int .i64 2, .int .i64 i] w fun e w'=>e= .returned (.int .i64 (cellP n 2 i))∧Touch [] w w':=by
 by_cases h:1≤n∧n≤64
 ·have hr:=fun w=>Q5c n w h
  obtain⟨h1,h2⟩:=h
  clear hn
  by_cases h3:i<0
  ·have HE:=Lib.hid (show cellP n 2 i= -1 from if_neg (by omega))
   go_enter Tryz.func166,Tryz.ntmps166
   go_wp2_with (go_at_call 123;refine(hr _).mono ?_;rintro e w' ⟨rfl,rfl⟩)
   go_ret
   exact⟨by rw[HE.out];rfl,(Touch.refl _ _).alloc _⟩
  ·by_cases h4:n≤i
   ·have HE:=Lib.hid (show cellP n 2 i= -1 from if_neg (by omega))
    go_enter Tryz.func166,Tryz.ntmps166
    go_wp2_with (go_at_call 123;refine(hr _).mono ?_;rintro e w' ⟨rfl,rfl⟩)
    go_ret
    exact⟨by rw[HE.out];rfl,(Touch.refl _ _).alloc _⟩
   ·have h5:0≤i:=by omega
    have h6:i<n:=by omega
    have HE:=Lib.hid (show cellP n 2 i=8+2*n+i from if_pos ⟨h1,h2,h5,h6⟩)
    go_enter Tryz.func166,Tryz.ntmps166
    go_wp2_with (go_at_call 123;refine(hr _).mono ?_;rintro e w' ⟨rfl,rfl⟩)
    go_ret
    exact⟨by rw[HE.out];first|rfl|simp,(Touch.refl _ _).alloc _⟩
 ·have hr:=fun w=>Q7W n w h
  have HE:=Lib.hid (show cellP n 2 i= -1 from if_neg (by omega))
  clear h hn
  go_enter Tryz.func166,Tryz.ntmps166
  go_wp2_with (go_at_call 123;refine(hr _).mono ?_;rintro e w' ⟨rfl,rfl⟩)
  go_ret
  exact⟨by rw[HE.out];rfl,(Touch.refl _ _).alloc _⟩
theorem Y1m(n i:Int)(w:World)(hn: -9223372036854775808≤n∧n≤9223372036854775807):
 Calls Tryz.prog 166 #[.agg #[.int .i64 n], .int .i64 3, .int .i64 i] w fun e w'=>e= .returned (.int .i64 (cellP n 3 i))∧Touch [] w w':=by
 by_cases h:1≤n∧n≤64
 ·have hr:=fun w=>Q5c n w h
  obtain⟨h1,h2⟩:=h
  clear hn
  by_cases h3:i<0
  ·have HE:=Lib.hid (show cellP n 3 i= -1 from if_neg (by omega))
   go_enter Tryz.func166,Tryz.ntmps166
   go_wp2_with (go_at_call 123;refine(hr _).mono ?_;rintro e w' ⟨rfl,rfl⟩)
   go_ret
   exact⟨by rw[HE.out];rfl,(Touch.refl _ _).alloc _⟩
  ·by_cases h4:n≤i
   ·have HE:=Lib.hid (show cellP n 3 i= -1 from if_neg (by omega))
    go_enter Tryz.func166,Tryz.ntmps166
    go_wp2_with (go_at_call 123;refine(hr _).mono ?_;rintro e w' ⟨rfl,rfl⟩)
    go_ret
    exact⟨by rw[HE.out];rfl,(Touch.refl _ _).alloc _⟩
   ·have h5:0≤i:=by omega
    have h6:i<n:=by omega
    have HE:=Lib.hid (show cellP n 3 i=8+3*n+i from if_pos ⟨h1,h2,h5,h6⟩)
    go_enter Tryz.func166,Tryz.ntmps166
    go_wp2_with (go_at_call 123;refine(hr _).mono ?_;rintro e w' ⟨rfl,rfl⟩)
    go_ret
    exact⟨by rw[HE.out];first|rfl|simp,(Touch.refl _ _).alloc _⟩
 ·have hr:=fun w=>Q7W n w h
  have HE:=Lib.hid (show cellP n 3 i= -1 from if_neg (by omega))
  clear h hn
  go_enter Tryz.func166,Tryz.ntmps166
  go_wp2_with (go_at_call 123;refine(hr _).mono ?_;rintro e w' ⟨rfl,rfl⟩)
  go_ret
  exact⟨by rw[HE.out];rfl,(Touch.refl _ _).alloc _⟩
theorem mapNext(n i:Int)(w:World)(hn: -9223372036854775808≤n∧n≤9223372036854775807):
 Calls Tryz.prog 171 #[.agg #[.int .i64 n], .int .i64 i] w fun e w'=>e= .returned (.int .i64 (cellP n 0 i))∧Touch [] w w':=by
 go_enter Tryz.func171,Tryz.ntmps171
 go_wp2_with (go_at_call 166;refine(Y1p n i _ hn).mono ?_;rintro e w' ⟨rfl,ht⟩)
 go_ret
 exact⟨rfl,((Touch.refl _ _).alloc _).trans ht⟩
theorem Q7u(n i:Int)(w:World)(hn: -9223372036854775808≤n∧n≤9223372036854775807):
 Calls Tryz.prog 172 #[.agg #[.int .i64 n], .int .i64 i] w fun e w'=>e= .returned (.int .i64 (cellP n 1 i))∧Touch [] w w':=by
 go_enter Tryz.func172,Tryz.ntmps172
 go_wp2_with (go_at_call 166;refine(Y1o n i _ hn).mono ?_;rintro e w' ⟨rfl,ht⟩)
 go_ret
 exact⟨rfl,((Touch.refl _ _).alloc _).trans ht⟩
theorem Q6U(n i:Int)(w:World)(hn: -9223372036854775808≤n∧n≤9223372036854775807):
 Calls Tryz.prog 128 #[.agg #[.int .i64 n], .int .i64 i] w fun e w'=>e= .returned (.int .i64 (cellP n 2 i))∧Touch [] w w':=by
 go_enter Tryz.func128,Tryz.ntmps128
 go_wp2_with (go_at_call 166;refine(Y1n n i _ hn).mono ?_;rintro e w' ⟨rfl,ht⟩)
 go_ret
 exact⟨rfl,((Touch.refl _ _).alloc _).trans ht⟩
theorem X1L(n i:Int)(w:World)(hn: -9223372036854775808≤n∧n≤9223372036854775807):
 Calls Tryz.prog 130 #[.agg #[.int .i64 n], .int .i64 i] w fun e w'=>e= .returned (.int .i64 (cellP n 3 i))∧Touch [] w w':=by
 go_enter Tryz.func130,Tryz.ntmps130
 go_wp2_with (go_at_call 166;refine(Y1m n i _ hn).mono ?_;rintro e w' ⟨rfl,ht⟩)
 go_ret
 exact⟨rfl,((Touch.refl _ _).alloc _).trans ht⟩
def I64(n:Int):Prop:= -9223372036854775808≤n∧n≤9223372036854775807
def Q4M(L:List Int)(n task:Int):Acc×Bool×List Int:=doA L ⟨2,cellP n 3 task,1,0,0⟩
def Q6k(L:List Int)(n task:Int):Bool:=ldA L (cellP n 3 task) !=0
def takeA(L:List Int)(n task:Int):Acc×Bool×List Int:=if Q6k L n task then doA L ⟨4,cellP n 3 task,0,0,0⟩else(Acc.zero,false,L)
theorem Q7K{w:World}{m a b:Nat}{L:List Int}(h:Mem w m a L)(hb:w.heap.size≤b):b∉lv a L:=fun hm=>by
 have h1:=Q6S hm
 have h2:=h.lt.2 h1.2
 omega
theorem X0A{w w2 wf:World}{m a:Nat}{L L2:List Int}{S:List Nat}(h:Mem w m a L)(hM2:Mem w2 m a L2)(hl:L2.length=L.length)(hT:Touch (lv a L) w w2)(hS: ∀k,k∈S→w.heap.size≤k)(t:Touch S w2 wf):
 Mem wf m a L2∧Touch (lv a L) w wf:=by
 refine⟨?_,hT.newer t hS⟩
 obtain⟨p,cap,hb,r⟩:=hM2.head
 have hlt:=h.lt
 refine⟨hM2.ne,hM2.words,⟨p,cap,t.blk hb (fun hm=>by have:=hS _ hm;omega),r⟩,fun h0=> ?_⟩
 obtain⟨rest,hr⟩:=hM2.body h0
 exact⟨rest,t.blk hr (fun hm=>by have:=hS _ hm;have:=hlt.2 (by omega);omega)⟩
def doV(m:Option Addr):Value:= .func (.func 127) #[.pointer m] #[]
theorem X3i{w:World}{m a:Nat}{L:List Int}(h:Mem w m a L)(n task k c x y o:Int)(hn:I64 n)(hx:0≤x∧x<4294967296)(hy:0≤y∧y<4294967296):
 Calls Tryz.prog 164 #[doV (some ⟨m,0,none⟩), .agg #[.int .i64 n], .int .i64 task, .agg #[.int .i64 k, .int .i64 c, .int .u32 x, .int .u32 y, .int .u32 o]] w
  fun e w'=>e= .returned (.tuple #[.agg (doA L ⟨k,cellP n 3 task,x,y,o⟩).1.cells, .bool (doA L ⟨k,cellP n 3 task,x,y,o⟩).2.1])∧Mem w' m a (doA L ⟨k,cellP n 3 task,x,y,o⟩).2.2∧Touch (lv a L) w w':=by
 have hd:=fun W (hM:Mem W m a L)=>X1U hM ⟨k,cellP n 3 task,x,y,o⟩ hx hy
 have hl:=Q2k L ⟨k,cellP n 3 task,x,y,o⟩
 generalize doA L ⟨k,cellP n 3 task,x,y,o⟩=r at hd hl⊢
 obtain⟨⟨rk,rc,rx,ry,ro⟩,rok,L2⟩:=r
 simp only[Acc.cells]at hd hl⊢
 have HD:=Lib.hid hd
 have HL:=Lib.hid hl
 have hm:=h.lt.1
 unfold doV
 clear hd hx hy hl
 obtain⟨n1,n2⟩:=hn
 go_enter Tryz.func164,Tryz.ntmps164
 go_wp2_with (go_at_call 130;refine(X1L n task _ ⟨n1,n2⟩).mono ?_;rintro e w1 ⟨rfl,ht1⟩
              obtain⟨b0,b1,b2⟩:=ht1.Q4F (by simp)
              obtain⟨z0,p0,q0⟩:=b0.own
              obtain⟨z1,p1,q1⟩:=b1.own
              obtain⟨z2,p2,q2⟩:=b2.own)
 have hT1:Touch [] w (w1.setCell ⟨w.heap.size+1,1,none⟩ (.int .i64 (cellP n 3 task))):=(((((Touch.refl [] w).alloc _).alloc _).alloc _).trans ht1).Q7E (by simp) _
 refine(HD.out _ (h.touch hT1 (by simp) (by simp))).mono ?_
 rintro e w2⟨rfl,hM2,ht2⟩
 obtain⟨z3,p3,q3⟩:=(ht2.blk (b2.X1f (by simp) _) (Q7K h (by omega))).own
 go_wp2
 refine bodyPost_ret (v:= .tuple #[.agg #[.int .i64 rk, .int .i64 rc, .int .u32 rx, .int .u32 ry, .int .u32 ro], .bool rok]) (by simp[results,Tryz.results164,go_sem,p3,z3]) rfl
  ⟨rfl,X0A (S:=[w.heap.size+2]) h hM2 HL.out ((hT1.mono (by simp)).trans ht2) (by simp) ?_⟩
 repeat(first|with_reducible exact Touch.refl _ _|with_reducible apply Touch.drew|with_reducible apply Touch.alloc|with_reducible refine Touch.set ?_ (by simp) _)
theorem Y1x{w:World}{m a:Nat}{L:List Int}(h:Mem w m a L)(n task:Int)(hn:I64 n):
 Calls Tryz.prog 125 #[.pointer (some ⟨m,0,none⟩), .agg #[.int .i64 n], .int .i64 task] w
  fun e w'=>e= .returned (.tuple #[.agg (Q4M L n task).1.cells, .bool (Q4M L n task).2.1])∧Mem w' m a (Q4M L n task).2.2∧Touch (lv a L) w w':=by
 have hd:=fun W (hM:Mem W m a L)=>X3i hM n task 2 0 1 0 0 hn (by decide) z32
 have hl:(Q4M L n task).2.2.length=L.length:=Q2k _ _
 rw[show doA L ⟨2,cellP n 3 task,1,0,0⟩=Q4M L n task from rfl]at hd
 generalize Q4M L n task=r at hd hl⊢
 obtain⟨⟨rk,rc,rx,ry,ro⟩,rok,L2⟩:=r
 simp only[Acc.cells,doV]at hd hl⊢
 have HD:=Lib.hid hd
 have HL:=Lib.hid hl
 have hm:=h.lt.1
 clear hd hl hn
 go_enter Tryz.func125,Tryz.ntmps125
 go_wp2_with (go_at_call 164;refine(HD.out _ (h.touch (((Touch.refl [] w).alloc _).alloc _) (by simp) (by simp))).mono ?_;rintro e w2 ⟨rfl,hM2,ht2⟩
              obtain⟨z3,p3,q3⟩:=(ht2.Q3U (fun k hk=>by have:=Q6S hk;have:=h.lt.2 this.2;omega)).2.own)
 refine bodyPost_ret (v:= .tuple #[.agg #[.int .i64 rk, .int .i64 rc, .int .u32 rx, .int .u32 ry, .int .u32 ro], .bool rok]) (by simp[results,Tryz.results125,go_sem,p3,z3]) rfl
  ⟨rfl,X0A (S:=[w.heap.size+1]) h hM2 HL.out ((((Touch.refl _ w).alloc _).alloc _).trans ht2) (by simp) ?_⟩
 repeat(first|with_reducible exact Touch.refl _ _|with_reducible apply Touch.drew|with_reducible apply Touch.alloc|with_reducible refine Touch.set ?_ (by simp) _)
theorem X3p{w:World}{m a:Nat}{L:List Int}(h:Mem w m a L)(n task:Int)(hn:I64 n):
 Calls Tryz.prog 82 #[.pointer (some ⟨m,0,none⟩), .agg #[.int .i64 n], .int .i64 task] w
  fun e w'=>e= .returned (.bool (Q6k L n task))∧Touch [] w w':=by
 unfold Q6k
 have hl:=fun W (hM:Mem W m a L)=>X3Z hM (cellP n 3 task)
 generalize ldA L (cellP n 3 task)=v at hl⊢
 have HL:=Lib.hid hl
 clear hl
 go_enter Tryz.func82,Tryz.ntmps82
 go_wp2_with (first
  |(go_at_call 130;refine(X1L n task _ hn).mono ?_;rintro e w1 ⟨rfl,ht1⟩)
  |(go_at_call 129;refine(HL.out _ (h.touch ((((Touch.refl [] w).alloc _).trans ht1)) (by simp) (by simp))).mono ?_;rintro e w2 ⟨rfl,ht2⟩))
 go_ret
 exact⟨rfl,(((Touch.refl [] w).alloc _).trans ht1).trans ht2⟩
theorem take_any{w:World}{m a:Nat}{L:List Int}(h:Mem w m a L)(n task:Int)(hn:I64 n):
 Calls Tryz.prog 167 #[.pointer (some ⟨m,0,none⟩), .agg #[.int .i64 n], .int .i64 task] w
  fun e w'=>e= .returned (.tuple #[.agg (takeA L n task).1.cells, .bool (takeA L n task).2.1])∧Mem w' m a (takeA L n task).2.2∧Touch (lv a L) w w':=by
 have hth:=fun W (hM:Mem W m a L)=>X3p hM n task hn
 have hm:=h.lt.1
 cases hb:Q6k L n task with
 |false=>
  rw[show takeA L n task=(Acc.zero,false,L)from by unfold takeA;rw[hb];rfl]
  rw[hb]at hth
  have HT:=Lib.hid hth
  clear hth hb hn
  simp only[Acc.cells,Acc.zero]
  go_enter Tryz.func167,Tryz.ntmps167
  go_wp2_with (go_at_call 82;refine(HT.out _ (h.touch (((Touch.refl [] w).alloc _).alloc _) (by simp) (by simp))).mono ?_;rintro e w2 ⟨rfl,ht2⟩
               obtain⟨z3,p3,q3⟩:=(ht2.Q3U (by simp)).2.own)
  refine bodyPost_ret (v:= .tuple #[Value.agg Acc.zero.cells, .bool false]) (by simp[results,Tryz.results167,go_sem,p3,z3,Acc.zero,Acc.cells]) rfl
   ⟨rfl,X0A (S:=[w.heap.size+1]) h (h.touch ((((Touch.refl [] w).alloc _).alloc _).trans ht2) (by simp) (by simp)) rfl ((((Touch.refl _ w).alloc _).alloc _).trans (ht2.mono (by simp))) (by simp) ?_⟩
  repeat(first|with_reducible exact Touch.refl _ _|with_reducible apply Touch.drew|with_reducible apply Touch.alloc|with_reducible refine Touch.set ?_ (by simp) _)
 |true=>
  have hd:=fun W (hM:Mem W m a L)=>X3i hM n task 4 0 0 0 0 hn z32 z32
  have hl:(takeA L n task).2.2.length=L.length:=by unfold takeA;rw[hb];exact Q2k _ _
  rw[show doA L ⟨4,cellP n 3 task,0,0,0⟩=takeA L n task from by unfold takeA;rw[hb];rfl]at hd
  generalize takeA L n task=r at hd hl⊢
  obtain⟨⟨rk,rc,rx,ry,ro⟩,rok,L2⟩:=r
  simp only[Acc.cells,doV]at hd hl⊢
  rw[hb]at hth
  have HD:=Lib.hid hd
  have HL:=Lib.hid hl
  have HT:=Lib.hid hth
  clear hd hl hn hth hb
  go_enter Tryz.func167,Tryz.ntmps167
  go_wp2_with (first
   |(go_at_call 82;refine(HT.out _ (h.touch (((Touch.refl [] w).alloc _).alloc _) (by simp) (by simp))).mono ?_;rintro e w1 ⟨rfl,ht1⟩
     obtain⟨B0,B1⟩:=ht1.Q3U (by simp)
     obtain⟨z0,p0,q0⟩:=B0.own)
   |(go_at_call 164;refine(HD.out _ (h.touch ((((Touch.refl [] w).alloc _).alloc _).trans ht1) (by simp) (by simp))).mono ?_;rintro e w2 ⟨rfl,hM2,ht2⟩
     obtain⟨z3,p3,q3⟩:=(ht2.blk B1 (Q7K h (by omega))).own))
  refine bodyPost_ret (v:= .tuple #[.agg #[.int .i64 rk, .int .i64 rc, .int .u32 rx, .int .u32 ry, .int .u32 ro], .bool rok]) (by simp[results,Tryz.results167,go_sem,p3,z3]) rfl
   ⟨rfl,X0A (S:=[w.heap.size+1]) h hM2 HL.out (((((Touch.refl _ w).alloc _).alloc _).trans (ht1.mono (by simp))).trans ht2) (by simp) ?_⟩
  repeat(first|with_reducible exact Touch.refl _ _|with_reducible apply Touch.drew|with_reducible apply Touch.alloc|with_reducible refine Touch.set ?_ (by simp) _)
end Go.Proofs.YthnimpkoidablaaGreat.Z
