import Derived.Test.YthnimpkoidablaaGreatZA11
set_option linter.unusedVariables false
set_option linter.unusedSimpArgs false
set_option maxHeartbeats 3200000
namespace Go.Proofs.YthnimpkoidablaaGreat.Z
open Go.RowKit
section
open Go.RowKit Go.Lib
def Y7y(w:World)(n:Nat)(vs xs:List Value)(e:Ending)(w':World):Prop:=
 ∃(G:Nat) (R:List Value),n+1≤G∧G≤maxLen∧R.length=G*4∧e= .returned (.slice (some ⟨w.heap.size,0,none⟩) (n+1) G)∧Touch [] w w'∧w'.heap[w.heap.size]? =some (.cells (setMany xs (setMany vs R 0) 4).toArray 40 (0,0))
set_option maxRecDepth 100000 in
theorem Y1v{w:World}{g n cap lit:Nat}{cur xs:List Value}{c0 c1 c2 c3:Value}(hn:0<n)(hle:n≤cap)(hroom:cap<n+1)(hbig:n≤1000)(hg:w.heap[g]? =some (.cells cur.toArray 40 (0,0)))(hcs:cur.length=cap*4)(htk:cur.take (n*4)=xs)(hlit:Blk w lit #[c0,c1,c2,c3])(hne:lit≠g)
 (h1c: ∀v∈xs,v.oneCell'=true) (h1v: ∀u∈[c0,c1,c2,c3],u.oneCell'=true):
 Calls Tryz.prog 53 #[.slice (some ⟨g,0,none⟩) n cap, .int .i64 0, .slice (some ⟨lit,0,none⟩) 1 1] w (Y7y w n [c0,c1,c2,c3] xs):=by
 obtain⟨i0,hi0,hz0,hz1,hz2⟩:=info_parts Q5S
 have hgl:g<w.heap.size:=(show Blk w g cur.toArray from⟨_,hg⟩).lt
 have hll:=hlit.lt
 have hxl:xs.length=n*4:=by rw[←htk,List.length_take];omega
 have hcs2: ∀j v,xs[j]? =some v→w.cell? ⟨g,j,none⟩=some v:=fun j v hj=>by
  rw[(show Blk w g cur.toArray from⟨_,hg⟩).cell,List.getElem?_toArray,←hj,←htk,List.getElem?_take_of_lt (by have:=(List.getElem?_eq_some_iff.1 hj).1;omega)]
 have hvs: ∀j v,[c0,c1,c2,c3][j]? =some v→w.cell? ⟨lit,j,none⟩=some v:=fun j v hj=>by rw[hlit.cell,←hj];simp
 have hold:(Builtin.firstCells i0.size 0 (.slice (some ⟨g,0,none⟩) 0 cap)).run Tryz.prog w.drew= .ok ([]:List Value).toArray w.drew:=
  run_firstCells_some (P:=Tryz.prog) w.drew i0.size 0 ⟨g,0,none⟩ 0 cap [] (by simp) (fun j v hj=>by simp at hj)
 have hrz0:=fun ty=>Lib.run_append_grow_zeros (P:=Tryz.prog) w 33 3 ty 40 i0 _ .i64 .i64 Tryz.underlying33 Tryz.underlying3 hi0 hz0 (some ⟨g,0,none⟩) 0 cap [] hold (n+1) (by omega) (by omega) (by omega) (by omega) (by rw[hz2];omega) (by rw[hz2,Nat.zero_add];exact growslice_fits hroom (by omega))
 simp only[Nat.zero_add]at hrz0
 have hG1:n+1≤grownCap w (n+1) cap 40:=grownCap_ge w _ _ _
 have hG2:grownCap w (n+1) cap 40≤maxLen:=grownCap_le_maxLen w (n+1) cap 40 (by unfold maxLen;omega)
 generalize grownCap w (n+1) cap 40=G at hrz0 hG1 hG2
 obtain⟨R,hR,hRl⟩: ∃R:List Value,R.toArray=(([]:List Value).toArray++Builtin.zeroCells (Value.agg #[.int .i64 0, .int .i64 0, .int .i64 0, .int .i64 0]).cells (n+1)++Builtin.zeroCells (Value.agg #[.int .i64 0, .int .i64 0, .int .i64 0, .int .i64 0]).cells (G-(n+1)))∧R.length=G*4:=by
  refine⟨_,Array.toArray_toList,?_⟩
  rw[Array.length_toList]
  simp[Builtin.zeroCells,Value.cells]
  omega
 rw[←hR]at hrz0
 clear hR
 have hsz:((Tryz.prog).info? 40).map (·.size)=some 4:=by kernel_rfl
 obtain⟨W1,hW1⟩: ∃W1,W1=w.drew.alloc (.cells R.toArray 40):=⟨_,rfl⟩
 have hN1:W1.heap[w.heap.size]? =some (.cells R.toArray 40 (0,0)):=by
  rw[hW1]
  show(w.heap.push _)[w.heap.size]? =_
  simp
 have hT1:Touch [] w W1:=by rw[hW1];exact((Touch.refl [] w).drew).alloc _
 have hcpA: ∀(W:World),(∀x,W.cell? x=W1.cell? x)→(∀x,W.frozen? x=W1.frozen? x)→ ∀ty dc,(Builtin.copy_ #[33,33] ty #[.slice (some ⟨w.heap.size,0,none⟩) (n+1) dc, .slice (some ⟨lit,0,none⟩) 1 1]).run Tryz.prog W= .ok (goInt (Nat.min 1 (n+1))) (W.setCells w.heap.size 0 [c0,c1,c2,c3]):=fun W hWc hWf ty dc=>
  Q4k W _ _ ty 40 4 w.heap.size 0 (n+1) dc ⟨lit,0,none⟩ 1 1 [c0,c1,c2,c3] Tryz.underlying33 hsz (by rw[show Nat.min 1 (n+1)=1 from Nat.min_eq_left (by omega)];rfl)
   (fun j v hj=>by rw[Addr.add_lit,Nat.zero_add,hWc,hT1.cell (by exact hll) (by simp)];exact hvs j v hj)
   (fun j hj=>by rw[hWc,Nat.zero_add,(show Blk W1 w.heap.size R.toArray from⟨_,hN1⟩).cell,List.getElem?_toArray,List.getElem?_eq_getElem (by simp at hj;omega)];rfl) (fun j hj=>by rw[hWf];exact(show Blk W1 w.heap.size R.toArray from⟨_,hN1⟩).own.2.2 _) h1v
 have hN2:=Q3j [c0,c1,c2,c3] R 0 hN1
 have hT2:Touch [] w (W1.setCells w.heap.size 0 [c0,c1,c2,c3]):=Touch.Q5p (Nat.le_refl _) _ _ hT1
 have hcpB: ∀(W:World),(∀x,W.cell? x=(W1.setCells w.heap.size 0 [c0,c1,c2,c3]).cell? x)→(∀x,W.frozen? x=(W1.setCells w.heap.size 0 [c0,c1,c2,c3]).frozen? x)→ ∀ty dc sc,(Builtin.copy_ #[33,33] ty #[.slice (some ⟨w.heap.size,4,none⟩) n dc, .slice (some ⟨g,0,none⟩) n sc]).run Tryz.prog W= .ok (goInt (Nat.min n n)) (W.setCells w.heap.size 4 xs):=fun W hWc hWf ty dc sc=>
  Q4k W _ _ ty 40 4 w.heap.size 4 n dc ⟨g,0,none⟩ n sc xs Tryz.underlying33 hsz (by rw[hxl,show Nat.min n n=n from Nat.min_eq_left (Nat.le_refl _)])
   (fun j v hj=>by rw[Addr.add_lit,Nat.zero_add,hWc,hT2.cell (by exact hgl) (by simp)];exact hcs2 j v hj)
   (fun j hj=>by rw[hWc,(show Blk _ w.heap.size (setMany [c0,c1,c2,c3] R 0).toArray from⟨_,hN2⟩).cell,List.getElem?_toArray,List.getElem?_eq_getElem (by rw[Q3C];omega)];rfl) (fun j hj=>by rw[hWf];exact(show Blk _ w.heap.size (setMany [c0,c1,c2,c3] R 0).toArray from⟨_,hN2⟩).own.2.2 _) h1c
 rw[←hW1]at hrz0
 simp only[Int.natCast_add,Int.natCast_one]at hrz0
 have HRZ:=Lib.hid hrz0
 have HCA:=Lib.hid hcpA
 have HCB:=Lib.hid hcpB
 have HN2:=Lib.hid hN2
 have HT2:=Lib.hid hT2
 have HW1:=Lib.hid hW1
 have HRL:=Lib.hid hRl
 have hz2': ¬((0:Int)=(n:Int)):=by omega
 have hz3: ¬((n:Int)=0):=by omega
 have hw1:IntKind.i64.wrap ((n:Int)+1)=(n:Int)+1:=by rw[IntKind.wrap_i64];omega
 have htn:((n:Int)+1).toNat=n+1:=by omega
 have hb1:((cap:Int)<(n:Int)+1):=by omega
 have hb2:(n:Int)+1≤(G:Int):=by omega
 have hb3:(0:Int)≤(n:Int)+1:=by omega
 have hb4:(1:Int)≤(n:Int)+1:=by omega
 have hb5: ¬(G=1):=by omega
 have hb6: ¬(G=0):=by omega
 have hb7: ¬(cap=0):=by omega
 have hwr1:IntKind.i64.wrap 1=1:=by rw[IntKind.wrap_i64];omega
 have mixed:(Tryz.prog).follows Departure.mixedOrders=true:=by kernel_rfl
 have late:(Tryz.prog).follows Departure.lateStores=true:=by kernel_rfl
 have apm:(Tryz.prog).follows Departure.appendOfMake=true:=by kernel_rfl
 clear hrz0 hcpA hcpB hN1 hT1 hN2 hT2 hW1 hsz hvs hcs2 hxl h1v h1c htk hcs hg hlit hold hi0 hz0 hz1 hz2 hgl hll hRl
 go_enter Tryz.func53,Tryz.ntmps53
 go_wp2_with (first
  |(at_builtin;refine Lib.wpList_append_run _ rfl (.tmp 34) (.tmp 39) _ _ rfl (.slice (some ⟨g,0,none⟩) 0 cap) (.int .i64 ((n:Int)+1)) rfl rfl _ _ (HRZ.out _) ?_))
 rw[HCA.out _ (fun _=>rfl) (fun _=>rfl)]
 go_wp2_with fail
 go_region_law_o (refine step_copy_runI rfl (.tmp 50) (.tmp 53) 33 33 rfl (.slice (some ⟨w.heap.size,4,none⟩) n (G-1)) (.slice (some ⟨g,0,none⟩) n cap) (by simp[Act.eval,Act.put]) (by simp[Act.eval,Act.put]) (HCB.out (World.drew (W1.setCells w.heap.size 0 [c0,c1,c2,c3])) (fun _=>rfl) (fun _=>rfl) _ _ _) ?_)
 go_wp2_with fail
 go_ret
 refine⟨G,R,hG1,hG2,HRL.out,rfl,Touch.Q5p (Nat.le_refl _) _ _ HT2.out.drew,?_⟩
 exact Q3j xs _ 4 HN2.out
end
section
open Go.RowKit Go.Lib
theorem Touch.Q7l{S:List Nat}{w:World}{b:Nat}(hb:b∈S): ∀(vs:List Value) (o:Nat) {w':World},Touch S w w'→Touch S w (w'.setCells b o vs)
 |[],o,w',t=>t
 |v::r,o,w',t=>by
  rw[World.setCells]
  exact Touch.Q7l hb r (o+1) (t.set (by simpa using hb) v)
theorem parts{cur:List Value}{k:Nat}(hl:4+k≤cur.length): ∃a b c,cur=a++(b++c)∧a.length=4∧b.length=k:=by
 refine⟨cur.take 4,(cur.drop 4).take k,(cur.drop 4).drop k,by rw[List.take_append_drop,List.take_append_drop],?_,?_⟩
 ·rw[List.length_take];omega
 ·rw[List.length_take,List.length_drop];omega
theorem X2F{cur xs c:List Value}{n:Nat}(hc:c.length=4)(hx:xs.length=n*4)(hl:(n+1)*4≤cur.length):(setMany c (setMany xs cur 4) 0).take ((n+1)*4)=c++xs:=by
 obtain⟨a,b,r,rfl,ha,hb⟩:=parts (cur:=cur) (k:=n*4) (by omega)
 have h1:=Q4C xs a b r (by omega)
 rw[ha]at h1
 rw[h1]
 have h2:=Q4C c [] a (xs++r) (by omega)
 simp only[List.nil_append,List.length_nil]at h2
 rw[h2,←List.append_assoc,List.take_left' (by simp;omega)]
theorem X8O{R xs c:List Value}{n:Nat}(hc:c.length=4)(hx:xs.length=n*4)(hl:(n+1)*4≤R.length):(setMany xs (setMany c R 0) 4).take ((n+1)*4)=c++xs:=by
 obtain⟨a,b,r,rfl,ha,hb⟩:=parts (cur:=R) (k:=n*4) (by omega)
 have h2:=Q4C c [] a (b++r) (by omega)
 simp only[List.nil_append,List.length_nil]at h2
 rw[h2]
 have h1:=Q4C xs c b r (by omega)
 rw[hc]at h1
 rw[h1,←List.append_assoc,List.take_left' (by simp;omega)]
theorem Y4b{S0:List Nat}{w0 w:World}{n lit:Nat}{c0 c1 c2 c3 nv:Value}{xs:List Value}{rs:List Res}(H:Has S0 w0 w (.own 40 4 nv n xs:: .blk lit #[c0,c1,c2,c3]::rs))(hbig:n≤1000)(h1c: ∀v∈xs,v.oneCell'=true)(h1v: ∀u∈[c0,c1,c2,c3],u.oneCell'=true):
 Calls Tryz.prog 53 #[nv, .int .i64 0, .slice (some ⟨lit,0,none⟩) 1 1] w (X9E S0 w0 (n+1) ([c0,c1,c2,c3]++xs) rs):=by
 have hown:=Has.Q5B H 0 rfl
 have hxl:=hown.1
 by_cases h0:n=0
 ·subst h0
  obtain rfl:xs=[]:=List.length_eq_zero_iff.1 (by omega)
  exact X8P H h1v
 ·have hlit:Blk w lit #[c0,c1,c2,c3]:=Has.at_ H 1 rfl
  rcases hown.2 with⟨_,h⟩|⟨g,cap,cur,rfl,_,hg,hcap,hmax,hsz,htk⟩
  ·exact absurd h h0
  ·have hne:lit≠g:=by
    have h1:=(List.pairwise_cons.1 H.apart).1 (.blk lit #[c0,c1,c2,c3]) (by simp)
    intro e
    exact h1 g (by simp[Res.foot,Value.ownBlock]) (by simp[Res.foot,e])
   have hg2:w.heap[g]? =some (.cells cur.toList.toArray 40 (0,0)):=by rw[Array.toArray_toList];exact hg
   have hcl:cur.toList.length=cap*4:=by rw[Array.length_toList];exact hsz
   have h63:cap≤9223372036854775807:=by unfold maxLen at hmax;omega
   by_cases hroom:n+1≤cap
   ·refine(X8N (by omega) hroom h63 hg2 hcl htk hlit hne h1c h1v).mono ?_
    rintro e w' ⟨rfl,rfl⟩
    refine⟨_,rfl,?_⟩
    have hh:=Q3j (e:=40) [c0,c1,c2,c3] _ 0 (Q3j (e:=40) xs cur.toList 4 (w:=w.drew) (by exact hg2))
    have hl:(setMany [c0,c1,c2,c3] (setMany xs cur.toList 4) 0).length=cap*4:=by rw[Q3C,Q3C,hcl]
    refine(Has.upd (xs:=[.own 40 4 (.slice (some ⟨g,0,none⟩) n cap) n xs]) (rs:= .blk lit #[c0,c1,c2,c3]::rs) [.own 40 4 (.slice (some ⟨g,0,none⟩) (n+1) cap) (n+1) ([c0,c1,c2,c3]++xs)] (S:=[g]) H
     (Touch.Q7l (by simp) _ _ (Touch.Q7l (by simp) _ _ (Touch.refl [g] w).drew)) (by simp[Q1F,Res.foot,Value.ownBlock]) ?_ (by simp) (by simp[Q1F,Res.foot,Value.ownBlock])).drop1
    intro r hr
    simp only[List.mem_singleton]at hr
    subst hr
    refine⟨by simp[hxl];omega,Or.inr ⟨g,cap,_,rfl,Nat.zero_le _,hh,hroom,hmax,by simpa using hl,?_⟩⟩
    simpa using X2F (n:=n) (c:=[c0,c1,c2,c3]) rfl hxl (by rw[hcl];omega)
   ·refine(Y1v (by omega) hcap (by omega) hbig hg2 hcl htk hlit hne h1c h1v).mono ?_
    rintro e w' ⟨G,R,hG1,hG2,hRl,rfl,ht,hh⟩
    refine⟨_,rfl,?_⟩
    have hl:(setMany xs (setMany [c0,c1,c2,c3] R 0) 4).length=G*4:=by rw[Q3C,Q3C,hRl]
    refine(Has.upd (xs:=[.own 40 4 (.slice (some ⟨g,0,none⟩) n cap) n xs]) (rs:= .blk lit #[c0,c1,c2,c3]::rs) [.own 40 4 (.slice (some ⟨w.heap.size,0,none⟩) (n+1) G) (n+1) ([c0,c1,c2,c3]++xs)] (S:=[]) H ht (by simp) ?_ (by simp) (by simp[Q1F,Res.foot,Value.ownBlock])).drop1
    intro r hr
    simp only[List.mem_singleton]at hr
    subst hr
    refine⟨by simp[hxl];omega,Or.inr ⟨_,G,_,rfl,Nat.zero_le _,hh,hG1,hG2,by simpa using hl,?_⟩⟩
    simpa using X8O (n:=n) (c:=[c0,c1,c2,c3]) rfl hxl (by rw[hRl];omega)
end
section
open Go.RowKit Go.Lib
theorem Has.Y6W{S0:List Nat}{w0 w:World}{rs:List Res}(H:Has S0 w0 w rs)(e size n:Nat)(cs:Array Value)(hs:cs.size=n*size)(hm:n≤1000):Has S0 w0 (w.alloc (.cells cs e)) (.own e size (.slice (some ⟨w.heap.size,0,none⟩) n n) n cs.toList::rs):=by
 refine Has.upd (xs:=[]) (rs:=rs) [.own e size (.slice (some ⟨w.heap.size,0,none⟩) n n) n cs.toList] (S:=[]) H ((Touch.refl [] w).alloc _) (by simp) ?_ (by simp) (by simp[Res.foot,Value.ownBlock])
 intro r hr
 simp only[List.mem_singleton]at hr
 subst hr
 refine⟨by simpa using hs,Or.inr ⟨w.heap.size,n,cs,rfl,Nat.zero_le _,?_,Nat.le_refl _,by unfold maxLen;omega,hs,?_⟩⟩
 ·show(w.heap.push _)[w.heap.size]? =_
  simp
 ·rw[←hs,←Array.length_toList,List.take_length]
theorem X1e{g:Rn→Rn}{M:Mt}{i:Nat}(h:(Q0K g (M.run i (M.fs.getD i Fr.zero))).notes.length≤10):(M.Q4B g i).2.notes.length≤11:=by
 unfold Mt.Q4B
 split
 ·rw[show∀(a:Mt) (b:Bool) (c:Acc) (l:List Nt),(a,(⟨b,c,l⟩:Ev)).2.notes=l from fun _ _ _ _=>rfl,List.length_append]
  exact Nat.succ_le_succ h
 ·exact Nat.le_succ_of_le h
theorem X1E(l:List Nt): ∀v∈nts l,v.oneCell'=true:=by
 intro v hv
 simp only[nts,List.mem_flatMap,Nt.cells]at hv
 obtain⟨x,_,hx⟩:=hv
 simp only[List.mem_cons,List.not_mem_nil,or_false]at hx
 rcases hx with rfl|rfl|rfl|rfl<;>rfl
theorem Q2N.stored{S0:List Nat}{w0 w:World}{p:Wl}{rs:List Res}{M:Mt}(H:Q2N S0 w0 p rs M w)(i:Nat)(hi:i<M.fs.length)(op h:Int)(hh:h=0∨h=1∨h=2):
 Q2N S0 w0 p rs (M.put i (Q4h op) h M.L) ((w.setCell ⟨p.tb,i*11,none⟩ (.int .i64 h)).setCells p.tb (i*11+1) [.int .i64 op, .int .i64 0, .int .u32 0, .int .u32 0, .int .i64 0, .bool false, .int .i64 0, .int .i64 0, .bool false, .int .i64 0]):=by
 refine⟨H.1.put i _ _ _ ⟨by simp[Q4h],by simp[Q4h]⟩ hh,?_⟩
 have h1:=(Has.front H.2 2 (by simp)).set (i*11) (.int .i64 h)
 rw[List.setIfInBounds_toArray,X0l _ _ _ _ H.1.hlen hi]at h1
 have h2:=Has.setMany (Q6x (Q4h op)) (i*11+1) h1
 rw[Q7T _ _ _ _ (by rw[List.length_set];exact H.1.hlen) hi]at h2
 show Has S0 w0 _ (.mem p.m p.a M.L:: .blk p.x (Q2H p M.mode M.n (M.fs.set i (Q4h op)).length):: .blk p.tb (Q1t (M.hold.set i h) (M.fs.set i (Q4h op))).toArray::rs)
 rw[List.length_set]
 exact(h2.front 2 (by simp)).front 2 (by simp)
theorem Y5S{S0:List Nat}{w0 W:World}{a b c d e f:Res}{rs:List Res}(H:Has S0 w0 W (f::a::b::c::d::e::rs)):Has S0 w0 W (b::c::d::a::rs):=
 ((((H.tail.front 4 (by simp)).tail).front 3 (by simp)).front 3 (by simp)).front 3 (by simp)
theorem Y5R{S0:List Nat}{w0 W:World}{a b c d e f g:Res}{rs:List Res}(H:Has S0 w0 W (g::a::b::c::d::e::f::rs)):Has S0 w0 W (c::d::e::a::rs):=
 ((((((H.tail.front 1 (by simp)).tail).front 4 (by simp)).tail.front 3 (by simp)).front 3 (by simp)).front 3 (by simp))
set_option maxRecDepth 100000 in
theorem X6u{S0:List Nat}{w0 w:World}{p:Wl}{rs:List Res}{M:Mt}{g:Rn→Rn}(K:Q8Y p.fid g)(H:Q2N S0 w0 p rs M w)(i:Nat)(hi:i<M.fs.length)(op:Int):
 Calls Tryz.prog 33 #[.pointer (some ⟨p.x,0,none⟩), .int .i64 i, .int .i64 op] w (WEv S0 w0 p rs (M.Q5V g i op)):=by
 have hstep:=fun(S0:List Nat) (w0 w:World) (rs:List Res) (HX:Q2N S0 w0 p rs (M.put i (Q4h op) (Q0w op (M.hold.getD i 0)) M.L) w)=>X3f K HX i (by simpa[Mt.put]using hi)
 have hst:=fun(w:World) (rs:List Res) (HX:Q2N S0 w0 p rs M w)=>Q2N.stored HX i hi op (Q0w op (M.hold.getD i 0)) (Q6X (HX.1.held i))
 have hfew:((M.put i (Q4h op) (Q0w op (M.hold.getD i 0)) M.L).Q4B g i).2.notes.length≤11:=
  X1e (K.fine (s:=(M.put i (Q4h op) (Q0w op (M.hold.getD i 0)) M.L).run i ((M.put i (Q4h op) (Q0w op (M.hold.getD i 0)) M.L).fs.getD i Fr.zero)) H.words ⟨H.1.n64,((H.1.put i (Q4h op) (Q0w op (M.hold.getD i 0)) M.L ⟨by simp[Q4h],by simp[Q4h]⟩ (Q6X (H.1.held i))).Y2w i).1,((H.1.put i (Q4h op) (Q0w op (M.hold.getD i 0)) M.L ⟨by simp[Q4h],by simp[Q4h]⟩ (Q6X (H.1.held i))).Y2w i).2⟩).2
 have hB:M.Q5V g i op=if Q6T op (M.hold.getD i 0)=true then(((M.put i (Q4h op) (Q0w op (M.hold.getD i 0)) M.L).Q4B g i).1,⟨true,((M.put i (Q4h op) (Q0w op (M.hold.getD i 0)) M.L).Q4B g i).2.acc,⟨i,1,op,0⟩::((M.put i (Q4h op) (Q0w op (M.hold.getD i 0)) M.L).Q4B g i).2.notes⟩)
  else(M,⟨true,Acc.zero,[⟨i,1,op,0⟩,⟨i,11,op,3⟩]⟩):=rfl
 have hran:((M.put i (Q4h op) (Q0w op (M.hold.getD i 0)) M.L).Q4B g i).2.ran=true:=by unfold Mt.Q4B;split<;>rfl
 generalize (M.put i (Q4h op) (Q0w op (M.hold.getD i 0)) M.L).Q4B g i=R2 at hB hstep hfew hran
 generalize M.Q5V g i op=R at hB⊢
 obtain⟨M2,ran2,⟨ak,ac,ax,ay,ao⟩,notes2⟩:=R2
 simp only at hran hfew hB
 subst hran
 have HSTEP:=Lib.hid hstep
 have HST:=Lib.hid hst
 have HFEW:=Lib.hid hfew
 have hmay:=fun(w:World)=>smay op (M.hold.getD i 0) (H.1.held i) w
 generalize Q6T op (M.hold.getD i 0)=mb at hB hmay
 have HMAY:=Lib.hid hmay
 have HB:=Lib.hid hB
 have HH:=Lib.hid H
 clear hstep hst hfew hmay hB H
 go_enter Tryz.func33,Tryz.ntmps33
 go_wp2_with fail
 refine Q1e (Facts:=fun W=>Q2N S0 w0 p (.blk w.heap.size Q3E::rs) M W) ?_ HH.out.box
 intro W1 H1
 generalize w.heap.size=rb at H1⊢
 refine(Q4N H1.xs i hi).mono ?_
 rintro e W2⟨rfl,rfl⟩
 have HF:=Lib.hid H1.1
 obtain⟨t0,t1,_,_,_,t5⟩:=Q2D (Q2N.ts (H1.box (c0:= #[.int .i64 i, .int .i64 1, .int .i64 op, .int .i64 0]) (t0:=40))) H1.1.hlen hi
 have HBX:=Lib.hid (H1.box (c0:= #[.int .i64 i, .int .i64 1, .int .i64 op, .int .i64 0]) (t0:=40))
 clear H1
 go_wp2_with fail
 refine Q1e (Facts:=fun W=>Q2N S0 w0 p (.blk W1.heap.size #[.int .i64 i, .int .i64 1, .int .i64 op, .int .i64 0]:: .blk rb Q3E::rs) M W) ?_ HBX.out
 clear HBX t0 t1 t5
 intro W3 H3
 generalize W1.heap.size=cb at H3⊢
 refine(HMAY.out _).mono ?_
 rintro e W4⟨rfl,rfl⟩
 obtain⟨z0,z1,z2⟩:=H3.first.own
 cases mb with
 |false=>
  have hR:=HB.out.trans (if_neg (by decide))
  subst hR
  have h4:=Has.Y6W H3.2 40 4 2 #[.int .i64 i, .int .i64 1, .int .i64 op, .int .i64 0, .int .i64 i, .int .i64 11, .int .i64 op, .int .i64 3] rfl (by decide)
  have HSR:=Lib.hid (Q2m (n:=7) (Has.at_ h4 5 rfl) (by decide))
  have HH4:=Lib.hid (Has.setMany #[.bool true, .int .i64 0, .int .i64 0, .int .u32 0, .int .u32 0, .int .u32 0, .slice (some ⟨W3.heap.size,0,none⟩) 2 2].toList 0 (Has.front h4 5 (by simp)))
  clear h4 H3
  go_wp2_with (refine wpList_store_mid rfl 35 (.tmp 6) (.tmp 28) rfl rb 0 #[.bool true, .int .i64 0, .int .i64 0, .int .u32 0, .int .u32 0, .int .u32 0, .slice (some ⟨W3.heap.size,0,none⟩) 2 2] (by first|rfl|kernel_rfl) (by first|rfl|kernel_rfl) HSR.out (by kernel_rfl) (by simp[Value.oneCell']) ?_)
  refine bodyPost_ret (Q2n rfl _ _ _ rb _ _ (by first|rfl|kernel_rfl) (World.rangeAt_setCells_same _ _ _ _ HSR.out) Tryz.underlying35 rfl (by kernel_rfl)) rfl ?_
  refine⟨.slice (some ⟨W3.heap.size,0,none⟩) 2 2,rfl,HF.out,?_⟩
  exact Y5S HH4.out
 |true=>
  have hR:=HB.out.trans (if_pos rfl)
  subst hR
  obtain⟨t0,t1,_,_,_,t5⟩:=Q2D H3.ts H3.1.hlen hi
  have h1:=(Has.front H3.2 2 (by simp)).set (i*11) (.int .i64 (Q0w op (M.hold.getD i 0)))
  rw[List.setIfInBounds_toArray,X0l _ _ _ _ H3.1.hlen hi]at h1
  have HT:=Lib.hid (Q2D (Has.at_ h1 0 rfl) (by rw[List.length_set];exact H3.1.hlen) hi).2.2.2.2.1
  have HH5:=Lib.hid (HST.out _ _ H3)
  clear h1 H3
  go_wp2_with fail
  refine(sat _ _ _).mono ?_
  rintro e W5⟨rfl,rfl⟩
  obtain⟨h',hh'⟩: ∃h',Q0w op (M.hold.getD i 0)=h':=⟨_,rfl⟩
  have hh2:Q0w op (M.hold[i]?.getD 0)=h':=hh'
  rw[hh2]
  rw[hh']at HT HH5
  have HHH:=Lib.hid hh'
  clear hh' hh2
  go_wp2_with (refine wpList_store_mid rfl 76 (.tmp 42) (.tmp 40) rfl p.tb (i*11+1) #[.int .i64 op, .int .i64 0, .int .u32 0, .int .u32 0, .int .i64 0, .bool false, .int .i64 0, .int .i64 0, .bool false, .int .i64 0] (by first|rfl|kernel_rfl) (by first|rfl|kernel_rfl) HT.out (by kernel_rfl) (by simp[Value.oneCell']) ?_;refine Q3B (Facts:=fun W=>Q2N S0 w0 p (.blk cb #[.int .i64 i, .int .i64 1, .int .i64 op, .int .i64 0]:: .blk rb Q3E::rs) (M.put i (Q4h op) h' M.L) W) ?_ HH5.out;clear HH5 HT;intro W6 H6;have HH6:=Lib.hid H6;clear H6)
  refine(HSTEP.out _ _ _ _ (by rw[HHH.out];exact HH6.out)).mono ?_
  rintro e w7⟨nv,rfl,F7,H7⟩
  simp only[Ev.cells]
  simp only at F7 H7
  obtain⟨pn,cn,rfl⟩:=Q2p (Has.Q5B H7 3 rfl)
  obtain⟨y0,y1,y2⟩:=(Has.at_ (Has.X1F H7 (c0:= #[.bool true, .int .i64 ak, .int .i64 ac, .int .u32 ax, .int .u32 ay, .int .u32 ao, .slice pn notes2.length cn]) (t0:=35)) 5 rfl).own
  have HH7:=Lib.hid H7
  have HF7:=Lib.hid F7
  clear H7 F7 HH6 z0 z1 z2 t0 t1 t5 HSTEP HST
  go_wp2_with fail
  refine Q1e (Facts:=fun W=>Has S0 w0 W (.own 40 4 (.slice pn notes2.length cn) notes2.length (nts notes2):: .blk (w7.heap.size+1) #[.int .i64 i, .int .i64 1, .int .i64 op, .int .i64 0]:: .blk w7.heap.size #[.bool true, .int .i64 ak, .int .i64 ac, .int .u32 ax, .int .u32 ay, .int .u32 ao, .slice pn notes2.length cn]:: .mem p.m p.a M2.L:: .blk p.x (Q2H p M2.mode M2.n M2.fs.length):: .blk p.tb (Q1t M2.hold M2.fs).toArray:: .blk cb #[.int .i64 i, .int .i64 1, .int .i64 op, .int .i64 0]:: .blk rb Q3E::rs)) ?_ (Has.front (Has.Y6X HH7.out) 5 (by simp))
  clear HH7 y0 y1 y2
  intro W8 H8
  generalize w7.heap.size+1=lit at H8⊢
  generalize w7.heap.size=eb at H8⊢
  refine(Y4b H8 (by have:=HFEW.out;omega) (X1E _) (by simp[Value.oneCell'])).mono ?_
  clear H8
  rintro e w9⟨v',rfl,H9⟩
  obtain⟨p',c',rfl⟩:=Q2p (Has.Q5B H9 0 rfl)
  obtain⟨y0,y1,y2⟩:=(Has.at_ H9 1 rfl).own
  have h10:=H9.set1 6 (.slice p' (notes2.length+1) c')
  simp only[List.setIfInBounds_toArray,List.set_cons_zero,List.set_cons_succ]at h10
  have HLE:=Lib.hid (Q6L [] [.bool true, .int .i64 ak, .int .i64 ac, .int .u32 ax, .int .u32 ay, .int .u32 ao, .slice p' (notes2.length+1) c'] [] (Has.at_ h10 1 rfl) rfl)
  have HSR:=Lib.hid (Q2m (n:=7) (Has.at_ h10 6 rfl) (by decide))
  have HH10:=Lib.hid (Has.setMany #[.bool true, .int .i64 ak, .int .i64 ac, .int .u32 ax, .int .u32 ay, .int .u32 ao, .slice p' (notes2.length+1) c'].toList 0 (Has.front h10 6 (by simp)))
  clear h10 H9
  go_wp2_with (first
   |(refine wpList_load_mid rfl 35 (.tmp 9) rfl eb 0 rfl _ _ HLE.out Tryz.underlying35 rfl (by kernel_rfl) ?_)
   |(refine wpList_store_mid rfl 35 (.tmp 6) (.tmp 52) rfl rb 0 #[.bool true, .int .i64 ak, .int .i64 ac, .int .u32 ax, .int .u32 ay, .int .u32 ao, .slice p' (notes2.length+1) c'] (by first|rfl|kernel_rfl) (by first|rfl|kernel_rfl) HSR.out (by kernel_rfl) (by simp[Value.oneCell']) ?_))
  refine bodyPost_ret (Q2n rfl _ _ _ rb _ _ (by first|rfl|kernel_rfl) (World.rangeAt_setCells_same _ _ _ _ HSR.out) Tryz.underlying35 rfl (by kernel_rfl)) rfl ?_
  exact⟨.slice p' (notes2.length+1) c',rfl,HF7.out,Y5R HH10.out⟩
end
section
open Go.RowKit Go.Lib
theorem Q6E{S0:List Nat}{w0 w:World}{p:Wl}{rs:List Res}{M:Mt}(H:Q2N S0 w0 p rs M w)(i:Nat)(hi:i<M.fs.length):
 Calls Tryz.prog 13 #[.pointer (some ⟨p.x,0,none⟩), .int .i64 i] w fun e w'=>e= .returned (.int .i64 (M.hold.getD i 0))∧w=w':=by
 have hx:=H.xs
 obtain⟨t0,t1,_,_,_,t5⟩:=Q2D H.ts H.1.hlen hi
 generalize M.hold.getD i 0=h at t1⊢
 have HX:=Lib.hid hx
 clear hx H
 go_enter Tryz.func13,Tryz.ntmps13
 go_wp2_with fail
 refine(Q4N HX.out i hi).mono ?_
 rintro e W2⟨rfl,rfl⟩
 go_wp2_with fail
 go_ret
 exact⟨rfl,rfl⟩
theorem Q7Q{S0:List Nat}{w0 w:World}{p:Wl}{rs:List Res}{M:Mt}(H:Q2N S0 w0 p rs M w)(i:Nat)(hi:i<M.fs.length):
 Calls Tryz.prog 21 #[.pointer (some ⟨p.x,0,none⟩), .int .i64 i] w fun e w'=>e= .returned (.int .i64 (M.fs.getD i Fr.zero).op)∧w=w':=by
 have hx:=H.xs
 obtain⟨t0,_,t2,_,_,t5⟩:=Q2D H.ts H.1.hlen hi
 generalize (M.fs.getD i Fr.zero).op=o at t2⊢
 have HX:=Lib.hid hx
 clear hx H
 go_enter Tryz.func21,Tryz.ntmps21
 go_wp2_with fail
 refine(Q4N HX.out i hi).mono ?_
 rintro e W2⟨rfl,rfl⟩
 go_wp2_with fail
 go_ret
 exact⟨rfl,rfl⟩
theorem X0O{S0:List Nat}{w0 w:World}{p:Wl}{rs:List Res}{M:Mt}(H:Q2N S0 w0 p rs M w)(i:Nat)(hi:i<M.fs.length):
 Calls Tryz.prog 22 #[.pointer (some ⟨p.x,0,none⟩), .int .i64 i] w fun e w'=>e= .returned (.bool (M.Q3a i))∧Q2N S0 w0 p rs M w':=by
 have hbusy:=Q7Q H i hi
 have hrun:=X5X H i hi
 have hs:M.Q3a i=((M.fs.getD i Fr.zero).op !=0 &&(!(M.fs.getD i Fr.zero).wk.on &&Q2R M.L M.n M.mode i (M.fs.getD i Fr.zero).st)):=rfl
 have hst:=fun(w:World) (HX:Q2N S0 w0 p rs M w)=>run_stuck (s:=M.run i (M.fs.getD i Fr.zero)) HX.2 H.1.n64 (.slice none 0 0)
 have e1: ∀f:Fr,(M.run i f).f=f∧(M.run i f).L=M.L∧(M.run i f).n=M.n∧(M.run i f).mode=M.mode∧(M.run i f).task=i:=fun f=>⟨rfl,rfl,rfl,rfl,rfl⟩
 simp only[(e1 _).1,(e1 _).2.1,(e1 _).2.2.1,(e1 _).2.2.2.1,(e1 _).2.2.2.2]at hst
 rw[hs]
 generalize (!(M.fs.getD i Fr.zero).wk.on &&Q2R M.L M.n M.mode i (M.fs.getD i Fr.zero).st)=b at hst⊢
 generalize (M.fs.getD i Fr.zero).op=o at hbusy⊢
 generalize M.run i (M.fs.getD i Fr.zero)=r0 at hrun hst
 have HBU:=Lib.hid hbusy
 have HRU:=Lib.hid hrun
 have HST:=Lib.hid hst
 have HH:=Lib.hid H
 clear hbusy hrun hst H hs e1
 by_cases h0:o=0
 ·subst h0
  go_enter Tryz.func22,Tryz.ntmps22
  go_wp2_with fail
  refine HBU.out.mono ?_
  rintro e W2⟨rfl,rfl⟩
  go_wp2_with fail
  go_ret
  exact⟨by simp,HH.out⟩
 ·have q0:(o !=0)=true:=by simpa using h0
  rw[q0]
  have HQ:=Lib.hid h0
  clear h0
  go_enter Tryz.func22,Tryz.ntmps22
  go_wp2_with fail
  refine HBU.out.mono ?_
  rintro e W2⟨rfl,rfl⟩
  go_wp2_with fail
  refine HRU.out.mono ?_
  rintro e W3⟨rfl,t3⟩
  go_wp2_with fail
  refine(HST.out _ (HH.out.grow t3)).mono ?_
  rintro e W4⟨rfl,H4⟩
  go_wp2_with fail
  go_ret
  exact⟨by simp,HH.out.1,H4⟩
theorem WEv.Q0N{S0:List Nat}{w0 w:World}{p:Wl}{rb pb:Nat}{c0 c1:Array Value}{rs:List Res}{R:Mt×Ev}{nv:Value}(F:X3d R.1)(H:Has S0 w0 w (.mem p.m p.a R.1.L:: .blk p.x (Q2H p R.1.mode R.1.n R.1.fs.length):: .blk p.tb (Q1t R.1.hold R.1.fs).toArray:: .own 40 4 nv R.2.notes.length (nts R.2.notes):: .blk rb c0:: .blk pb c1::rs)){cs:List Value}
 {e:Ending} (he:e= .returned (.agg (R.2.cells nv))):WEv S0 w0 p rs R e (w.setCells rb 0 cs):=by
 have h1:=(Has.front H 4 (by simp))
 have ht: ∀(vs:List Value) (o:Nat) (w:World) (c0:Array Value),Has S0 w0 w (.blk rb c0:: .mem p.m p.a R.1.L:: .blk p.x (Q2H p R.1.mode R.1.n R.1.fs.length):: .blk p.tb (Q1t R.1.hold R.1.fs).toArray:: .own 40 4 nv R.2.notes.length (nts R.2.notes):: .blk pb c1::rs)→
  Has S0 w0 (w.setCells rb o vs) (.mem p.m p.a R.1.L:: .blk p.x (Q2H p R.1.mode R.1.n R.1.fs.length):: .blk p.tb (Q1t R.1.hold R.1.fs).toArray:: .own 40 4 nv R.2.notes.length (nts R.2.notes)::rs):=by
  intro vs
  induction vs with
  |nil=>intro o w c0 h;exact(h.tail.front 4 (by simp)).tail
  |cons v vs ih=>intro o w c0 h;rw[World.setCells];exact ih (o+1) _ _ (h.set o v)
 exact⟨nv,he,F,ht cs 0 w c0 h1⟩
set_option maxRecDepth 100000 in
theorem Q7P{S0:List Nat}{w0 w:World}{p:Wl}{rs:List Res}{M:Mt}{g:Rn→Rn}(K:Q8Y p.fid g)(H:Q2N S0 w0 p rs M w)(t op:Int):
 Calls Tryz.prog 12 #[.pointer (some ⟨p.x,0,none⟩), .agg #[.int .i64 t, .int .i64 op]] w (WEv S0 w0 p rs (M.Q3R g t op)):=by
 have H2:Q2N S0 w0 p (.blk (w.heap.size+1) Q3E:: .blk w.heap.size #[.int .i64 t, .int .i64 op]::rs) M ((w.alloc (.cells #[.int .i64 t, .int .i64 op] 38)).alloc (.cells Q3E 35)):=by
  have h:=(H.box (c0:= #[.int .i64 t, .int .i64 op]) (t0:=38)).box (c0:=Q3E) (t0:=35)
  rw[World.size_alloc]at h
  exact h
 by_cases hin:0≤t∧t<(M.fs.length:Int)
 ·obtain⟨i,rfl⟩: ∃i:Nat,t=i:=⟨t.toNat,by omega⟩
  have hi:i<M.fs.length:=by omega
  have hP:M.Q3R g (i:Int) op=if(M.fs.getD i Fr.zero).op=0 then(if 1≤op∧op≤8 then M.Q5V g i op else(M,Ev.none))else if M.Q3a i=true then(M,Ev.none)else M.Q4B g i:=if_pos hin
  rw[hP]
  have hword:=fun(w:World)=>Y6V op w
  have HBEG:=Lib.hid (fun(w:World) (rs:List Res) (HX:Q2N S0 w0 p rs M w)=>X6u K HX i hi op)
  have HSTE:=Lib.hid (fun(w:World) (rs:List Res) (HX:Q2N S0 w0 p rs M w)=>X3f K HX i hi)
  have hstu:=fun(w:World) (rs:List Res) (HX:Q2N S0 w0 p rs M w)=>X0O HX i hi
  obtain⟨o0,ho⟩: ∃o0,(M.fs.getD i Fr.zero).op=o0:=⟨_,rfl⟩
  rw[ho]
  have HO:=Lib.hid ho
  have HH:=Lib.hid H2
  clear H H2 hin hP ho
  by_cases h0:o0=0
  ·rw[if_pos h0]
   by_cases hv:1≤op∧op≤8
   ·rw[if_pos hv]
    rw[show decide (1≤op∧op≤8)=true from decide_eq_true hv]at hword
    have HWD:=Lib.hid hword
    subst h0
    clear hword hstu hv
    generalize M.Q5V g i op=R at HBEG⊢
    go_enter Tryz.func12,Tryz.ntmps12
    go_wp2_with fail
    refine Q1e (Facts:=fun W=>Q2N S0 w0 p (.blk (w.heap.size+1) Q3E:: .blk w.heap.size #[.int .i64 i, .int .i64 op]::rs) M W) ?_ HH.out
    clear HH
    intro W1 H1
    generalize w.heap.size+1=rb at H1⊢
    generalize w.heap.size=pb at H1⊢
    refine(Q4N H1.xs i hi).mono ?_
    rintro e W2⟨rfl,rfl⟩
    obtain⟨t0,_,t2,_,_,t5⟩:=Q2D H1.ts H1.1.hlen hi
    rw[HO.out]at t2
    obtain⟨z0,z1,z2⟩:=(Has.at_ H1.2 4 rfl).own
    have HSR:=Lib.hid (Q2m (n:=7) (Has.at_ H1.2 3 rfl) (by decide))
    have HH1:=Lib.hid H1
    clear H1
    go_wp2_with fail
    refine(HWD.out _).mono ?_
    rintro e W3⟨s,rfl,hs,t3⟩
    simp only[Bool.not_true]at hs
    have H3:=HH1.out.grow t3
    clear t0 t2 t5 z0 z1 z2 t3
    obtain⟨t0,_,t2,_,_,t5⟩:=Q2D H3.ts H3.1.hlen hi
    rw[HO.out]at t2
    obtain⟨z0,z1,z2⟩:=(Has.at_ H3.2 4 rfl).own
    clear HSR
    have HSR:=Lib.hid (Q2m (n:=7) (Has.at_ H3.2 3 rfl) (by decide))
    have HH3:=Lib.hid H3
    clear H3 HH1
    go_wp2_with fail
    refine(HBEG.out _ _ HH3.out).mono ?_
    rintro e w4⟨nv,rfl,F4,H4⟩
    obtain⟨pn,cn,rfl⟩:=Q2p (Has.Q5B H4 3 rfl)
    clear HSR
    have HSR:=Lib.hid (Q2m (n:=7) (Has.at_ H4 4 rfl) (by decide))
    have HF4:=Lib.hid F4
    have HH4:=Lib.hid H4
    clear F4 H4
    go_wp2_with (refine wpList_store_mid rfl 35 (.tmp 4) (.tmp 40) rfl rb 0 (Ev.cells R.2 (.slice pn R.2.notes.length cn)) (by first|rfl|kernel_rfl) (by first|rfl|kernel_rfl) HSR.out (by kernel_rfl) (by simp[Value.oneCell',Ev.cells]) ?_)
    refine bodyPost_ret (Q2n rfl _ _ _ rb _ _ (by first|rfl|kernel_rfl) (World.rangeAt_setCells_same _ _ _ _ HSR.out) Tryz.underlying35 rfl (by kernel_rfl)) rfl ?_
    exact WEv.Q0N HF4.out HH4.out rfl
   ·rw[if_neg hv]
    rw[show decide (1≤op∧op≤8)=false from decide_eq_false hv]at hword
    have HWD:=Lib.hid hword
    subst h0
    clear hword hstu hv
    go_enter Tryz.func12,Tryz.ntmps12
    go_wp2_with fail
    refine Q1e (Facts:=fun W=>Q2N S0 w0 p (.blk (w.heap.size+1) Q3E:: .blk w.heap.size #[.int .i64 i, .int .i64 op]::rs) M W) ?_ HH.out
    clear HH
    intro W1 H1
    generalize w.heap.size+1=rb at H1⊢
    generalize w.heap.size=pb at H1⊢
    refine(Q4N H1.xs i hi).mono ?_
    rintro e W2⟨rfl,rfl⟩
    obtain⟨t0,_,t2,_,_,t5⟩:=Q2D H1.ts H1.1.hlen hi
    rw[HO.out]at t2
    obtain⟨z0,z1,z2⟩:=(Has.at_ H1.2 4 rfl).own
    have HSR:=Lib.hid (Q2m (n:=7) (Has.at_ H1.2 3 rfl) (by decide))
    have HH1:=Lib.hid H1
    clear H1
    go_wp2_with fail
    refine(HWD.out _).mono ?_
    rintro e W3⟨s,rfl,hs,t3⟩
    simp only[Bool.not_false]at hs
    have H3:=HH1.out.grow t3
    clear t0 t2 t5 z0 z1 z2 t3
    obtain⟨t0,_,t2,_,_,t5⟩:=Q2D H3.ts H3.1.hlen hi
    rw[HO.out]at t2
    obtain⟨z0,z1,z2⟩:=(Has.at_ H3.2 4 rfl).own
    clear HSR
    have HSR:=Lib.hid (Q2m (n:=7) (Has.at_ H3.2 3 rfl) (by decide))
    have HH3:=Lib.hid H3
    clear H3 HH1
    go_wp2_with (refine wpList_store_mid rfl 35 (.tmp 4) (.tmp 27) rfl rb 0 #[.bool false, .int .i64 0, .int .i64 0, .int .u32 0, .int .u32 0, .int .u32 0, .slice none 0 0] (by first|rfl|kernel_rfl) (by first|rfl|kernel_rfl) HSR.out (by kernel_rfl) (by simp[Value.oneCell',Ev.cells]) ?_)
    refine bodyPost_ret (Q2n rfl _ _ _ rb _ _ (by first|rfl|kernel_rfl) (World.rangeAt_setCells_same _ _ _ _ HSR.out) Tryz.underlying35 rfl (by kernel_rfl)) rfl ?_
    exact WEv.Q0N (R:=(M,Ev.none)) (nv:= .slice none 0 0) HH3.out.1 ((HH3.out.2.Q9M 40 4).perm (List.perm_middle (l₁:=[_,_,_])).symm) rfl
  ·rw[if_neg h0]
   have q0:(o0==0)=false:=by simpa using h0
   generalize M.Q3a i=sb at hstu⊢
   have HSTU:=Lib.hid hstu
   have HQ0:=Lib.hid h0
   clear hword hstu h0
   generalize M.Q4B g i=R at HSTE⊢
   cases sb with
   |true=>
    rw[if_pos rfl]
    go_enter Tryz.func12,Tryz.ntmps12
    go_wp2_with fail
    refine Q1e (Facts:=fun W=>Q2N S0 w0 p (.blk (w.heap.size+1) Q3E:: .blk w.heap.size #[.int .i64 i, .int .i64 op]::rs) M W) ?_ HH.out
    clear HH
    intro W1 H1
    generalize w.heap.size+1=rb at H1⊢
    generalize w.heap.size=pb at H1⊢
    refine(Q4N H1.xs i hi).mono ?_
    rintro e W2⟨rfl,rfl⟩
    obtain⟨t0,_,t2,_,_,t5⟩:=Q2D H1.ts H1.1.hlen hi
    rw[HO.out]at t2
    obtain⟨z0,z1,z2⟩:=(Has.at_ H1.2 4 rfl).own
    have HSR:=Lib.hid (Q2m (n:=7) (Has.at_ H1.2 3 rfl) (by decide))
    have HH1:=Lib.hid H1
    clear H1
    go_wp2_with fail
    refine(HSTU.out _ _ HH1.out).mono ?_
    rintro e W3⟨rfl,H3⟩
    clear t0 t2 t5 z0 z1 z2
    obtain⟨t0,_,t2,_,_,t5⟩:=Q2D H3.ts H3.1.hlen hi
    rw[HO.out]at t2
    obtain⟨z0,z1,z2⟩:=(Has.at_ H3.2 4 rfl).own
    clear HSR
    have HSR:=Lib.hid (Q2m (n:=7) (Has.at_ H3.2 3 rfl) (by decide))
    have HH3:=Lib.hid H3
    clear H3 HH1
    go_wp2_with (refine wpList_store_mid rfl 35 (.tmp 4) (.tmp 46) rfl rb 0 #[.bool false, .int .i64 0, .int .i64 0, .int .u32 0, .int .u32 0, .int .u32 0, .slice none 0 0] (by first|rfl|kernel_rfl) (by first|rfl|kernel_rfl) HSR.out (by kernel_rfl) (by simp[Value.oneCell',Ev.cells]) ?_)
    refine bodyPost_ret (Q2n rfl _ _ _ rb _ _ (by first|rfl|kernel_rfl) (World.rangeAt_setCells_same _ _ _ _ HSR.out) Tryz.underlying35 rfl (by kernel_rfl)) rfl ?_
    exact WEv.Q0N (R:=(M,Ev.none)) (nv:= .slice none 0 0) HH3.out.1 ((HH3.out.2.Q9M 40 4).perm (List.perm_middle (l₁:=[_,_,_])).symm) rfl
   |false=>
    rw[if_neg (by decide)]
    go_enter Tryz.func12,Tryz.ntmps12
    go_wp2_with fail
    refine Q1e (Facts:=fun W=>Q2N S0 w0 p (.blk (w.heap.size+1) Q3E:: .blk w.heap.size #[.int .i64 i, .int .i64 op]::rs) M W) ?_ HH.out
    clear HH
    intro W1 H1
    generalize w.heap.size+1=rb at H1⊢
    generalize w.heap.size=pb at H1⊢
    refine(Q4N H1.xs i hi).mono ?_
    rintro e W2⟨rfl,rfl⟩
    obtain⟨t0,_,t2,_,_,t5⟩:=Q2D H1.ts H1.1.hlen hi
    rw[HO.out]at t2
    obtain⟨z0,z1,z2⟩:=(Has.at_ H1.2 4 rfl).own
    have HSR:=Lib.hid (Q2m (n:=7) (Has.at_ H1.2 3 rfl) (by decide))
    have HH1:=Lib.hid H1
    clear H1
    go_wp2_with fail
    refine(HSTU.out _ _ HH1.out).mono ?_
    rintro e W3⟨rfl,H3⟩
    clear t0 t2 t5 z0 z1 z2
    obtain⟨t0,_,t2,_,_,t5⟩:=Q2D H3.ts H3.1.hlen hi
    rw[HO.out]at t2
    obtain⟨z0,z1,z2⟩:=(Has.at_ H3.2 4 rfl).own
    clear HSR
    have HSR:=Lib.hid (Q2m (n:=7) (Has.at_ H3.2 3 rfl) (by decide))
    have HH3:=Lib.hid H3
    clear H3 HH1
    go_wp2_with fail
    refine(HSTE.out _ _ HH3.out).mono ?_
    rintro e w4⟨nv,rfl,F4,H4⟩
    obtain⟨pn,cn,rfl⟩:=Q2p (Has.Q5B H4 3 rfl)
    clear HSR
    have HSR:=Lib.hid (Q2m (n:=7) (Has.at_ H4 4 rfl) (by decide))
    have HF4:=Lib.hid F4
    have HH4:=Lib.hid H4
    clear F4 H4
    go_wp2_with (refine wpList_store_mid rfl 35 (.tmp 4) (.tmp 50) rfl rb 0 (Ev.cells R.2 (.slice pn R.2.notes.length cn)) (by first|rfl|kernel_rfl) (by first|rfl|kernel_rfl) HSR.out (by kernel_rfl) (by simp[Value.oneCell',Ev.cells]) ?_)
    refine bodyPost_ret (Q2n rfl _ _ _ rb _ _ (by first|rfl|kernel_rfl) (World.rangeAt_setCells_same _ _ _ _ HSR.out) Tryz.underlying35 rfl (by kernel_rfl)) rfl ?_
    exact WEv.Q0N HF4.out HH4.out rfl
 ·have hP:M.Q3R g t op=(M,Ev.none):=if_neg hin
  rw[hP]
  have HH:=Lib.hid H2
  clear H H2 hP
  go_enter Tryz.func12,Tryz.ntmps12
  go_wp2_with fail
  refine Q1e (Facts:=fun W=>Q2N S0 w0 p (.blk (w.heap.size+1) Q3E:: .blk w.heap.size #[.int .i64 t, .int .i64 op]::rs) M W) ?_ HH.out
  clear HH
  intro W1 H1
  generalize w.heap.size+1=rb at H1⊢
  generalize w.heap.size=pb at H1⊢
  refine(X5W H1.xs t hin).mono ?_
  rintro e W2⟨rfl,rfl⟩
  have HSR:=Lib.hid (Q2m (n:=7) (Has.at_ H1.2 3 rfl) (by decide))
  have HH1:=Lib.hid H1
  clear H1
  go_wp2_with (refine wpList_store_mid rfl 35 (.tmp 4) (.tmp 13) rfl rb 0 #[.bool false, .int .i64 0, .int .i64 0, .int .u32 0, .int .u32 0, .int .u32 0, .slice none 0 0] (by first|rfl|kernel_rfl) (by first|rfl|kernel_rfl) HSR.out (by kernel_rfl) (by simp[Value.oneCell',Ev.cells]) ?_)
  refine bodyPost_ret (Q2n rfl _ _ _ rb _ _ (by first|rfl|kernel_rfl) (World.rangeAt_setCells_same _ _ _ _ HSR.out) Tryz.underlying35 rfl (by kernel_rfl)) rfl ?_
  exact WEv.Q0N (R:=(M,Ev.none)) (nv:= .slice none 0 0) HH1.out.1 ((HH1.out.2.Q9M 40 4).perm (List.perm_middle (l₁:=[_,_,_])).symm) rfl
end
def Q1s(a b:Int):Int:=(a-b+2147483648)%4294967296-2147483648
theorem Q5k(a b:Int)(w:World)(ha:0≤a∧a<4294967296)(hb:0≤b∧b<4294967296):
 Calls Tryz.prog 168 #[.int .u32 a, .int .u32 b] w fun e w'=>e= .returned (.int .i64 (Q1s a b))∧w=w':=by
 have H:=Lib.hid (show wrap64 (wrap32 ((a-b)%4294967296))=Q1s a b from by unfold wrap64 wrap32 Q1s;omega)
 clear ha hb
 go_enter Tryz.func168,Tryz.ntmps168
 go_wp2
 go_ret
 refine⟨?_,rfl⟩
 rw[←H.out]
 rfl
set_option maxRecDepth 100000 in
theorem run_store{S0:List Nat}{w0 w:World}{m a r:Nat}{nv:Value}{rs:List Res}{s:Rn}(H:Has S0 w0 w (.mem m a s.L:: .blk r (Q0V m s nv)::rs))(c x:Int)(hx:0≤x∧x<4294967296):
 Calls Tryz.prog 137 #[.pointer (some ⟨r,0,none⟩), .int .i64 c, .int .u32 x] w fun e w'=>e= .returned (.tuple #[])∧Has S0 w0 w' (.mem m a (s.did (doA s.L ⟨2,c,x,0,0⟩)).L:: .blk r (Q0V m (s.did (doA s.L ⟨2,c,x,0,0⟩)) nv)::rs):=by
 have hd:=fun W (H:Has S0 w0 W (.mem m a s.L:: .blk r (Q0V m s nv)::rs))=>X1h H ⟨2,c,x,0,0⟩ hx (by simp)
 generalize doA s.L ⟨2,c,x,0,0⟩=R at hd⊢
 obtain⟨⟨rk,rc,rx,ry,ro⟩,rok,L2⟩:=R
 simp only[Acc.cells]at hd⊢
 have hf:=Q4S rk rc rx ry ro
 go_enter Tryz.func137,Tryz.ntmps137
 go_wp2_with (go_at_call 132;refine(hd _ H).mono ?_;rintro e w1 ⟨rfl,H1⟩)
 go_end0
 exact⟨rfl,H1⟩
theorem Q4l{S0:List Nat}{w0 w:World}{m a r:Nat}{rs:List Res}{s:Rn}(H:Q0a S0 w0 m a r rs s w)(c x:Int)(hx:0≤x∧x<4294967296):
 Calls Tryz.prog 137 #[.pointer (some ⟨r,0,none⟩), .int .i64 c, .int .u32 x] w fun e w'=>e= .returned (.tuple #[])∧Q0a S0 w0 m a r rs (s.did (doA s.L ⟨2,c,x,0,0⟩)) w':=by
 obtain⟨nv,H⟩:=H
 exact(run_store H c x hx).mono fun e w' h=>⟨h.1,nv,h.2⟩
end Go.Proofs.YthnimpkoidablaaGreat.Z
