import Derived.Deep.RegionHeld3
import Derived.Deep.DrawnRows
import Derived.Maps.OwnOps
import Derived.Test.YthnimpkoidablaaGreatZA02
import Derived.Test.YthnimpkoidablaaGreatZA05
set_option linter.unusedVariables false
set_option linter.unusedSimpArgs false
set_option maxHeartbeats 1600000
namespace Go.Proofs.YthnimpkoidablaaGreat.Z
open Go.RowKit
def Q1y(mode stage:Int):Int:=if mode=2∧0≤stage∧stage≤4 then stage else 0
structure Q5C where
 stage:Int
 acc:Acc
 seen:Bool
 done:Bool
 words:List Int
def Q0t(L:List Int)(n mode task stage c:Int)(p:Int→Bool):Q5C:=
 let at_:=Q1y mode stage
 if at_=1 then let r:=doA L ⟨2,cellP n 2 task,(c+1)%4294967296,0,0⟩;⟨2,r.1,false,false,r.2.2⟩
 else if at_=2 then let r:=doA L ⟨1,c,0,0,0⟩;⟨if p r.1.old then 4 else 3,r.1,p r.1.old,false,L⟩
 else if at_=3 then let r:=takeA L n task;⟨if r.2.1 then 2 else 3,r.1,false,false,r.2.2⟩
 else if at_=4 then let r:=doA L ⟨2,cellP n 2 task,0,0,0⟩;⟨0,r.1,false,true,r.2.2⟩
 else let r:=doA L ⟨1,c,0,0,0⟩;⟨if p r.1.old then 0 else if mode=2 then 1 else 0,r.1,p r.1.old,p r.1.old,L⟩
theorem Q4Z(mode stage:Int):Q1y mode stage=0∨Q1y mode stage=1∨Q1y mode stage=2∨Q1y mode stage=3∨Q1y mode stage=4:=by
 unfold Q1y
 split<;>omega
theorem Q0s(L:List Int)(hw:Words L)(b:Acc):0≤(doA L b).1.old∧(doA L b).1.old<4294967296:=by
 have h0:=hw.getD b.cell.toNat
 unfold doA
 dsimp only
 repeat' split
 all_goals first|exact h0|(simp[Acc.zero])
theorem Q4Y(mode stage:Int)(w:World):Calls Tryz.prog 81 #[.int .i64 mode, .agg #[.int .i64 stage]] w fun e w'=>e= .returned (.int .i64 (Q1y mode stage))∧Touch [] w w':=by
 by_cases h1:mode=2
 ·subst h1
  by_cases h2:stage<0
  ·rw[show Q1y 2 stage=0 from if_neg (by omega)]
   go_enter Tryz.func81,Tryz.ntmps81
   go_wp2
   go_ret
   exact⟨rfl,(Touch.refl [] w).alloc _⟩
  ·by_cases h3:4<stage
   ·rw[show Q1y 2 stage=0 from if_neg (by omega)]
    go_enter Tryz.func81,Tryz.ntmps81
    go_wp2
    go_ret
    exact⟨rfl,(Touch.refl [] w).alloc _⟩
   ·rw[show Q1y 2 stage=stage from if_pos (by omega)]
    have h2': ¬(stage<0):=h2
    have h3': ¬(4<stage):=h3
    go_enter Tryz.func81,Tryz.ntmps81
    go_wp2
    go_ret
    exact⟨rfl,(Touch.refl [] w).alloc _⟩
 ·rw[show Q1y mode stage=0 from if_neg (by omega)]
  have h1':(mode !=2)=true:=by simpa using h1
  clear h1
  go_enter Tryz.func81,Tryz.ntmps81
  go_wp2
  go_ret
  exact⟨rfl,(Touch.refl [] w).alloc _⟩
theorem Q7y{w:World}{m a:Nat}{L:List Int}(h:Mem w m a L)(c:Int):
 Calls Tryz.prog 127 #[.pointer (some ⟨m,0,none⟩), .agg #[.int .i64 1, .int .i64 c, .int .u32 0, .int .u32 0, .int .u32 0]] w
  fun e w'=>e= .returned (.tuple #[.agg (doA L ⟨1,c,0,0,0⟩).1.cells, .bool (doA L ⟨1,c,0,0,0⟩).2.1])∧Touch [] w w':=by
 by_cases hc:0≤c∧c<L.length
 ·rw[show doA L ⟨1,c,0,0,0⟩=(⟨1,c,0,0,L.getD c.toNat 0⟩,true,L)from by unfold doA;rw[if_pos hc];rfl]
  exact X2R h c 0 0 0 _ hc.1 hc.2 rfl
 ·rw[show doA L ⟨1,c,0,0,0⟩=(Acc.zero,false,L)from if_neg hc]
  exact X9s h 1 c 0 0 0 hc
theorem notNil(fn:Fn)(first cap:Array Value)(w:World):Sem.run Tryz.prog (binOp BinOp.neq 140 (Value.func fn first cap) Value.nilFunc) w= .ok (.bool true) w:=by kernel_rfl
set_option maxRecDepth 100000 in
theorem X0Z{w:World}{m a:Nat}{L:List Int}(h:Mem w m a L)(n mode task stage c:Int)(fid:FuncId)(first cap:Array Value)(b:Bool){S:List Nat}{G:World→Prop}
 (eg: ∀args w,(callFunc fid args).run Tryz.prog w= .ok (.enter fid args) w) (hst:Q1y mode stage=0∨Q1y mode stage=2) (hS: ∀k,k∈S→k<w.heap.size∧k≠m∧k≠a) (hG: ∀W W' T,G W→Touch T W W'→(∀k,k∈T→w.heap.size≤k)→G W')
 (hF: ∀W,Touch [] w W→Calls Tryz.prog fid (first++ #[.int .u32 (doA L ⟨1,c,0,0,0⟩).1.old]++cap) W fun e W'=>e= .returned (.bool b)∧Touch S W W'∧G W'):
 Calls Tryz.prog 131 #[.pointer (some ⟨m,0,none⟩), .agg #[.int .i64 n], .int .i64 mode, .int .i64 task, .agg #[.int .i64 stage], .int .i64 c, .func (.func fid) first cap] w
  fun e w'=>e= .returned (.tuple #[.agg #[.int .i64 (if Q1y mode stage=2 then(if b then 4 else 3)else if b then 0 else if mode=2 then 1 else 0)], .agg (doA L ⟨1,c,0,0,0⟩).1.cells, .bool b, .bool (b &&decide (Q1y mode stage=0))])∧Mem w' m a L∧Touch S w w'∧G w':=by
 have hd:=fun W (hM:Mem W m a L)=>Q7y hM c
 have hs:=fun W=>Q4Y mode stage W
 generalize (doA L ⟨1,c,0,0,0⟩)=r at hd hF⊢
 obtain⟨⟨rk,rc,rx,ry,ro⟩,rok,L2⟩:=r
 simp only[Acc.cells]at hd hF⊢
 have hmode:Q1y mode stage=2→mode=2:=fun h=>by unfold Q1y at h;split at h<;>omega
 generalize Q1y mode stage=st at hs hst hmode⊢
 have HMODE:=Lib.hid hmode
 clear hmode
 generalize hnx:(if st=2 then(if b then(4:Int)else 3)else if b then 0 else if mode=2 then 1 else 0)=nx
 have HNX:=Lib.hid hnx
 clear hnx
 have HD:=Lib.hid hd
 have HF:=Lib.hid hF
 have HS:=Lib.hid hS
 have HG:=Lib.hid hG
 have HT:=Lib.hid hs
 clear hd hF hS hG hs
 have hrun:=notNil (.func fid) first cap
 rcases hst with rfl|rfl
 ·go_enter Tryz.func131,Tryz.ntmps131
  go_wp2_with fail
  refine(HT.out _).mono ?_
  rintro e w1⟨rfl,t1⟩
  obtain⟨B0,B1,B2,B3⟩:=t1.own4 (by simp)
  have T1:Touch [] w w1:=((((Touch.refl [] _).alloc _).alloc _).alloc _).alloc _|>.trans t1
  obtain⟨x0,x1,x2⟩:=B0.own
  obtain⟨y0,y1,y2⟩:=B3.own
  go_wp2_with fail
  refine(HD.out _ (h.touch T1 (by simp) (by simp))).mono ?_
  rintro e w2⟨rfl,t2⟩
  have T2:Touch [] w w2:=T1.trans t2
  have Bn:=t2.blk B2 (by simp)
  have Ba:=t2.blk B3 (by simp)
  clear x0 x1 x2 y0 y1 y2 B0 B1 B2 B3 t1 t2 T1
  obtain⟨y0,y1,y2⟩:=Ba.own
  go_wp2_with fail
  refine Q1e (Facts:=fun W=>Touch [] w W∧Blk W (w.heap.size+2) #[.int .i64 0]∧Blk W (w.heap.size+3) #[.int .i64 rk, .int .i64 rc, .int .u32 rx, .int .u32 ry, .int .u32 ro]) ?_ ⟨T2.newer Q1J (by simp;omega),Q1J.blk Bn (by simp),Q4m Ba⟩
  rintro W⟨tW,Bn,Ba⟩
  clear y0 y1 y2 T2
  refine(HF.out _ tW).mono ?_
  rintro e w3⟨rfl,t3,g3⟩
  have hM3:=(h.touch tW (by simp) (by simp)).touch t3 (fun hm=>(HS.out _ hm).2.1 rfl) (fun hm=>(HS.out _ hm).2.2 rfl)
  have T3:Touch S w w3:=(tW.mono (by simp)).trans t3
  have Bn3:=t3.blk Bn (fun hm=>by have:=(HS.out _ hm).1;omega)
  have Ba3:=t3.blk Ba (fun hm=>by have:=(HS.out _ hm).1;omega)
  clear Bn Ba t3 tW
  obtain⟨x0,x1,x2⟩:=Bn3.own
  obtain⟨y0,y1,y2⟩:=Ba3.own
  cases b with
  |true=>
   go_wp2_with fail
   go_region
   all_goals go_wp2
   refine bodyPost_ret (v:= .tuple #[.agg #[.int .i64 0], .agg #[.int .i64 rk, .int .i64 rc, .int .u32 rx, .int .u32 ry, .int .u32 ro], .bool true, .bool true]) (by simp[results,Tryz.results131,go_sem,x0,x1,y0,y1]) rfl ?_
   refine(fun(TF:Touch [w.heap.size+2,w.heap.size+3] w3 _)=>⟨by rw[←HNX.out];rfl,h.new hM3 rfl TF (by simp),T3.newer TF (by simp),HG.out _ _ _ g3 TF (by simp)⟩) ?_
   repeat(first|with_reducible exact Touch.refl _ _|with_reducible apply Touch.drew|with_reducible apply Touch.alloc|with_reducible refine Touch.set ?_ (by simp) _)
  |false=>
   by_cases h2:mode=2
   ·subst h2
    go_wp2_with fail
    go_region
    all_goals go_wp2
    refine bodyPost_ret (v:= .tuple #[.agg #[.int .i64 1], .agg #[.int .i64 rk, .int .i64 rc, .int .u32 rx, .int .u32 ry, .int .u32 ro], .bool false, .bool false]) (by simp[results,Tryz.results131,go_sem,x0,x1,y0,y1]) rfl ?_
    refine(fun(TF:Touch [w.heap.size+2,w.heap.size+3] w3 _)=>⟨by rw[←HNX.out];rfl,h.new hM3 rfl TF (by simp),T3.newer TF (by simp),HG.out _ _ _ g3 TF (by simp)⟩) ?_
    repeat(first|with_reducible exact Touch.refl _ _|with_reducible apply Touch.drew|with_reducible apply Touch.alloc|with_reducible refine Touch.set ?_ (by simp) _)
   ·have h2':(mode==2)=false:=by simpa using h2
    have H2:=Lib.hid h2
    clear h2
    go_wp2_with fail
    go_region
    all_goals go_wp2
    refine bodyPost_ret (v:= .tuple #[.agg #[.int .i64 0], .agg #[.int .i64 rk, .int .i64 rc, .int .u32 rx, .int .u32 ry, .int .u32 ro], .bool false, .bool false]) (by simp[results,Tryz.results131,go_sem,x0,x1,y0,y1]) rfl ?_
    refine(fun(TF:Touch [w.heap.size+2,w.heap.size+3] w3 _)=>⟨by rw[←HNX.out,if_neg (by decide),if_neg (by decide),if_neg H2.out];rfl,h.new hM3 rfl TF (by simp),T3.newer TF (by simp),HG.out _ _ _ g3 TF (by simp)⟩) ?_
    repeat(first|with_reducible exact Touch.refl _ _|with_reducible apply Touch.drew|with_reducible apply Touch.alloc|with_reducible refine Touch.set ?_ (by simp) _)
 ·go_enter Tryz.func131,Tryz.ntmps131
  go_wp2_with fail
  refine(HT.out _).mono ?_
  rintro e w1⟨rfl,t1⟩
  obtain⟨B0,B1,B2,B3⟩:=t1.own4 (by simp)
  have T1:Touch [] w w1:=((((Touch.refl [] _).alloc _).alloc _).alloc _).alloc _|>.trans t1
  obtain⟨x0,x1,x2⟩:=B0.own
  obtain⟨y0,y1,y2⟩:=B3.own
  go_wp2_with fail
  refine(HD.out _ (h.touch T1 (by simp) (by simp))).mono ?_
  rintro e w2⟨rfl,t2⟩
  have T2:Touch [] w w2:=T1.trans t2
  have Bn:=t2.blk B2 (by simp)
  have Ba:=t2.blk B3 (by simp)
  clear x0 x1 x2 y0 y1 y2 B0 B1 B2 B3 t1 t2 T1
  obtain⟨y0,y1,y2⟩:=Ba.own
  go_wp2_with fail
  refine Q1e (Facts:=fun W=>Touch [] w W∧Blk W (w.heap.size+2) #[.int .i64 0]∧Blk W (w.heap.size+3) #[.int .i64 rk, .int .i64 rc, .int .u32 rx, .int .u32 ry, .int .u32 ro]) ?_ ⟨T2.newer Q1J (by simp;omega),Q1J.blk Bn (by simp),Q4m Ba⟩
  rintro W⟨tW,Bn,Ba⟩
  clear y0 y1 y2 T2
  refine(HF.out _ tW).mono ?_
  rintro e w3⟨rfl,t3,g3⟩
  have hM3:=(h.touch tW (by simp) (by simp)).touch t3 (fun hm=>(HS.out _ hm).2.1 rfl) (fun hm=>(HS.out _ hm).2.2 rfl)
  have T3:Touch S w w3:=(tW.mono (by simp)).trans t3
  have Bn3:=t3.blk Bn (fun hm=>by have:=(HS.out _ hm).1;omega)
  have Ba3:=t3.blk Ba (fun hm=>by have:=(HS.out _ hm).1;omega)
  clear Bn Ba t3 tW
  obtain⟨x0,x1,x2⟩:=Bn3.own
  obtain⟨y0,y1,y2⟩:=Ba3.own
  cases b with
  |true=>
   go_wp2_with fail
   go_region
   all_goals go_wp2
   refine bodyPost_ret (v:= .tuple #[.agg #[.int .i64 4], .agg #[.int .i64 rk, .int .i64 rc, .int .u32 rx, .int .u32 ry, .int .u32 ro], .bool true, .bool false]) (by simp[results,Tryz.results131,go_sem,x0,x1,y0,y1]) rfl ?_
   refine(fun(TF:Touch [w.heap.size+2,w.heap.size+3] w3 _)=>⟨by rw[←HNX.out];rfl,h.new hM3 rfl TF (by simp),T3.newer TF (by simp),HG.out _ _ _ g3 TF (by simp)⟩) ?_
   repeat(first|with_reducible exact Touch.refl _ _|with_reducible apply Touch.drew|with_reducible apply Touch.alloc|with_reducible refine Touch.set ?_ (by simp) _)
  |false=>
   have hmode:=HMODE.out (by first|rfl|trivial)
   subst hmode
   go_wp2_with fail
   go_region
   all_goals go_wp2
   refine bodyPost_ret (v:= .tuple #[.agg #[.int .i64 3], .agg #[.int .i64 rk, .int .i64 rc, .int .u32 rx, .int .u32 ry, .int .u32 ro], .bool false, .bool false]) (by simp[results,Tryz.results131,go_sem,x0,x1,y0,y1]) rfl ?_
   refine(fun(TF:Touch [w.heap.size+2,w.heap.size+3] w3 _)=>⟨by rw[←HNX.out];rfl,h.new hM3 rfl TF (by simp),T3.newer TF (by simp),HG.out _ _ _ g3 TF (by simp)⟩) ?_
   repeat(first|with_reducible exact Touch.refl _ _|with_reducible apply Touch.drew|with_reducible apply Touch.alloc|with_reducible refine Touch.set ?_ (by simp) _)
set_option maxRecDepth 100000 in
theorem X0i{w:World}{m a:Nat}{L:List Int}(h:Mem w m a L)(n mode task stage c:Int)(hn:I64 n)(fv:Value)(hst:Q1y mode stage=1):
 Calls Tryz.prog 131 #[.pointer (some ⟨m,0,none⟩), .agg #[.int .i64 n], .int .i64 mode, .int .i64 task, .agg #[.int .i64 stage], .int .i64 c,fv] w
  fun e w'=>e= .returned (.tuple #[.agg #[.int .i64 2], .agg (doA L ⟨2,cellP n 2 task,(c+1)%4294967296,0,0⟩).1.cells, .bool false, .bool false])∧Mem w' m a (doA L ⟨2,cellP n 2 task,(c+1)%4294967296,0,0⟩).2.2∧Touch (lv a L) w w':=by
 have hd: ∀W X,X=(c+1)%4294967296→Mem W m a L→Calls Tryz.prog 127 #[.pointer (some ⟨m,0,none⟩), .agg #[.int .i64 2, .int .i64 (cellP n 2 task), .int .u32 X, .int .u32 0, .int .u32 0]] W
  fun e w'=>e= .returned (.tuple #[.agg (doA L ⟨2,cellP n 2 task,(c+1)%4294967296,0,0⟩).1.cells, .bool (doA L ⟨2,cellP n 2 task,(c+1)%4294967296,0,0⟩).2.1])∧Mem w' m a (doA L ⟨2,cellP n 2 task,(c+1)%4294967296,0,0⟩).2.2∧Touch (lv a L) W w':=
  fun W X hX hM=>by subst hX;exact X1U hM ⟨2,cellP n 2 task,(c+1)%4294967296,0,0⟩ (by simp;omega) (by simp)
 have hl:=Q2k L ⟨2,cellP n 2 task,(c+1)%4294967296,0,0⟩
 have hs:=fun W=>Q4Y mode stage W
 rw[hst]at hs
 generalize (doA L ⟨2,cellP n 2 task,(c+1)%4294967296,0,0⟩)=r at hd hl⊢
 obtain⟨⟨rk,rc,rx,ry,ro⟩,rok,L2⟩:=r
 simp only[Acc.cells]at hd hl⊢
 have HD:=Lib.hid hd
 have HL:=Lib.hid hl
 have HN:=Lib.hid hn
 have HT:=Lib.hid hs
 clear hd hl hn hs hst
 go_enter Tryz.func131,Tryz.ntmps131
 go_wp2_with fail
 refine(HT.out _).mono ?_
 rintro e w1⟨rfl,t1⟩
 obtain⟨B0,B1,B2,B3⟩:=t1.own4 (by simp)
 have T1:Touch [] w w1:=((((Touch.refl [] _).alloc _).alloc _).alloc _).alloc _|>.trans t1
 obtain⟨x0,x1,x2⟩:=B0.own
 go_wp2_with fail
 refine(Q6U n task _ HN.out).mono ?_
 rintro e w2⟨rfl,t2⟩
 have T2:Touch [] w w2:=T1.trans t2
 have Bn:=t2.blk B2 (by simp)
 have Ba:=t2.blk B3 (by simp)
 clear x0 x1 x2 B0 B1 B2 B3 t1 t2 T1
 go_wp2_with fail
 refine(HD.out _ _ ?hX (h.touch T2 (by simp) (by simp))).mono ?_
 case hX=>unfold wrap64;omega
 rintro e w3⟨rfl,hM3,t3⟩
 have T3:Touch (lv a L) w w3:=(T2.mono (by simp)).trans t3
 have Bn3:=t3.blk Bn (Q7K h (by omega))
 have Ba3:=t3.blk Ba (Q7K h (by omega))
 clear Bn Ba t3 T2
 obtain⟨x0,x1,x2⟩:=Bn3.own
 obtain⟨y0,y1,y2⟩:=Ba3.own
 go_wp2_with fail
 refine Q1q (Facts:=fun W=>Touch [w.heap.size+2,w.heap.size+3] w3 W∧Blk W (w.heap.size+2) #[.int .i64 2]∧Blk W (w.heap.size+3) #[.int .i64 rk, .int .i64 rc, .int .u32 rx, .int .u32 ry, .int .u32 ro]) ?_
  ⟨(Q1J.mono (by simp)).set (by simp) _,((Q1J.blk Bn3 (by simp)).set 0 _).eq rfl,(Q4m Ba3).X1f (by simp) _⟩
 rintro W⟨tW,BnW,BaW⟩
 clear x0 x1 x2 y0 y1 y2 Bn3 Ba3
 obtain⟨x0,x1,x2⟩:=BnW.own
 obtain⟨y0,y1,y2⟩:=BaW.own
 go_region
 all_goals go_wp2
 refine bodyPost_ret (v:= .tuple #[.agg #[.int .i64 2], .agg #[.int .i64 rk, .int .i64 rc, .int .u32 rx, .int .u32 ry, .int .u32 ro], .bool false, .bool false]) (by simp[results,Tryz.results131,go_sem,x0,x1,y0,y1]) rfl ?_
 refine(fun(TF:Touch [w.heap.size+2,w.heap.size+3] w3 _)=>⟨rfl,h.new hM3 HL.out TF (by simp),T3.newer TF (by simp)⟩) ?_
 repeat(first|with_reducible exact tW|with_reducible exact Touch.refl _ _|with_reducible apply Touch.drew|with_reducible apply Touch.alloc|with_reducible refine Touch.set ?_ (by simp) _)
set_option maxRecDepth 100000 in
theorem Q6r{w:World}{m a:Nat}{L:List Int}(h:Mem w m a L)(n mode task stage c:Int)(hn:I64 n)(fv:Value)(hst:Q1y mode stage=4):
 Calls Tryz.prog 131 #[.pointer (some ⟨m,0,none⟩), .agg #[.int .i64 n], .int .i64 mode, .int .i64 task, .agg #[.int .i64 stage], .int .i64 c,fv] w
  fun e w'=>e= .returned (.tuple #[.agg #[.int .i64 0], .agg (doA L ⟨2,cellP n 2 task,0,0,0⟩).1.cells, .bool false, .bool true])∧Mem w' m a (doA L ⟨2,cellP n 2 task,0,0,0⟩).2.2∧Touch (lv a L) w w':=by
 have hd:=fun W (hM:Mem W m a L)=>X1U hM ⟨2,cellP n 2 task,0,0,0⟩ (by simp) (by simp)
 have hl:=Q2k L ⟨2,cellP n 2 task,0,0,0⟩
 have hs:=fun W=>Q4Y mode stage W
 rw[hst]at hs
 generalize (doA L ⟨2,cellP n 2 task,0,0,0⟩)=r at hd hl⊢
 obtain⟨⟨rk,rc,rx,ry,ro⟩,rok,L2⟩:=r
 simp only[Acc.cells]at hd hl⊢
 have HD:=Lib.hid hd
 have HL:=Lib.hid hl
 have HN:=Lib.hid hn
 have HT:=Lib.hid hs
 clear hd hl hn hs hst
 go_enter Tryz.func131,Tryz.ntmps131
 go_wp2_with fail
 refine(HT.out _).mono ?_
 rintro e w1⟨rfl,t1⟩
 obtain⟨B0,B1,B2,B3⟩:=t1.own4 (by simp)
 have T1:Touch [] w w1:=((((Touch.refl [] _).alloc _).alloc _).alloc _).alloc _|>.trans t1
 obtain⟨x0,x1,x2⟩:=B0.own
 go_wp2_with fail
 refine(Q6U n task _ HN.out).mono ?_
 rintro e w2⟨rfl,t2⟩
 have T2:Touch [] w w2:=T1.trans t2
 have Bn:=t2.blk B2 (by simp)
 have Ba:=t2.blk B3 (by simp)
 clear x0 x1 x2 B0 B1 B2 B3 t1 t2 T1
 go_wp2_with fail
 refine(HD.out _ (h.touch T2 (by simp) (by simp))).mono ?_
 rintro e w3⟨rfl,hM3,t3⟩
 have T3:Touch (lv a L) w w3:=(T2.mono (by simp)).trans t3
 have Bn3:=t3.blk Bn (Q7K h (by omega))
 have Ba3:=t3.blk Ba (Q7K h (by omega))
 clear Bn Ba t3 T2
 obtain⟨y0,y1,y2⟩:=Ba3.own
 go_wp2_with fail
 refine Q1q (Facts:=fun W=>Touch [w.heap.size+2,w.heap.size+3] w3 W∧Blk W (w.heap.size+2) #[.int .i64 0]∧Blk W (w.heap.size+3) #[.int .i64 rk, .int .i64 rc, .int .u32 rx, .int .u32 ry, .int .u32 ro]) ?_
  ⟨Q1J.mono (by simp),Q1J.blk Bn3 (by simp),Q4m Ba3⟩
 rintro W⟨tW,BnW,BaW⟩
 clear y0 y1 y2 Bn3 Ba3
 obtain⟨x0,x1,x2⟩:=BnW.own
 obtain⟨y0,y1,y2⟩:=BaW.own
 go_region
 all_goals go_wp2
 refine bodyPost_ret (v:= .tuple #[.agg #[.int .i64 0], .agg #[.int .i64 rk, .int .i64 rc, .int .u32 rx, .int .u32 ry, .int .u32 ro], .bool false, .bool true]) (by simp[results,Tryz.results131,go_sem,x0,x1,y0,y1]) rfl ?_
 refine(fun(TF:Touch [w.heap.size+2,w.heap.size+3] w3 _)=>⟨rfl,h.new hM3 HL.out TF (by simp),T3.newer TF (by simp)⟩) ?_
 repeat(first|with_reducible exact tW|with_reducible exact Touch.refl _ _|with_reducible apply Touch.drew|with_reducible apply Touch.alloc|with_reducible refine Touch.set ?_ (by simp) _)
set_option maxRecDepth 100000 in
theorem Q7i{w:World}{m a:Nat}{L:List Int}(h:Mem w m a L)(n mode task stage c:Int)(hn:I64 n)(fv:Value)(hst:Q1y mode stage=3):
 Calls Tryz.prog 131 #[.pointer (some ⟨m,0,none⟩), .agg #[.int .i64 n], .int .i64 mode, .int .i64 task, .agg #[.int .i64 stage], .int .i64 c,fv] w
  fun e w'=>e= .returned (.tuple #[.agg #[.int .i64 (if(takeA L n task).2.1 then 2 else 3)], .agg (takeA L n task).1.cells, .bool false, .bool false])∧Mem w' m a (takeA L n task).2.2∧Touch (lv a L) w w':=by
 have hmem:=h
 have hd:=fun W (hM:Mem W m a L)=>take_any hM n task hn
 have hl:(takeA L n task).2.2.length=L.length:=by
  unfold takeA
  split
  ·exact Q2k _ _
  ·rfl
 have hs:=fun W=>Q4Y mode stage W
 rw[hst]at hs
 generalize (takeA L n task)=r at hd hl⊢
 obtain⟨⟨rk,rc,rx,ry,ro⟩,rok,L2⟩:=r
 simp only[Acc.cells]at hd hl⊢
 have HD:=Lib.hid hd
 have HL:=Lib.hid hl
 have HT:=Lib.hid hs
 clear hd hl hn hs hst
 go_enter Tryz.func131,Tryz.ntmps131
 go_wp2_with fail
 refine(HT.out _).mono ?_
 rintro e w1⟨rfl,t1⟩
 obtain⟨B0,B1,B2,B3⟩:=t1.own4 (by simp)
 have T1:Touch [] w w1:=((((Touch.refl [] _).alloc _).alloc _).alloc _).alloc _|>.trans t1
 obtain⟨x0,x1,x2⟩:=B0.own
 go_wp2_with fail
 refine(HD.out _ (h.touch T1 (by simp) (by simp))).mono ?_
 rintro e w3⟨rfl,hM3,t3⟩
 have T3:Touch (lv a L) w w3:=(T1.mono (by simp)).trans t3
 have Bn3:=t3.blk B2 (Q7K hmem (by omega))
 have Ba3:=t3.blk B3 (Q7K hmem (by omega))
 clear B0 B1 B2 B3 t3 T1 x0 x1 x2 t1
 obtain⟨x0,x1,x2⟩:=Bn3.own
 obtain⟨y0,y1,y2⟩:=Ba3.own
 cases rok with
 |true=>
  go_wp2_with fail
  refine Q1q (Facts:=fun W=>Touch [w.heap.size+2,w.heap.size+3] w3 W∧Blk W (w.heap.size+2) #[.int .i64 2]∧Blk W (w.heap.size+3) #[.int .i64 rk, .int .i64 rc, .int .u32 rx, .int .u32 ry, .int .u32 ro]) ?_
   ⟨(Q1J.mono (by simp)).set (by simp) _,((Q1J.blk Bn3 (by simp)).set 0 _).eq rfl,(Q4m Ba3).X1f (by simp) _⟩
  rintro W⟨tW,BnW,BaW⟩
  clear x0 x1 x2 y0 y1 y2 Bn3 Ba3
  obtain⟨x0,x1,x2⟩:=BnW.own
  obtain⟨y0,y1,y2⟩:=BaW.own
  go_region
  all_goals go_wp2
  refine bodyPost_ret (v:= .tuple #[.agg #[.int .i64 2], .agg #[.int .i64 rk, .int .i64 rc, .int .u32 rx, .int .u32 ry, .int .u32 ro], .bool false, .bool false]) (by simp[results,Tryz.results131,go_sem,x0,x1,y0,y1]) rfl ?_
  refine(fun(TF:Touch [w.heap.size+2,w.heap.size+3] w3 _)=>⟨rfl,hmem.new hM3 HL.out TF (by simp),T3.newer TF (by simp)⟩) ?_
  repeat(first|with_reducible exact tW|with_reducible exact Touch.refl _ _|with_reducible apply Touch.drew|with_reducible apply Touch.alloc|with_reducible refine Touch.set ?_ (by simp) _)
 |false=>
  go_wp2_with fail
  refine Q1q (Facts:=fun W=>Touch [w.heap.size+2,w.heap.size+3] w3 W∧Blk W (w.heap.size+2) #[.int .i64 3]∧Blk W (w.heap.size+3) #[.int .i64 rk, .int .i64 rc, .int .u32 rx, .int .u32 ry, .int .u32 ro]) ?_
   ⟨(Q1J.mono (by simp)).set (by simp) _,((Q1J.blk Bn3 (by simp)).set 0 _).eq rfl,(Q4m Ba3).X1f (by simp) _⟩
  rintro W⟨tW,BnW,BaW⟩
  clear x0 x1 x2 y0 y1 y2 Bn3 Ba3
  obtain⟨x0,x1,x2⟩:=BnW.own
  obtain⟨y0,y1,y2⟩:=BaW.own
  go_region
  all_goals go_wp2
  refine bodyPost_ret (v:= .tuple #[.agg #[.int .i64 3], .agg #[.int .i64 rk, .int .i64 rc, .int .u32 rx, .int .u32 ry, .int .u32 ro], .bool false, .bool false]) (by simp[results,Tryz.results131,go_sem,x0,x1,y0,y1]) rfl ?_
  refine(fun(TF:Touch [w.heap.size+2,w.heap.size+3] w3 _)=>⟨rfl,hmem.new hM3 HL.out TF (by simp),T3.newer TF (by simp)⟩) ?_
  repeat(first|with_reducible exact tW|with_reducible exact Touch.refl _ _|with_reducible apply Touch.drew|with_reducible apply Touch.alloc|with_reducible refine Touch.set ?_ (by simp) _)
attribute [local go_sem↓] Go.wp_at_zero Go.wp_at_succ
structure Wk where
 on:Bool
 cell:Int
 i:Int
 hit:Bool
deriving DecidableEq
def Wk.zero:Wk:=⟨false,0,0,false⟩
def Wk.cells(k:Wk):Array Value:= #[.bool k.on, .int .i64 k.cell, .int .i64 k.i, .bool k.hit]
def Q4e(n:Int)(k:Wk):Wk:=if n≤k.i+1 then Wk.zero else⟨k.on,k.cell,k.i+1,false⟩
def Q4K(L:List Int)(n:Int)(k:Wk):Wk×Acc×List Int:=
 if k.on then
  if k.hit then(if(Q4M L n k.i).2.1 then(Q4e n k,(Q4M L n k.i).1,(Q4M L n k.i).2.2)else(Wk.zero,Acc.zero,L))
  else if(doA L ⟨1,cellP n 2 k.i,0,0,0⟩).2.1 then
   (if(doA L ⟨1,cellP n 2 k.i,0,0,0⟩).1.old=(k.cell+1)%4294967296 then⟨k.on,k.cell,k.i,true⟩else Q4e n k,(doA L ⟨1,cellP n 2 k.i,0,0,0⟩).1,L)
  else(Wk.zero,Acc.zero,L)
 else(Wk.zero,Acc.zero,L)
def Q3e(mode c:Int):Wk:=if mode=2 then⟨true,c,0,false⟩else Wk.zero
theorem X0b{n row i:Int}(h:0≤cellP n row i):0≤i∧i<64:=by
 unfold cellP at h
 split at h<;>omega
theorem Q8P{L:List Int}{b:Acc}(h:(doA L b).2.1=true):0≤b.cell∧b.cell<L.length:=by
 unfold doA at h
 split at h
 ·assumption
 ·simp at h
theorem Y2y{L:List Int}{b:Acc}(h:(doA L b).2.1=false):doA L b=(Acc.zero,false,L):=by
 unfold doA at h⊢
 split
 ·rename_i hc
  rw[if_pos hc]at h
  dsimp only at h⊢
  split
  ·rename_i h1;rw[if_pos h1]at h;simp at h
  ·rename_i h1;rw[if_neg h1]at h
   split
   ·rename_i h3;rw[if_pos h3]at h;simp at h
   ·rename_i h3;rw[if_neg h3]at h
    split
    ·rename_i h5;rw[if_pos h5]at h;simp at h
    ·rename_i h5;rw[if_neg h5]at h
     split
     ·rename_i h24;rw[if_pos h24]at h;simp at h
     ·rfl
 ·rfl
theorem X9z(mode c:Int)(w:World):Calls Tryz.prog 133 #[.int .i64 mode, .int .i64 c] w fun e w'=>e= .returned (.agg (Q3e mode c).cells)∧Touch [] w w':=by
 by_cases h:mode=2
 ·subst h
  simp only[Q3e,if_true,Wk.cells]
  go_enter Tryz.func133,Tryz.ntmps133
  go_wp2
  refine bodyPost_ret (v:= .agg #[.bool true, .int .i64 c, .int .i64 0, .bool false]) (by simp[results,Tryz.results133,go_sem]) rfl ⟨rfl,?_⟩
  repeat(first|with_reducible exact Touch.refl _ _|with_reducible apply Touch.alloc|with_reducible refine Touch.Q7E ?_ (by simp) _)
 ·rw[show Q3e mode c=Wk.zero from if_neg h]
  have h':(mode !=2)=true:=by simpa using h
  clear h
  simp only[Wk.cells,Wk.zero]
  go_enter Tryz.func133,Tryz.ntmps133
  go_wp2
  refine bodyPost_ret (v:= .agg #[.bool false, .int .i64 0, .int .i64 0, .bool false]) (by simp[results,Tryz.results133,go_sem]) rfl ⟨rfl,?_⟩
  repeat(first|with_reducible exact Touch.refl _ _|with_reducible apply Touch.alloc|with_reducible refine Touch.Q7E ?_ (by simp) _)
theorem X0V(n:Int)(k:Wk)(w:World)(hi:0≤k.i∧k.i<64):
 Calls Tryz.prog 126 #[.agg #[.int .i64 n], .agg k.cells] w fun e w'=>e= .returned (.agg (Q4e n k).cells)∧Touch [] w w':=by
 obtain⟨on,cell,i,hit⟩:=k
 obtain⟨i0,i1⟩:=hi
 simp only at i0 i1
 by_cases h:n≤i+1
 ·rw[show Q4e n ⟨on,cell,i,hit⟩=Wk.zero from if_pos h]
  simp only[Wk.cells,Wk.zero]
  go_enter Tryz.func126,Tryz.ntmps126
  go_wp2
  refine bodyPost_ret (v:= .agg #[.bool false, .int .i64 0, .int .i64 0, .bool false]) (by simp[results,Tryz.results126,go_sem]) rfl ⟨rfl,?_⟩
  repeat(first|with_reducible exact Touch.refl _ _|with_reducible apply Touch.alloc|with_reducible refine Touch.Q7E ?_ (by simp) _)
 ·rw[show Q4e n ⟨on,cell,i,hit⟩=⟨on,cell,i+1,false⟩from if_neg h]
  simp only[Wk.cells]
  go_enter Tryz.func126,Tryz.ntmps126
  go_wp2
  refine bodyPost_ret (v:= .agg #[.bool on, .int .i64 cell, .int .i64 (i+1), .bool false]) (by simp[results,Tryz.results126,go_sem]) rfl ⟨rfl,?_⟩
  repeat(first|with_reducible exact Touch.refl _ _|with_reducible apply Touch.alloc|with_reducible refine Touch.Q7E ?_ (by simp) _)
theorem X4b{S0:List Nat}{w0 w:World}{m a:Nat}{L:List Int}{rs:List Res}(H:Has S0 w0 w (.mem m a L::rs))(n i:Int)(hn:I64 n):
 Calls Tryz.prog 125 #[.pointer (some ⟨m,0,none⟩), .agg #[.int .i64 n], .int .i64 i] w
  fun e w'=>e= .returned (.tuple #[.agg (Q4M L n i).1.cells, .bool (Q4M L n i).2.1])∧Has S0 w0 w' (.mem m a (Q4M L n i).2.2::rs):=
 (Y1x H.mem n i hn).mono fun e w' ⟨he,hM,t⟩=>⟨he,H.words hM (Q2k _ _) t⟩
theorem Y7o{S0:List Nat}{w0 w:World}{m a:Nat}{L:List Int}{rs:List Res}(H:Has S0 w0 w (.mem m a L::rs))(b:Acc)(hx:0≤b.x∧b.x<4294967296)(hy:0≤b.y∧b.y<4294967296):
 Calls Tryz.prog 127 #[.pointer (some ⟨m,0,none⟩), .agg b.cells] w
  fun e w'=>e= .returned (.tuple #[.agg (doA L b).1.cells, .bool (doA L b).2.1])∧Has S0 w0 w' (.mem m a (doA L b).2.2::rs):=
 (X1U H.mem b hx hy).mono fun e w' ⟨he,hM,t⟩=>⟨he,H.words hM (Q2k _ _) t⟩
theorem Q7x{S0:List Nat}{w0 w:World}{m a:Nat}{L:List Int}{rs:List Res}(H:Has S0 w0 w (.mem m a L::rs))(c:Int):
 Calls Tryz.prog 127 #[.pointer (some ⟨m,0,none⟩), .agg #[.int .i64 1, .int .i64 c, .int .u32 0, .int .u32 0, .int .u32 0]] w
  fun e w'=>e= .returned (.tuple #[.agg (doA L ⟨1,c,0,0,0⟩).1.cells, .bool (doA L ⟨1,c,0,0,0⟩).2.1])∧Has S0 w0 w' (.mem m a L::rs):=
 (Q7y H.mem c).mono fun e w' ⟨he,t⟩=>⟨he,H.grow t⟩
set_option maxRecDepth 100000 in
theorem X9T{S0:List Nat}{w0 w:World}{rs:List Res}(H:Has S0 w0 w rs)(mm:Value)(n cell i:Int)(hit:Bool):
 Calls Tryz.prog 80 #[mm, .agg #[.int .i64 n], .agg (Wk.mk false cell i hit).cells] w
  fun e w'=>e= .returned (.tuple #[.agg Wk.zero.cells, .agg Acc.zero.cells])∧Has S0 w0 w' rs:=by
 simp only[Wk.cells,Wk.zero,Acc.zero,Acc.cells]
 go_enter Tryz.func80,Tryz.ntmps80
 go_wp2
 refine bodyPost_ret (v:= .tuple #[.agg #[.bool false, .int .i64 0, .int .i64 0, .bool false], .agg #[.int .i64 0, .int .i64 0, .int .u32 0, .int .u32 0, .int .u32 0]]) (by simp[results,Tryz.results80,go_sem]) rfl ⟨rfl,H.grow ?_⟩
 repeat(first|with_reducible exact Touch.refl _ _|with_reducible apply Touch.alloc|with_reducible refine Touch.Q7E ?_ (by simp) _)
set_option maxRecDepth 100000 in
theorem X2f{S0:List Nat}{w0 w:World}{m a:Nat}{L:List Int}{rs:List Res}(H:Has S0 w0 w (.mem m a L::rs))(n cell i:Int)(hn:I64 n)(hb:(Q4M L n i).2.1=false):
 Calls Tryz.prog 80 #[.pointer (some ⟨m,0,none⟩), .agg #[.int .i64 n], .agg (Wk.mk true cell i true).cells] w
  fun e w'=>e= .returned (.tuple #[.agg Wk.zero.cells, .agg Acc.zero.cells])∧Has S0 w0 w' (.mem m a L::rs):=by
 have hg:=fun W rs (H:Has S0 w0 W (.mem m a L::rs))=>X4b H n i hn
 rw[show Q4M L n i=(Acc.zero,false,L)from Y2y hb]at hg
 have HG:=Lib.hid hg
 have HH:=Lib.hid H
 clear hg hb hn H
 simp only[Wk.cells,Wk.zero,Acc.zero,Acc.cells]
 go_enter Tryz.func80,Tryz.ntmps80
 go_wp2_with fail
 refine(HG.out _ _ HH.out.al5).mono ?_
 rintro e w1⟨rfl,H1⟩
 obtain⟨x0,x1,x2⟩:=H1.Q7A.own
 obtain⟨y0,y1,y2⟩:=H1.blk2.own
 obtain⟨z0,z1,z2⟩:=H1.Y5I.own
 simp only[Acc.cells,Acc.zero]
 go_wp2_with fail
 refine bodyPost_ret (v:= .tuple #[.agg #[.bool false, .int .i64 0, .int .i64 0, .bool false], .agg #[.int .i64 0, .int .i64 0, .int .u32 0, .int .u32 0, .int .u32 0]]) (by simp[results,Tryz.results80,go_sem,y0,y1,y2,z0,z1,z2]) rfl ⟨rfl,?_⟩
 exact H1.done5 (by repeat(first|with_reducible exact Touch.refl _ _|with_reducible apply Touch.alloc|with_reducible refine Touch.set ?_ (by simp) _))
def Q5W(S0:List Nat)(w0:World)(m a:Nat)(L:List Int)(g:Nat)(ga:Array Value)(b:Nat)(gn gk:Array Value)(rs:List Res)(w':World):Prop:=
 ∃c2 c3:Array Value,c2.size=4∧c3.size=5∧Has S0 w0 w' (.mem m a L:: .blk g ga:: .blk (b+4) #[.bool false, .int .i64 0, .int .i64 0, .bool false]:: .blk (b+3) c3:: .blk (b+2) c2:: .blk (b+1) gk:: .blk b gn::rs)
theorem Q5W.set2{S0:List Nat}{w0:World}{m a:Nat}{L:List Int}{g:Nat}{ga:Array Value}{b:Nat}{gn gk:Array Value}{rs:List Res}{w':World}(h:Q5W S0 w0 m a L g ga b gn gk rs w')(i:Nat)(v:Value):Q5W S0 w0 m a L g ga b gn gk rs (w'.setCell ⟨b+1+1,i,none⟩ v):=by
 obtain⟨c2,c3,e2,e3,H⟩:=h
 exact⟨c2.setIfInBounds i v,c3,by simpa using e2,e3,((H.perm (Q2c _ _ _ _ [_] _).symm).set i v).perm (Q2c _ _ _ _ [_] _)⟩
theorem Q5W.Y0m{S0:List Nat}{w0:World}{m a:Nat}{L:List Int}{g:Nat}{ga:Array Value}{b:Nat}{gn gk:Array Value}{rs:List Res}{w':World}(h:Q5W S0 w0 m a L g ga b gn gk rs w')(i:Nat)(v:Value):Q5W S0 w0 m a L g ga b gn gk rs (w'.setCell ⟨b+1+1+1,i,none⟩ v):=by
 obtain⟨c2,c3,e2,e3,H⟩:=h
 exact⟨c2,c3.setIfInBounds i v,e2,by simpa using e3,H.Y0m i v⟩
abbrev Y2C(g:Nat)(ga:Array Value)(b:Nat)(gn gk:Array Value)(w':World):Prop:=
 (∀i,w'.cell? ⟨g,i,none⟩=ga[i]?)∧(∀i,w'.cell? ⟨b+1,i,none⟩=gk[i]?)∧(∀i,w'.cell? ⟨b,i,none⟩=gn[i]?)∧
 (∀i,w'.frozen? ⟨b+1+1,i,none⟩=false)∧(∀i,w'.frozen? ⟨b+1+1+1,i,none⟩=false)∧
 (∀i,i<4→w'.cell? ⟨b+1+1,i,none⟩=some (Q7c w' (b+2) i))∧(∀i,i<5→w'.cell? ⟨b+1+1+1,i,none⟩=some (Q7c w' (b+3) i))
theorem X2c{S0:List Nat}{w0:World}{m a:Nat}{L:List Int}{g:Nat}{ga:Array Value}{b:Nat}{gn gk:Array Value}{rs:List Res}{w':World}(h:Q5W S0 w0 m a L g ga b gn gk rs w'):
 Q5W S0 w0 m a L g ga b gn gk rs w'∧Y2C g ga b gn gk w':=by
 refine⟨h,?_⟩
 obtain⟨c2,c3,e2,e3,H⟩:=h
 exact⟨H.Q7A.cell,H.blk5.cell,(H.at_ 6 rfl).cell,H.blk4.free,H.Y5I.free,fun i hi=>Q5u H.blk4 (by omega),fun i hi=>Q5u H.Y5I (by omega)⟩
theorem Q5W.grow{S0:List Nat}{w0:World}{m a:Nat}{L:List Int}{g:Nat}{ga:Array Value}{b:Nat}{gn gk:Array Value}{rs:List Res}{w' w'':World}(h:Q5W S0 w0 m a L g ga b gn gk rs w')(t:Touch [] w' w''):Q5W S0 w0 m a L g ga b gn gk rs w'':=by
 obtain⟨c2,c3,e2,e3,H⟩:=h
 exact⟨c2,c3,e2,e3,H.grow t⟩
set_option maxRecDepth 100000 in
theorem X9U{S0:List Nat}{w0 w:World}{m a:Nat}{L:List Int}{rs:List Res}(H:Has S0 w0 w (.mem m a L::rs))(n cell i:Int)(hn:I64 n)(hb:(Q4M L n i).2.1=true):
 Calls Tryz.prog 80 #[.pointer (some ⟨m,0,none⟩), .agg #[.int .i64 n], .agg (Wk.mk true cell i true).cells] w
  fun e w'=>e= .returned (.tuple #[.agg (Q4e n (Wk.mk true cell i true)).cells, .agg (Q4M L n i).1.cells])∧Has S0 w0 w' (.mem m a (Q4M L n i).2.2::rs):=by
 have hi:0≤i∧i<64:=X0b (Q8P hb).1
 have hg:=fun W rs (H:Has S0 w0 W (.mem m a L::rs))=>X4b H n i hn
 have hx:=fun W=>X0V n (Wk.mk true cell i true) W hi
 rw[hb]at hg
 generalize (Q4M L n i).1=r at hg⊢
 generalize (Q4M L n i).2.2=L2 at hg⊢
 generalize Q4e n (Wk.mk true cell i true)=k2 at hx⊢
 obtain⟨rk,rc,rx,ry,ro⟩:=r
 obtain⟨o2,c2,i2,h2⟩:=k2
 simp only[Wk.cells,Wk.zero,Acc.zero,Acc.cells]at hg hx⊢
 have HG:=Lib.hid hg
 have HX:=Lib.hid hx
 have HH:=Lib.hid H
 clear hg hb hn H hi hx
 go_enter Tryz.func80,Tryz.ntmps80
 go_wp2_with fail
 refine(HG.out _ _ HH.out.al5).mono ?_
 rintro e w1⟨rfl,H1⟩
 go_wp2_with fail
 refine Q1q (Facts:=fun W=>Has S0 w0 W (.mem m a L2:: .blk w1.heap.size #[.int .i64 rk, .int .i64 rc, .int .u32 rx, .int .u32 ry, .int .u32 ro]:: .blk (w.heap.size+4) #[.bool false, .int .i64 0, .int .i64 0, .bool false]:: .blk (w.heap.size+3) #[.int .i64 0, .int .i64 0, .int .u32 0, .int .u32 0, .int .u32 0]:: .blk (w.heap.size+2) #[.bool false, .int .i64 0, .int .i64 0, .bool false]:: .blk (w.heap.size+1) #[.bool true, .int .i64 cell, .int .i64 i, .bool true]:: .blk w.heap.size #[.int .i64 n]::rs)) ?_ H1.al1
 intro W HW
 obtain⟨a0,a1,a2⟩:=HW.Q7A.own
 obtain⟨y0,y1,y2⟩:=HW.Y5I.own
 obtain⟨z0,z1,z2⟩:=HW.blk4.own
 obtain⟨k0,k1,k2⟩:=HW.blk5.own
 obtain⟨n0,n1,n2⟩:=(HW.at_ 6 rfl).own
 clear a0 a1 a2 y0 y1 y2 z0 z1 z2 k0 k1 k2 n0 n1 n2
 have hkeep:Q5W S0 w0 m a L2 w1.heap.size #[.int .i64 rk, .int .i64 rc, .int .u32 rx, .int .u32 ry, .int .u32 ro] w.heap.size #[.int .i64 n] #[.bool true, .int .i64 cell, .int .i64 i, .bool true] rs W:=⟨_,_,rfl,rfl,HW⟩
 generalize w1.heap.size=g at hkeep⊢
 have hdrew:=hkeep.grow ((Touch.refl [] W).drew)
 have HC:=Lib.hid (fun w' (t:Q5W S0 w0 m a L2 g #[.int .i64 rk, .int .i64 rc, .int .u32 rx, .int .u32 ry, .int .u32 ro] w.heap.size #[.int .i64 n] #[.bool true, .int .i64 cell, .int .i64 i, .bool true] rs w')=>(HX.out w').mono (R':=fun e w''=>e= .returned (.agg #[.bool o2, .int .i64 c2, .int .i64 i2, .bool h2])∧Q5W S0 w0 m a L2 g #[.int .i64 rk, .int .i64 rc, .int .u32 rx, .int .u32 ry, .int .u32 ro] w.heap.size #[.int .i64 n] #[.bool true, .int .i64 cell, .int .i64 i, .bool true] rs w'') (fun e w'' h=>⟨h.1,t.grow h.2⟩))
 go_region_held3 (fun w'=>Q5W S0 w0 m a L2 g #[.int .i64 rk, .int .i64 rc, .int .u32 rx, .int .u32 ry, .int .u32 ro] w.heap.size #[.int .i64 n] #[.bool true, .int .i64 cell, .int .i64 i, .bool true] rs w'∧Y2C g #[.int .i64 rk, .int .i64 rc, .int .u32 rx, .int .u32 ry, .int .u32 ro] w.heap.size #[.int .i64 n] #[.bool true, .int .i64 cell, .int .i64 i, .bool true] w')
  (first|(go_split_ands;refine X2c ?_;first|with_reducible assumption|with_reducible exact hdrew|(repeat(first|with_reducible assumption|with_reducible apply Q5W.set2|with_reducible apply Q5W.Y0m))))
  (first|(go_at_call 126;refine(HC.out _ (by go_split_ands;first|with_reducible assumption|with_reducible exact hdrew)).mono ?_;rintro e w5 ⟨rfl,t5⟩))
 all_goals
  obtain⟨d2,d3,e2,e3,H5⟩:=t5
  refine‹∀(a:Act) (w:World),Code.wp _ _ _ a w→_› _ _ ?_
  refine Q1q (Facts:=fun W=>Has S0 w0 W (.mem m a L2:: .blk g #[.int .i64 rk, .int .i64 rc, .int .u32 rx, .int .u32 ry, .int .u32 ro]:: .blk (w.heap.size+4) #[.bool false, .int .i64 0, .int .i64 0, .bool false]:: .blk (w.heap.size+3) #[.int .i64 rk, .int .i64 rc, .int .u32 rx, .int .u32 ry, .int .u32 ro]:: .blk (w.heap.size+2) #[.bool o2, .int .i64 c2, .int .i64 i2, .bool h2]:: .blk (w.heap.size+1) #[.bool true, .int .i64 cell, .int .i64 i, .bool true]:: .blk w.heap.size #[.int .i64 n]::rs)) ?_
   (by
    have H6:=(((((((((H5.Y0l 0 (.bool o2)).Y0l 1 (.int .i64 c2)).Y0l 2 (.int .i64 i2)).Y0l 3 (.bool h2)).Y0m 0 (.int .i64 rk)).Y0m 1 (.int .i64 rc)).Y0m 2 (.int .u32 rx)).Y0m 3 (.int .u32 ry)).Y0m 4 (.int .u32 ro))
    rw[Y0k e2,X3v e3]at H6
    exact H6)
  intro W' HW'
  obtain⟨y0,y1,y2⟩:=HW'.Y5I.own
  obtain⟨z0,z1,z2⟩:=HW'.blk4.own
  go_wp2_with fail
  refine bodyPost_ret (v:= .tuple #[.agg #[.bool o2, .int .i64 c2, .int .i64 i2, .bool h2], .agg #[.int .i64 rk, .int .i64 rc, .int .u32 rx, .int .u32 ry, .int .u32 ro]]) (by simp[results,Tryz.results80,go_sem,y0,y1,y2,z0,z1,z2]) rfl ⟨rfl,?_⟩
  exact HW'.Y1E (Touch.refl _ _)
set_option maxRecDepth 100000 in
theorem X0X{S0:List Nat}{w0 w:World}{m a:Nat}{L:List Int}{rs:List Res}(H:Has S0 w0 w (.mem m a L::rs))(n cell i:Int)(hn:I64 n)(hb:(doA L ⟨1,cellP n 2 i,0,0,0⟩).2.1=false):
 Calls Tryz.prog 80 #[.pointer (some ⟨m,0,none⟩), .agg #[.int .i64 n], .agg (Wk.mk true cell i false).cells] w
  fun e w'=>e= .returned (.tuple #[.agg Wk.zero.cells, .agg (doA L ⟨1,cellP n 2 i,0,0,0⟩).1.cells])∧Has S0 w0 w' (.mem m a L::rs):=by
 have hg:=fun W rs (H:Has S0 w0 W (.mem m a L::rs))=>Q7x H (cellP n 2 i)
 generalize doA L ⟨1,cellP n 2 i,0,0,0⟩=R at hg hb⊢
 obtain⟨⟨rk,rc,rx,ry,ro⟩,rok,L2⟩:=R
 simp only[Wk.cells,Wk.zero,Acc.cells]at hg⊢
 simp only at hb
 subst hb
 have HG:=Lib.hid hg
 have HH:=Lib.hid H
 have HN:=Lib.hid hn
 clear hg H hn
 go_enter Tryz.func80,Tryz.ntmps80
 go_wp2_with fail
 refine(Q6U n i _ HN.out).mono ?_
 rintro e w1⟨rfl,t1⟩
 have H1:=HH.out.al5.grow t1
 obtain⟨k0,k1,k2⟩:=(H1.at_ 4 rfl).own
 go_wp2_with fail
 refine(HG.out _ _ H1).mono ?_
 rintro e w2⟨rfl,H2⟩
 clear k0 k1 k2 H1 t1
 have H3:=H2.al1 (c0:= #[.int .i64 rk, .int .i64 rc, .int .u32 rx, .int .u32 ry, .int .u32 ro]) (t0:=32)
 obtain⟨k0,k1,k2⟩:=(H2.at_ 4 rfl).own
 obtain⟨n0,n1,n2⟩:=(H2.at_ 5 rfl).own
 obtain⟨z0,z1,z2⟩:=(H2.at_ 1 rfl).own
 go_wp2_with fail
 clear H3
 generalize hG:w2.heap.size=G
 refine Q1q (Facts:=fun W=>Has S0 w0 W (.mem m a L:: .blk G #[.int .i64 rk, .int .i64 rc, .int .u32 rx, .int .u32 ry, .int .u32 ro]:: .blk (w.heap.size+4) #[.bool false, .int .i64 0, .int .i64 0, .bool false]:: .blk (w.heap.size+3) #[.int .i64 0, .int .i64 0, .int .u32 0, .int .u32 0, .int .u32 0]:: .blk (w.heap.size+2) #[.bool false, .int .i64 0, .int .i64 0, .bool false]:: .blk (w.heap.size+1) #[.bool false, .int .i64 0, .int .i64 0, .bool false]:: .blk w.heap.size #[.int .i64 n]::rs)) ?_ (((((H2.Y0l 0 _).Y0l 1 _).Y0l 2 _).Y0l 3 _).al (by simp[hG]) _ _)
 clear k0 k1 k2 n0 n1 n2 z0 z1 z2 H2 hG
 intro W HW
 obtain⟨x0,x1,x2⟩:=(HW.at_ 3 rfl).own
 obtain⟨y0,y1,y2⟩:=(HW.at_ 4 rfl).own
 obtain⟨k0,k1,k2⟩:=(HW.at_ 5 rfl).own
 obtain⟨a0,a1,a2⟩:=(HW.at_ 1 rfl).own
 have g2:G≠w.heap.size+1+1:=HW.X0z 1 4 rfl rfl (by decide)
 have g3:G≠w.heap.size+1+1+1:=HW.X0z 1 3 rfl rfl (by decide)
 go_region
 all_goals go_wp2
 refine bodyPost_ret (v:= .tuple #[.agg #[.bool false, .int .i64 0, .int .i64 0, .bool false], .agg #[.int .i64 rk, .int .i64 rc, .int .u32 rx, .int .u32 ry, .int .u32 ro]]) (by simp[results,Tryz.results80,go_sem,y0,y1,y2,x0,x1,x2]) rfl ⟨rfl,?_⟩
 exact HW.Y1E (by repeat(first|with_reducible exact Touch.refl _ _|with_reducible apply Touch.drew|with_reducible apply Touch.alloc|with_reducible refine Touch.set ?_ (by simp) _))
set_option maxRecDepth 100000 in
theorem X0Y{S0:List Nat}{w0 w:World}{m a:Nat}{L:List Int}{rs:List Res}(H:Has S0 w0 w (.mem m a L::rs))(n cell i:Int)(hn:I64 n)(hb:(doA L ⟨1,cellP n 2 i,0,0,0⟩).2.1=true)(he:(doA L ⟨1,cellP n 2 i,0,0,0⟩).1.old=(cell+1)%4294967296):
 Calls Tryz.prog 80 #[.pointer (some ⟨m,0,none⟩), .agg #[.int .i64 n], .agg (Wk.mk true cell i false).cells] w
  fun e w'=>e= .returned (.tuple #[.agg (Wk.mk true cell i true).cells, .agg (doA L ⟨1,cellP n 2 i,0,0,0⟩).1.cells])∧Has S0 w0 w' (.mem m a L::rs):=by
 have hg:=fun W rs (H:Has S0 w0 W (.mem m a L::rs))=>Q7x H (cellP n 2 i)
 generalize doA L ⟨1,cellP n 2 i,0,0,0⟩=R at hg hb he⊢
 obtain⟨⟨rk,rc,rx,ry,ro⟩,rok,L2⟩:=R
 simp only[Wk.cells,Wk.zero,Acc.cells]at hg⊢
 simp only at hb he
 subst hb
 have he2:(ro==wrap64 (cell+1)%4294967296)=true:=by
  have:ro=wrap64 (cell+1)%4294967296:=by rw[he];unfold wrap64;omega
  simpa using this
 have HG:=Lib.hid hg
 have HH:=Lib.hid H
 have HN:=Lib.hid hn
 clear hg H hn he
 go_enter Tryz.func80,Tryz.ntmps80
 go_wp2_with fail
 refine(Q6U n i _ HN.out).mono ?_
 rintro e w1⟨rfl,t1⟩
 have H1:=HH.out.al5.grow t1
 obtain⟨k0,k1,k2⟩:=(H1.at_ 4 rfl).own
 go_wp2_with fail
 refine(HG.out _ _ H1).mono ?_
 rintro e w2⟨rfl,H2⟩
 clear k0 k1 k2 H1 t1
 have H3:=H2.al1 (c0:= #[.int .i64 rk, .int .i64 rc, .int .u32 rx, .int .u32 ry, .int .u32 ro]) (t0:=32)
 obtain⟨k0,k1,k2⟩:=(H2.at_ 4 rfl).own
 obtain⟨n0,n1,n2⟩:=(H2.at_ 5 rfl).own
 obtain⟨z0,z1,z2⟩:=(H2.at_ 1 rfl).own
 go_wp2_with fail
 clear H3
 generalize hG:w2.heap.size=G
 refine Q1q (Facts:=fun W=>Has S0 w0 W (.mem m a L:: .blk G #[.int .i64 rk, .int .i64 rc, .int .u32 rx, .int .u32 ry, .int .u32 ro]:: .blk (w.heap.size+4) #[.bool false, .int .i64 0, .int .i64 0, .bool false]:: .blk (w.heap.size+3) #[.int .i64 0, .int .i64 0, .int .u32 0, .int .u32 0, .int .u32 0]:: .blk (w.heap.size+2) #[.bool false, .int .i64 0, .int .i64 0, .bool false]:: .blk (w.heap.size+1) #[.bool true, .int .i64 cell, .int .i64 i, .bool true]:: .blk w.heap.size #[.int .i64 n]::rs)) ?_ ((H2.Y0l 3 _).al (by simp[hG]) _ _)
 clear k0 k1 k2 n0 n1 n2 z0 z1 z2 H2 hG
 intro W HW
 obtain⟨x0,x1,x2⟩:=(HW.at_ 3 rfl).own
 obtain⟨y0,y1,y2⟩:=(HW.at_ 4 rfl).own
 obtain⟨k0,k1,k2⟩:=(HW.at_ 5 rfl).own
 obtain⟨a0,a1,a2⟩:=(HW.at_ 1 rfl).own
 have g2:G≠w.heap.size+1+1:=HW.X0z 1 4 rfl rfl (by decide)
 have g3:G≠w.heap.size+1+1+1:=HW.X0z 1 3 rfl rfl (by decide)
 go_region
 all_goals go_wp2
 refine bodyPost_ret (v:= .tuple #[.agg #[.bool true, .int .i64 cell, .int .i64 i, .bool true], .agg #[.int .i64 rk, .int .i64 rc, .int .u32 rx, .int .u32 ry, .int .u32 ro]]) (by simp[results,Tryz.results80,go_sem,y0,y1,y2,x0,x1,x2]) rfl ⟨rfl,?_⟩
 exact HW.Y1E (by repeat(first|with_reducible exact Touch.refl _ _|with_reducible apply Touch.drew|with_reducible apply Touch.alloc|with_reducible refine Touch.set ?_ (by simp) _))
set_option maxRecDepth 100000 in
theorem Q9e{S0:List Nat}{w0 w:World}{m a:Nat}{L:List Int}{rs:List Res}(H:Has S0 w0 w (.mem m a L::rs))(n cell i:Int)(hn:I64 n)(hb:(doA L ⟨1,cellP n 2 i,0,0,0⟩).2.1=true)(he:(doA L ⟨1,cellP n 2 i,0,0,0⟩).1.old≠(cell+1)%4294967296):
 Calls Tryz.prog 80 #[.pointer (some ⟨m,0,none⟩), .agg #[.int .i64 n], .agg (Wk.mk true cell i false).cells] w
  fun e w'=>e= .returned (.tuple #[.agg (Q4e n (Wk.mk true cell i false)).cells, .agg (doA L ⟨1,cellP n 2 i,0,0,0⟩).1.cells])∧Has S0 w0 w' (.mem m a L::rs):=by
 have hg:=fun W rs (H:Has S0 w0 W (.mem m a L::rs))=>Q7x H (cellP n 2 i)
 have hi:0≤i∧i<64:=X0b (Q8P hb).1
 have hx:=fun W=>X0V n (Wk.mk true cell i false) W hi
 generalize Q4e n (Wk.mk true cell i false)=k2 at hx⊢
 obtain⟨o2,c2,i2,h2⟩:=k2
 generalize doA L ⟨1,cellP n 2 i,0,0,0⟩=R at hg hb he⊢
 obtain⟨⟨rk,rc,rx,ry,ro⟩,rok,L2⟩:=R
 simp only[Wk.cells,Wk.zero,Acc.cells]at hg hx⊢
 simp only at hb he
 subst hb
 have he2:(ro==wrap64 (cell+1)%4294967296)=false:=by
  have: ¬(ro=wrap64 (cell+1)%4294967296):=fun h=>he (by rw[h];unfold wrap64;omega)
  simpa using this
 have HX:=Lib.hid hx
 have HG:=Lib.hid hg
 have HH:=Lib.hid H
 have HN:=Lib.hid hn
 clear hg H hn he hx hi
 go_enter Tryz.func80,Tryz.ntmps80
 go_wp2_with fail
 refine(Q6U n i _ HN.out).mono ?_
 rintro e w1⟨rfl,t1⟩
 have H1:=HH.out.al5.grow t1
 obtain⟨k0,k1,k2⟩:=(H1.at_ 4 rfl).own
 go_wp2_with fail
 refine(HG.out _ _ H1).mono ?_
 rintro e w2⟨rfl,H2⟩
 clear k0 k1 k2 H1 t1
 have H3:=H2.al1 (c0:= #[.int .i64 rk, .int .i64 rc, .int .u32 rx, .int .u32 ry, .int .u32 ro]) (t0:=32)
 obtain⟨k0,k1,k2⟩:=(H2.at_ 4 rfl).own
 obtain⟨n0,n1,n2⟩:=(H2.at_ 5 rfl).own
 obtain⟨z0,z1,z2⟩:=(H2.at_ 1 rfl).own
 go_wp2_with fail
 refine(HX.out _).mono ?_
 rintro e w3⟨rfl,t3⟩
 have H4:=H3.grow t3
 clear k0 k1 k2 n0 n1 n2 z0 z1 z2 H3
 have hG0:=H2.at_ 3 rfl
 obtain⟨k0,k1,k2⟩:=(H4.at_ 5 rfl).own
 go_wp2_with fail
 generalize hG:w2.heap.size=G at H4⊢
 refine Q1q (Facts:=fun W=>Has S0 w0 W (.mem m a L:: .blk G #[.int .i64 rk, .int .i64 rc, .int .u32 rx, .int .u32 ry, .int .u32 ro]:: .blk (w.heap.size+4) #[.bool false, .int .i64 0, .int .i64 0, .bool false]:: .blk (w.heap.size+3) #[.int .i64 0, .int .i64 0, .int .u32 0, .int .u32 0, .int .u32 0]:: .blk (w.heap.size+2) #[.bool false, .int .i64 0, .int .i64 0, .bool false]:: .blk (w.heap.size+1) #[.bool o2, .int .i64 c2, .int .i64 i2, .bool h2]:: .blk w.heap.size #[.int .i64 n]::rs)) ?_ ((((H4.set5 0 _).set5 1 _).set5 2 _).set5 3 _)
 clear k0 k1 k2 H2 H4 hG hG0
 intro W HW
 obtain⟨x0,x1,x2⟩:=(HW.at_ 3 rfl).own
 obtain⟨y0,y1,y2⟩:=(HW.at_ 4 rfl).own
 obtain⟨k0,k1,k2⟩:=(HW.at_ 5 rfl).own
 obtain⟨a0,a1,a2⟩:=(HW.at_ 1 rfl).own
 have g2:G≠w.heap.size+1+1:=HW.X0z 1 4 rfl rfl (by decide)
 have g3:G≠w.heap.size+1+1+1:=HW.X0z 1 3 rfl rfl (by decide)
 go_region
 all_goals go_wp2
 refine bodyPost_ret (v:= .tuple #[.agg #[.bool o2, .int .i64 c2, .int .i64 i2, .bool h2], .agg #[.int .i64 rk, .int .i64 rc, .int .u32 rx, .int .u32 ry, .int .u32 ro]]) (by simp[results,Tryz.results80,go_sem,y0,y1,y2,x0,x1,x2]) rfl ⟨rfl,?_⟩
 exact HW.Y1E (by repeat(first|with_reducible exact Touch.refl _ _|with_reducible apply Touch.drew|with_reducible apply Touch.alloc|with_reducible refine Touch.set ?_ (by simp) _))
theorem X9V{S0:List Nat}{w0 w:World}{m a:Nat}{L:List Int}{rs:List Res}(H:Has S0 w0 w (.mem m a L::rs))(n:Int)(hn:I64 n)(k:Wk):
 Calls Tryz.prog 80 #[.pointer (some ⟨m,0,none⟩), .agg #[.int .i64 n], .agg k.cells] w
  fun e w'=>e= .returned (.tuple #[.agg (Q4K L n k).1.cells, .agg (Q4K L n k).2.1.cells])∧Has S0 w0 w' (.mem m a (Q4K L n k).2.2::rs):=by
 obtain⟨on,cell,i,hit⟩:=k
 unfold Q4K
 cases on with
 |false=>exact X9T H _ n cell i hit
 |true=>
  cases hit with
  |true=>
   cases hb:(Q4M L n i).2.1 with
   |true=>simp only[hb,if_true];exact X9U H n cell i hn hb
   |false=>simp only[hb,if_true,Bool.false_eq_true,if_false];exact X2f H n cell i hn hb
  |false=>
   cases hb:(doA L ⟨1,cellP n 2 i,0,0,0⟩).2.1 with
   |true=>
    by_cases he:(doA L ⟨1,cellP n 2 i,0,0,0⟩).1.old=(cell+1)%4294967296
    ·simp only[hb,he,if_true,Bool.false_eq_true,if_false];exact X0Y H n cell i hn hb he
    ·simp only[hb,he,if_true,Bool.false_eq_true,if_false];exact Q9e H n cell i hn hb he
   |false=>
    have e:=Y2y hb
    have:=X0X H n cell i hn hb
    simp only[hb,if_true,Bool.false_eq_true,if_false]
    rw[e]at this
    exact this
def MapAt(w:World)(m:Nat)(es:List (Int×Value)):Prop:= ∃clk,∃l:List MapEntry,w.heap[m]? =some (.map l.toArray clk)∧l.map (fun e=>(e.key,e.val))=es.map (fun e=>(Value.int .i64 e.1,e.2))
theorem MapAt.new(w:World):MapAt (w.alloc (.map #[] 0)) w.heap.size []:=⟨0,[],by show(w.heap.push _)[w.heap.size]? =_;simp,rfl⟩
theorem MapAt.touch{w w':World}{m:Nat}{es:List (Int×Value)}{S:List Nat}(h:MapAt w m es)(t:Touch S w w')(hm:m∉S):MapAt w' m es:=by
 obtain⟨clk,l,hb,he⟩:=h
 have hlt:m<w.heap.size:=by
  rcases Nat.lt_or_ge m w.heap.size with h'|h'
  ·exact h'
  ·simp[Array.getElem?_eq_none h']at hb
 exact⟨clk,l,(t.block m hlt hm).trans hb,he⟩
theorem Q5T(k:Int): ∀(l:List MapEntry) (es:List (Int×Value)) (i:Nat),l.map (fun e=>(e.key,e.val))=es.map (fun e=>(Value.int .i64 e.1,e.2))→
 ∃o,Instr.findNow (.int .i64) (.int .i64 k) l i=some o∧o.map (·.2)=(es.find? (fun e=>e.1==k)).map (·.2)
 |[],[],i,_=>⟨none,rfl,rfl⟩
 |[],_::_,i,h=>by simp at h
 |_::_,[],i,h=>by simp at h
 |e::l,x::es,i,h=>by
  simp only[List.map_cons,List.cons.injEq,Prod.mk.injEq]at h
  obtain⟨⟨hk,hv⟩,ht⟩:=h
  obtain⟨o,ho,hp⟩:=Q5T k l es (i+1) ht
  by_cases hx:x.1=k
  ·refine⟨some (i,e.val),?_,?_⟩
   ·simp[Instr.findNow,hk,Instr.sameNow,hx]
   ·simp[List.find?,hx,hv]
  ·refine⟨o,?_,?_⟩
   ·have:(k==x.1)=false:=by simp;exact fun e=>hx e.symm
    simp[Instr.findNow,hk,Instr.sameNow,this,ho]
   ·have:(x.1==k)=false:=by simpa using hx
    simp[List.find?,this,hp]
theorem Q7n{P:Program}{w:World}{kt:TypeId}(hk:P.underlying kt=some (.int .i64))(b:Bool)(k:Int)(n:Nat):(Instr.checkKey b (n+1) kt (.int .i64 k)).run P w= .ok () w:=by
 rw[Instr.checkKey]
 simp[run_underlying hk]
theorem Q5v{P:Program}{w:World}{kt:TypeId}(hk:P.underlying kt=some (.int .i64))(b:Bool)(k:Int):(Instr.checkKey b 10000 kt (.int .i64 k)).run P w= .ok () w:=
 Q7n hk b k 9999
theorem Q9h{P:Program}{w:World}{T kt et:TypeId}{m:Nat}{es:List (Int×Value)}(hT:P.underlying T=some (.map kt et))(hk:P.underlying kt=some (.int .i64))(h:MapAt w m es)(k:Int)(v:Value)
 (hn:es.find? (fun e=>e.1==k)=none): ∃w',(Instr.mapUpdate T (.map (some m)) (.int .i64 k) v).run P w= .ok () w'∧MapAt w' m (es++[(k,v)])∧Touch [m] w w':=by
 obtain⟨clk,l,hb,he⟩:=h
 obtain⟨o,ho,hp⟩:=Q5T k l es 0 he
 rw[hn]at hp
 have hon:o=none:=by cases o<;>simp at hp⊢
 subst hon
 refine⟨{w with heap:=w.heap.setIfInBounds m (.map (l.toArray.push {key:= .int .i64 k,val:=v,born:=clk}) (clk+1))},?_,?_,?_⟩
 ·simp[Instr.mapUpdate,run_underlying hT,MapKept.run_getObj_map hb,Q5v hk,Instr.findKey,run_underlying hk,ho,MapKept.run_setObj_map _ hb]
 ·have hlt:m<w.heap.size:=by
   rcases Nat.lt_or_ge m w.heap.size with h'|h'
   ·exact h'
   ·simp[Array.getElem?_eq_none h']at hb
  refine⟨clk+1,l++[{key:= .int .i64 k,val:=v,born:=clk}],?_,?_⟩
  ·show(w.heap.setIfInBounds m _)[m]? =_
   simp[hlt]
  ·simp[he]
 ·refine⟨rfl,rfl,rfl,by simp,fun j hj hs=> ?_⟩
  show(w.heap.setIfInBounds m _)[j]? =_
  have:m≠j:=by simp at hs;omega
  simp[Array.getElem?_setIfInBounds,this]
theorem Q2V{P:Program}{w:World}{T kt et:TypeId}{m:Nat}{es:List (Int×Value)}(hT:P.underlying T=some (.map kt et))(hk:P.underlying kt=some (.int .i64))(h:MapAt w m es)(k:Int)(v:Value)
 (hn:(es.find? (fun e=>e.1==k)).map (·.2)=some v):(Instr.lookup T (.map (some m)) (.int .i64 k) false).run P w= .ok v w:=by
 obtain⟨clk,l,hb,he⟩:=h
 obtain⟨o,ho,hp⟩:=Q5T k l es 0 he
 rw[hn]at hp
 obtain⟨⟨i,v'⟩,rfl⟩: ∃x,o=some x:=by cases o<;>simp at hp⊢
 simp at hp
 subst hp
 simp[Instr.lookup,run_underlying hT,MapKept.run_getObj_map hb,Q5v hk,Instr.findKey,run_underlying hk,ho]
theorem Q2z{P:Program}(w:World){ops:Array Oper}{rest:List Oper}{o:Oper}{a:Act}{Q:Exit→Act→World→Prop}
 (hg:o.guard=none) (mo ko vo:Operand) (T:TypeId) (hop:o.op=Op.insert T mo ko vo) (kt et:TypeId) (hT:P.underlying T=some (.map kt et)) (hk:P.underlying kt=some (.int .i64))
 (m:Nat) (es:List (Int×Value)) (hm:a.eval mo= .map (some m)) (h:MapAt w m es) (k:Int) (v:Value) (hko:a.eval ko= .int .i64 k) (hvo:a.eval vo=v) (hn:es.find? (fun e=>e.1==k)=none)
 (hK: ∀w',MapAt w' m (es++[(k,v)])→Touch [m] w w'→wpList P ops Q rest (a.put o.dst undef) w'):wpList P ops Q (o::rest) a w:=by
 refine wpList_plain hg fun K' hK'=> ?_
 obtain⟨w',hrun,r1,r2⟩:=Q9h hT hk h k v hn
 unfold Oper.wp
 simp[execOp,hop,hm,hko,hvo,hrun,Result.andThen]
 exact hK' _ _ (hK w' r1 r2)
theorem Y0R(n:Nat):0<2 ^n:=Nat.pow_pos (by decide)
theorem Q9w{a b:Nat}(h:a≤b):2 ^a≤2 ^b:=Nat.pow_le_pow_right (by decide) h
theorem Q3A(v s w:Nat):v &&&((2 ^w-1)*2 ^s)=(v/2 ^s%2 ^w)*2 ^s:=by
 rw[←Nat.shiftLeft_eq,←Nat.shiftLeft_eq,←Nat.shiftRight_eq_div_pow]
 apply Nat.eq_of_testBit_eq
 intro i
 simp only[Nat.testBit_and,Nat.testBit_shiftLeft,Nat.testBit_two_pow_sub_one,Nat.testBit_mod_two_pow,Nat.testBit_shiftRight]
 by_cases h:i≥s
 ·have e:s+(i-s)=i:=by omega
  simp only[h,decide_true,Bool.true_and,e]
  exact Bool.and_comm _ _
 ·simp[h]
theorem Q3c(k n:Nat):BitVec.ofInt k (n:Int)=BitVec.ofNat k n:=by simp
theorem Q3z(a b:Nat)(ha:a<4294967296)(hb:b<4294967296):Go.bits .and .u32 (a:Int) (b:Int)=((a &&&b:Nat):Int):=by
 unfold Go.bits
 simp only[Q3c,BitVec.toNat_and,BitVec.toNat_ofNat]
 rw[Nat.mod_eq_of_lt (by simpa[IntKind.bits]using ha),Nat.mod_eq_of_lt (by simpa[IntKind.bits]using hb)]
 rw[IntKind.wrap_u32]
 have:a &&&b≤a:=Nat.and_le_left
 omega
theorem X0K(x:Int)(i:Nat)(hi:i≤32)(h0:0≤x)(h1:x<4294967296):Go.bits .and .u32 x ((2 ^i-1:Nat):Int)=x% ((2 ^i:Nat):Int):=by
 obtain⟨n,rfl⟩:=Int.eq_ofNat_of_zero_le h0
 have hm:2 ^i-1<4294967296:=by
  have:=Q9w hi
  have:=Y0R i
  omega
 rw[Q3z n _ (by omega) hm]
 have:=Q3A n 0 i
 simp only[Nat.pow_zero,Nat.mul_one,Nat.div_one]at this
 rw[this]
 rfl
theorem Y7u(x:Int)(h0:0≤x)(h1:x<4294967296):Go.bits .and .u32 x 255=x%256:=X0K x 8 (by decide) h0 h1
def X0p:ByteArray:=⟨#[99,111,117,110,116]⟩
def Q7m:ByteArray:=⟨#[112,104,97,115,101]⟩
def X0o:ByteArray:=⟨#[114,101,97,100,115]⟩
def X4E:ByteArray:=⟨#[114,105,110]⟩
def Q9C:ByteArray:=⟨#[114,111,117,116]⟩
def s_tail:ByteArray:=⟨#[116,97,105,108]⟩
def X0n:ByteArray:=⟨#[117,115,101,114,115]⟩
def Y0n:ByteArray:=⟨#[119,105,110]⟩
def Q7G:ByteArray:=⟨#[119,111,114,100]⟩
def X3x:ByteArray:=⟨#[119,111,117,116]⟩
def Q7U:ByteArray:=⟨#[119,114,105,116,101,115]⟩
def X3U:Array Value:= #[.string X0n, .string X0o, .string Q7U]
def names2:Array Value:= #[.string X4E, .string Q9C, .string Y0n, .string X3x, .string Q7m]
def X3T:Array Value:= #[.string X4E, .string Q9C, .string s_tail, .string Q7m]
def X3S:Array Value:= #[.string s_tail, .string X0p]
def X3R:Array Value:= #[.string Q7G]
def X3Q:Array Value:= #[.string Q7G]
structure Y4v(w:World)(m:Nat):Prop where mk::
 at_: ∃b1 b2 b3 b4 b5 b6,MapAt w m [(1, .slice (some ⟨b1,0,none⟩) 3 3),(2, .slice (some ⟨b2,0,none⟩) 5 5),(3, .slice (some ⟨b3,0,none⟩) 4 4),(4, .slice (some ⟨b4,0,none⟩) 2 2),(5, .slice (some ⟨b5,0,none⟩) 1 1),(6, .slice (some ⟨b6,0,none⟩) 1 1)]∧Blk w b1 X3U∧Blk w b2 names2∧Blk w b3 X3T∧Blk w b4 X3S∧Blk w b5 X3R∧Blk w b6 X3Q
def Y1L(w:World)(e:Ending)(w':World):Prop:= ∃m,e= .returned (.map (some m))∧Y4v w' m∧Touch [] w w'
theorem Q5g(w:World):Calls Tryz.prog 73 #[] w (Y1L w):=by
 have hmm:= @run_makeMap Tryz.prog
 have m0:=MapAt.new w
 have t0:Touch [] w (w.alloc (.map #[] 0)):=⟨rfl,rfl,rfl,by simp,fun k hk _=>Below.heap_alloc _ _ _ hk⟩
 go_enter Tryz.func73,Tryz.ntmps73
 go_wp2_with (first
  |(refine Q2z _ rfl (.tmp 1) (.const (.int .i64 1)) (.tmp 2) 129 rfl _ _ Tryz.underlying129 Tryz.underlying3 w.heap.size _ rfl (MapAt.touch m0 ((Touch.refl [] _).alloc _) (by simp)) 1 _ rfl rfl rfl ?_;intro w1 m1 t1)
  |(refine Q2z _ rfl (.tmp 1) (.const (.int .i64 2)) (.tmp 3) 129 rfl _ _ Tryz.underlying129 Tryz.underlying3 w.heap.size _ rfl (MapAt.touch m1 ((Touch.refl [] _).alloc _) (by simp)) 2 _ rfl rfl rfl ?_;intro w2 m2 t2)
  |(refine Q2z _ rfl (.tmp 1) (.const (.int .i64 3)) (.tmp 4) 129 rfl _ _ Tryz.underlying129 Tryz.underlying3 w.heap.size _ rfl (MapAt.touch m2 ((Touch.refl [] _).alloc _) (by simp)) 3 _ rfl rfl rfl ?_;intro w3 m3 t3)
  |(refine Q2z _ rfl (.tmp 1) (.const (.int .i64 4)) (.tmp 5) 129 rfl _ _ Tryz.underlying129 Tryz.underlying3 w.heap.size _ rfl (MapAt.touch m3 ((Touch.refl [] _).alloc _) (by simp)) 4 _ rfl rfl rfl ?_;intro w4 m4 t4)
  |(refine Q2z _ rfl (.tmp 1) (.const (.int .i64 5)) (.tmp 6) 129 rfl _ _ Tryz.underlying129 Tryz.underlying3 w.heap.size _ rfl (MapAt.touch m4 ((Touch.refl [] _).alloc _) (by simp)) 5 _ rfl rfl rfl ?_;intro w5 m5 t5)
  |(refine Q2z _ rfl (.tmp 1) (.const (.int .i64 6)) (.tmp 7) 129 rfl _ _ Tryz.underlying129 Tryz.underlying3 w.heap.size _ rfl (MapAt.touch m5 ((Touch.refl [] _).alloc _) (by simp)) 6 _ rfl rfl rfl ?_;intro w6 m6 t6))
 go_ret
 have z1:=t1.size
 simp only[World.size_alloc]at z1
 have z2:=t2.size
 simp only[World.size_alloc]at z2
 have z3:=t3.size
 simp only[World.size_alloc]at z3
 have z4:=t4.size
 simp only[World.size_alloc]at z4
 have z5:=t5.size
 simp only[World.size_alloc]at z5
 have z6:=t6.size
 simp only[World.size_alloc]at z6
 have T1:Touch [] w w1:=(t0.alloc _).newer t1 (by simp)
 have T2:Touch [] w w2:=(T1.alloc _).newer t2 (by simp)
 have T3:Touch [] w w3:=(T2.alloc _).newer t3 (by simp)
 have T4:Touch [] w w4:=(T3.alloc _).newer t4 (by simp)
 have T5:Touch [] w w5:=(T4.alloc _).newer t5 (by simp)
 have T6:Touch [] w w6:=(T5.alloc _).newer t6 (by simp)
 have B1_1:Blk w1 (w.heap.size+1) X3U:=t1.blk (by have:=Blk.new (w.alloc (.map #[] 0)) X3U 9;rw[World.size_alloc]at this;exact this) (by simp)
 have B2_2:Blk w2 w1.heap.size names2:=t2.blk (Blk.new w1 names2 9) (by simp;omega)
 have B3_3:Blk w3 w2.heap.size X3T:=t3.blk (Blk.new w2 X3T 9) (by simp;omega)
 have B4_4:Blk w4 w3.heap.size X3S:=t4.blk (Blk.new w3 X3S 9) (by simp;omega)
 have B5_5:Blk w5 w4.heap.size X3R:=t5.blk (Blk.new w4 X3R 9) (by simp;omega)
 have B6_6:Blk w6 w5.heap.size X3Q:=t6.blk (Blk.new w5 X3Q 9) (by simp;omega)
 have B1_2:=t2.blk (B1_1.alloc _) (by simp)
 have B1_3:=t3.blk (B1_2.alloc _) (by simp)
 have B1_4:=t4.blk (B1_3.alloc _) (by simp)
 have B1_5:=t5.blk (B1_4.alloc _) (by simp)
 have B1_6:=t6.blk (B1_5.alloc _) (by simp)
 have B2_3:=t3.blk (B2_2.alloc _) (by simp;omega)
 have B2_4:=t4.blk (B2_3.alloc _) (by simp;omega)
 have B2_5:=t5.blk (B2_4.alloc _) (by simp;omega)
 have B2_6:=t6.blk (B2_5.alloc _) (by simp;omega)
 have B3_4:=t4.blk (B3_3.alloc _) (by simp;omega)
 have B3_5:=t5.blk (B3_4.alloc _) (by simp;omega)
 have B3_6:=t6.blk (B3_5.alloc _) (by simp;omega)
 have B4_5:=t5.blk (B4_4.alloc _) (by simp;omega)
 have B4_6:=t6.blk (B4_5.alloc _) (by simp;omega)
 have B5_6:=t6.blk (B5_5.alloc _) (by simp;omega)
 exact⟨w.heap.size,rfl,⟨w.heap.size+1,w1.heap.size,w2.heap.size,w3.heap.size,w4.heap.size,w5.heap.size,m6,B1_6,B2_6,B3_6,B4_6,B5_6,B6_6⟩,T6⟩
theorem X2Z(k base:Int)(w:World)(hb:0≤base∧base<4294967296):Calls Tryz.prog 76 #[.int .i64 k, .string X0n, .int .u32 base] w fun e w'=>e= .returned (.int .u32 base)∧w=w':=by
 obtain⟨h0,h1⟩:=hb
 unfold X0n
 go_enter Tryz.func76,Tryz.ntmps76
 go_wp2_with fail
 go_ret
 exact⟨rfl,rfl⟩
theorem X3a(k base:Int)(w:World)(hb:0≤base∧base<4294967296):Calls Tryz.prog 76 #[.int .i64 k, .string X0o, .int .u32 base] w fun e w'=>e= .returned (.int .u32 base)∧w=w':=by
 obtain⟨h0,h1⟩:=hb
 unfold X0o
 go_enter Tryz.func76,Tryz.ntmps76
 go_wp2_with fail
 go_ret
 exact⟨rfl,rfl⟩
theorem X1Y(k base:Int)(w:World)(hb:0≤base∧base<4294967296):Calls Tryz.prog 76 #[.int .i64 k, .string Q7U, .int .u32 base] w fun e w'=>e= .returned (.int .u32 base)∧w=w':=by
 obtain⟨h0,h1⟩:=hb
 unfold Q7U
 go_enter Tryz.func76,Tryz.ntmps76
 go_wp2_with fail
 go_ret
 exact⟨rfl,rfl⟩
theorem X1Z(k base:Int)(w:World)(hb:0≤base∧base<4294967296):Calls Tryz.prog 76 #[.int .i64 k, .string X4E, .int .u32 base] w fun e w'=>e= .returned (.int .u32 (base*256%4294967296))∧w=w':=by
 obtain⟨h0,h1⟩:=hb
 unfold X4E
 go_enter Tryz.func76,Tryz.ntmps76
 go_wp2_with fail
 go_ret
 exact⟨rfl,rfl⟩
theorem X0e(k base:Int)(w:World)(hb:0≤base∧base<4294967296):Calls Tryz.prog 76 #[.int .i64 k, .string Q9C, .int .u32 base] w fun e w'=>e= .returned (.int .u32 (base*256%4294967296))∧w=w':=by
 obtain⟨h0,h1⟩:=hb
 unfold Q9C
 go_enter Tryz.func76,Tryz.ntmps76
 go_wp2_with fail
 go_ret
 exact⟨rfl,rfl⟩
theorem X9y(k base:Int)(w:World)(hb:0≤base∧base<4294967296):Calls Tryz.prog 76 #[.int .i64 k, .string Y0n, .int .u32 base] w fun e w'=>e= .returned (.int .u32 base)∧w=w':=by
 obtain⟨h0,h1⟩:=hb
 unfold Y0n
 go_enter Tryz.func76,Tryz.ntmps76
 go_wp2_with fail
 go_ret
 exact⟨rfl,rfl⟩
theorem X5P(k base:Int)(w:World)(hb:0≤base∧base<4294967296):Calls Tryz.prog 76 #[.int .i64 k, .string X3x, .int .u32 base] w fun e w'=>e= .returned (.int .u32 base)∧w=w':=by
 obtain⟨h0,h1⟩:=hb
 unfold X3x
 go_enter Tryz.func76,Tryz.ntmps76
 go_wp2_with fail
 go_ret
 exact⟨rfl,rfl⟩
theorem Q8V(k base:Int)(w:World)(hb:0≤base∧base<4294967296):Calls Tryz.prog 76 #[.int .i64 k, .string Q7m, .int .u32 base] w fun e w'=>e= .returned (.int .u32 base)∧w=w':=by
 obtain⟨h0,h1⟩:=hb
 unfold Q7m
 go_enter Tryz.func76,Tryz.ntmps76
 go_wp2_with fail
 go_ret
 exact⟨rfl,rfl⟩
theorem X0d(k base:Int)(w:World)(hb:0≤base∧base<4294967296):Calls Tryz.prog 76 #[.int .i64 k, .string s_tail, .int .u32 base] w fun e w'=>e= .returned (.int .u32 0)∧w=w':=by
 obtain⟨h0,h1⟩:=hb
 unfold s_tail
 go_enter Tryz.func76,Tryz.ntmps76
 go_wp2_with fail
 go_ret
 exact⟨rfl,rfl⟩
theorem X3b(k base:Int)(w:World)(hb:0≤base∧base<4294967296):Calls Tryz.prog 76 #[.int .i64 k, .string X0p, .int .u32 base] w fun e w'=>e= .returned (.int .u32 0)∧w=w':=by
 obtain⟨h0,h1⟩:=hb
 unfold X0p
 go_enter Tryz.func76,Tryz.ntmps76
 go_wp2_with fail
 go_ret
 exact⟨rfl,rfl⟩
theorem X2Y(base:Int)(w:World)(hb:0≤base∧base<4294967296):Calls Tryz.prog 76 #[.int .i64 5, .string Q7G, .int .u32 base] w fun e w'=>e= .returned (.int .u32 0)∧w=w':=by
 obtain⟨h0,h1⟩:=hb
 unfold Q7G
 go_enter Tryz.func76,Tryz.ntmps76
 go_wp2_with fail
 go_ret
 exact⟨rfl,rfl⟩
theorem X2X(base:Int)(w:World)(hb:0≤base∧base<4294967296):Calls Tryz.prog 76 #[.int .i64 6, .string Q7G, .int .u32 base] w fun e w'=>e= .returned (.int .u32 (base%256*65792))∧w=w':=by
 obtain⟨h0,h1⟩:=hb
 unfold Q7G
 have e1:=Y7u base h0 h1
 have e2:base%256*65792%4294967296=base%256*65792:=by omega
 go_enter Tryz.func76,Tryz.ntmps76
 go_wp2_with fail
 go_ret
 exact⟨rfl,rfl⟩
theorem Q3T(n:Int)(w:World)(h:1≤n∧n≤64):Calls Tryz.prog 74 #[.int .i64 n] w fun e w'=>e= .returned (.tuple #[.agg #[.int .i64 n], .int .i64 0])∧Touch [] w w':=by
 have hr:=fun w=>Q5c n w h
 go_enter Tryz.func74,Tryz.ntmps74
 go_wp2_with (go_at_call 123;refine(hr _).mono ?_;rintro e w' ⟨rfl,rfl⟩)
 refine bodyPost_ret (v:= .tuple #[.agg #[.int .i64 n], .int .i64 0]) (by simp[results,Tryz.results74,go_sem]) rfl ⟨rfl,?_⟩
 repeat(first|exact Touch.refl _ _|apply Touch.drew|apply Touch.alloc)
theorem Q4u(n:Int)(w:World)(h:1≤n∧n≤64):Calls Tryz.prog 75 #[.agg #[.int .i64 n]] w fun e w'=>e= .returned (.int .i64 (8+4*n))∧Touch [] w w':=by
 have hr:=fun w=>Q5c n w h
 obtain⟨h1,h2⟩:=h
 go_enter Tryz.func75,Tryz.ntmps75
 go_wp2_with (go_at_call 123;refine(hr _).mono ?_;rintro e w' ⟨rfl,rfl⟩)
 go_ret
 exact⟨rfl,(Touch.refl _ _).alloc _⟩
def Q4o(w:World)(L:List Int)(e:Ending)(w':World):Prop:=
 ∃p g cap,e= .returned (.tuple #[.slice p L.length cap, .int .i64 0])∧Row w' p g L∧w.heap.size≤g∧g<w'.heap.size∧Touch [] w w'∧L.length≤cap∧cap≤9223372036854775807
theorem Q2J{l:List Int}{m:Nat}{v:Int}(h:0<m):(l++List.replicate m 0).set l.length v=(l++[v])++List.replicate (m-1) 0:=by
 rw[List.set_append_right _ _ (Nat.le_refl _),Nat.sub_self]
 obtain⟨k,rfl⟩: ∃k,m=k+1:=⟨m-1,by omega⟩
 simp[List.replicate_succ]
theorem Q3n(l:List Int)(m q:Nat)(h:l.length=q):(l++List.replicate m 0).getD q 0=0:=by
 subst h
 simp[List.getD,List.getElem?_append,List.getElem?_replicate]
 split<;>rfl
theorem Q3V{w w':World}{L L':List Int}{p:Option Addr}{g N:Nat}(hL:L'=L)(hlen:L'.length=N)(h0:0<N)(hN:N≤1048576)(R:Row w' p g L')(hg:w.heap.size≤g)(t:Touch [] w w'):
 Q4o w L (.returned (.tuple #[.slice p N N, .int .i64 0])) w':=by
 subst hL
 subst hlen
 exact⟨p,g,_,rfl,R,hg,R.lt h0,t,Nat.le_refl _,by omega⟩
theorem Q4p{l:List Int}{m:Nat}(hl: ∀x,x∈l→0≤x∧x<4294967296)(h:l.length+m≤1024):Words (l++List.replicate m 0):=by
 refine⟨by simpa using h,fun x hx=> ?_⟩
 rcases List.mem_append.1 hx with h1|h1
 ·exact hl x h1
 ·have:=List.eq_of_mem_replicate h1;omega
def Q5P(base:Int):List Int:=[base,base,base]
theorem Y7n(n base:Int)(w:World)(h:1≤n∧n≤64)(hb:0≤base∧base<4294967296):
 Calls Tryz.prog 47 #[.int .i64 1, .int .i64 n, .int .u32 base] w (Q4o w (Q5P base++List.replicate ((8+4*n).toNat-3) 0)):=by
 obtain⟨i0,hi0,hz0,hz1,hz2⟩:=info_parts Q5o
 have hnw:=fun w=>Q3T n w h
 have hsz:=fun w=>Q4u n w h
 obtain⟨h1,h2⟩:=h
 go_enter Tryz.func47,Tryz.ntmps47
 go_wp2_with (go_at_call 73;refine(Q5g _).mono ?_;rintro e w1 ⟨m,rfl,⟨b1,b2,b3,b4,b5,b6,hm,B1,B2,B3,B4,B5,B6⟩,ht1⟩;have hlk:=Q2V (P:=Tryz.prog) Tryz.underlying129 Tryz.underlying3 hm 1 _ rfl)
 refine(hnw _).mono ?_
 rintro e w2⟨rfl,ht2⟩
 have hB2:=(ht2.blk B1 (by simp)).alloc (.cells #[.int .i64 n] 94)
 have hT2:Touch [] w (w2.alloc (.cells #[.int .i64 n] 94)):=(ht1.trans ht2).alloc _
 clear hlk hm B1 B2 B3 B4 B5 B6 ht1 ht2
 go_wp2_with (first
  |(go_at_call 75;refine(hsz _).mono ?_;rintro e w3 ⟨rfl,ht3⟩)
  |(at_make;refine wpList_make_full _ rfl _ _ 65 rfl w3.heap.size 22 i0 _ 1 Tryz.underlying65 hi0 hz0 hz1 _ _ _ _ (8+4*n).toNat rfl rfl (by omega) (by omega) (by rw[hz2];omega) (by unfold maxLen;omega) (Nat.le_refl _) ?_;intro w4 hown hg))
 have z3:=ht3.size
 have z4:=hg.size
 simp only[World.size_alloc]at z3
 obtain⟨N,hN⟩: ∃N,(8+4*n).toNat=N:=⟨_,rfl⟩
 have hNn:(N:Int)=8+4*n:=by omega
 rw[hN]at hown
 have hown':w4.ownsRow w3.heap.size 22 1 (.slice (some ⟨w3.heap.size,0,none⟩) (List.replicate N (0:Int)).length N) (List.replicate N (0:Int)).length (Q4q (List.replicate N 0)):=by
  have e:(madeCells (Value.int .u32 0).cells (N*1)).toList=Q4q (List.replicate N 0):=by
   rw[Nat.mul_one];exact(toList_madeCells_one _ N).trans (by simp[Q4q])
  rw[e]at hown
  simpa using hown
 obtain⟨g,hR,_⟩:=Row.Q5R hown' (Q4p (l:=[]) (by simp) (by simp;omega))
 obtain rfl:g=w3.heap.size:=by have:=hR.at_ (by simp;omega);simp at this;exact this.symm
 have hT4:Touch [] w w4:=(hT2.trans ht3).grown hg (by simp)
 have hB4:=(Touch.grown (Touch.refl [] w3) hg (by simp)).blk (ht3.blk hB2 (by simp)) (by simp)
 have hbl:=hB4.lt
 have HB:=Lib.hid (show w.heap.size≤w3.heap.size∧b1≠w3.heap.size from⟨by have:=(hT2.trans ht3).size;omega,by have:=(ht3.blk hB2 (by simp)).lt;omega⟩)
 have HN:=Lib.hid hN
 clear hown hown' hg ht3 hT2 hB2 z3 z4 hN hbl hnw hsz
 rw[HN.out]
 go_loopw [33] (fun i wr=> ∃k:Nat,k≤3∧i= .int .i64 k∧Row wr (some ⟨w3.heap.size,0,none⟩) w3.heap.size ((Q5P base).take k++List.replicate (N-k) 0)∧Touch [] w wr∧Blk wr b1 X3U) (fun i _=>3-(intOf i).toNat)
 case atStart=>exact⟨0,by decide,rfl,hR,hT4,hB4⟩
 case round=>
  obtain⟨k,hk,rfl,hRr,hTr,hBr⟩:=hrel
  clear hR hT4 hB4
  have hcases:k=0∨k=1∨k=2∨k=3:=by omega
  clear hk
  rcases hcases with rfl|rfl|rfl|rfl
  ·have hname:wr.cell? ⟨b1,0,none⟩=some (.string X0n):=by rw[hBr.cell];rfl
   have hbl:=hBr.lt
   obtain⟨_,d1,d2,c3,_,_⟩:=hRr.Q3o 0 0 (by decide) (by simp[Q5P];omega) (Q3n _ _ 0 rfl)
   have c1:wr.cell? ⟨w3.heap.size,0,none⟩=some (.int .u32 0):=d1
   have c2:wr.frozen? ⟨w3.heap.size,0,none⟩=false:=d2
   clear d1 d2
   have hset:=hRr.set 0 (by simp[Q5P];omega) base hb.1 hb.2
   have hts:=(Touch.refl [w3.heap.size] wr).set (p:=⟨w3.heap.size,0,none⟩) (by simp) (.int .u32 base)
   have hTs:Touch [] w (wr.setCell ⟨w3.heap.size,0,none⟩ (.int .u32 base)):=hTr.newer hts (by have:=HB.out.1;simp;exact this)
   have hBs:=hts.blk hBr (by have:=HB.out.2;simpa using this)
   have hs:=Q2J (l:=(Q5P base).take 0) (m:=N-0) (v:=base) (by omega)
   rw[Nat.sub_sub]at hs
   have hset:Row (wr.setCell ⟨w3.heap.size,0,none⟩ (.int .u32 base)) (some ⟨w3.heap.size,0,none⟩) w3.heap.size ((Q5P base).take 1++List.replicate (N-1) 0):=by
    rw[show(Q5P base).take 1++List.replicate (N-1) 0=_ from hs.symm]
    exact hset
   have hi:(0:Int)<(N:Int):=by omega
   have HNN:=Lib.hid hNn
   clear hNn hs hts
   have HSET:=Lib.hid hset
   clear hset
   go_wp2_with (go_at_call 76;refine(X2Z _ base _ hb).mono ?_;rintro e w9 ⟨rfl,rfl⟩)
   exact⟨⟨1,by decide,rfl,HSET.out,hTs,hBs⟩,by simp[intOf]⟩
  ·have hname:wr.cell? ⟨b1,1,none⟩=some (.string X0o):=by rw[hBr.cell];rfl
   have hbl:=hBr.lt
   obtain⟨_,d1,d2,c3,_,_⟩:=hRr.Q3o 1 0 (by decide) (by simp[Q5P];omega) (Q3n _ _ 1 rfl)
   have c1:wr.cell? ⟨w3.heap.size,1,none⟩=some (.int .u32 0):=d1
   have c2:wr.frozen? ⟨w3.heap.size,1,none⟩=false:=d2
   clear d1 d2
   have hset:=hRr.set 1 (by simp[Q5P];omega) base hb.1 hb.2
   have hts:=(Touch.refl [w3.heap.size] wr).set (p:=⟨w3.heap.size,1,none⟩) (by simp) (.int .u32 base)
   have hTs:Touch [] w (wr.setCell ⟨w3.heap.size,1,none⟩ (.int .u32 base)):=hTr.newer hts (by have:=HB.out.1;simp;exact this)
   have hBs:=hts.blk hBr (by have:=HB.out.2;simpa using this)
   have hs:=Q2J (l:=(Q5P base).take 1) (m:=N-1) (v:=base) (by omega)
   rw[Nat.sub_sub]at hs
   have hset:Row (wr.setCell ⟨w3.heap.size,1,none⟩ (.int .u32 base)) (some ⟨w3.heap.size,0,none⟩) w3.heap.size ((Q5P base).take 2++List.replicate (N-2) 0):=by
    rw[show(Q5P base).take 2++List.replicate (N-2) 0=_ from hs.symm]
    exact hset
   have hi:(1:Int)<(N:Int):=by omega
   have HNN:=Lib.hid hNn
   clear hNn hs hts
   have HSET:=Lib.hid hset
   clear hset
   go_wp2_with (go_at_call 76;refine(X3a _ base _ hb).mono ?_;rintro e w9 ⟨rfl,rfl⟩)
   exact⟨⟨2,by decide,rfl,HSET.out,hTs,hBs⟩,by simp[intOf]⟩
  ·have hname:wr.cell? ⟨b1,2,none⟩=some (.string Q7U):=by rw[hBr.cell];rfl
   have hbl:=hBr.lt
   obtain⟨_,d1,d2,c3,_,_⟩:=hRr.Q3o 2 0 (by decide) (by simp[Q5P];omega) (Q3n _ _ 2 rfl)
   have c1:wr.cell? ⟨w3.heap.size,2,none⟩=some (.int .u32 0):=d1
   have c2:wr.frozen? ⟨w3.heap.size,2,none⟩=false:=d2
   clear d1 d2
   have hset:=hRr.set 2 (by simp[Q5P];omega) base hb.1 hb.2
   have hts:=(Touch.refl [w3.heap.size] wr).set (p:=⟨w3.heap.size,2,none⟩) (by simp) (.int .u32 base)
   have hTs:Touch [] w (wr.setCell ⟨w3.heap.size,2,none⟩ (.int .u32 base)):=hTr.newer hts (by have:=HB.out.1;simp;exact this)
   have hBs:=hts.blk hBr (by have:=HB.out.2;simpa using this)
   have hs:=Q2J (l:=(Q5P base).take 2) (m:=N-2) (v:=base) (by omega)
   rw[Nat.sub_sub]at hs
   have hset:Row (wr.setCell ⟨w3.heap.size,2,none⟩ (.int .u32 base)) (some ⟨w3.heap.size,0,none⟩) w3.heap.size ((Q5P base).take 3++List.replicate (N-3) 0):=by
    rw[show(Q5P base).take 3++List.replicate (N-3) 0=_ from hs.symm]
    exact hset
   have hi:(2:Int)<(N:Int):=by omega
   have HNN:=Lib.hid hNn
   clear hNn hs hts
   have HSET:=Lib.hid hset
   clear hset
   go_wp2_with (go_at_call 76;refine(X1Y _ base _ hb).mono ?_;rintro e w9 ⟨rfl,rfl⟩)
   exact⟨⟨3,by decide,rfl,HSET.out,hTs,hBs⟩,by simp[intOf]⟩
  ·have hlen:((Q5P base).take 3++List.replicate (N-3) 0).length=N:=by simp[Q5P];omega
   have HL:=Lib.hid hlen
   have HNN:=Lib.hid hNn
   clear hlen hNn
   go_wp2
   go_ret2
   exact Q3V (by rw[HN.out];rfl) HL.out (by have:=HNN.out;omega) (by have:=HNN.out;omega) hRr HB.out.1 hTr
def Q3U(base:Int):List Int:=[(base*256%4294967296),(base*256%4294967296),base,base,base]
theorem Y7m(n base:Int)(w:World)(h:1≤n∧n≤64)(hb:0≤base∧base<4294967296):
 Calls Tryz.prog 47 #[.int .i64 2, .int .i64 n, .int .u32 base] w (Q4o w (Q3U base++List.replicate ((8+4*n).toNat-5) 0)):=by
 obtain⟨i0,hi0,hz0,hz1,hz2⟩:=info_parts Q5o
 have hnw:=fun w=>Q3T n w h
 have hsz:=fun w=>Q4u n w h
 obtain⟨h1,h2⟩:=h
 go_enter Tryz.func47,Tryz.ntmps47
 go_wp2_with (go_at_call 73;refine(Q5g _).mono ?_;rintro e w1 ⟨m,rfl,⟨b1,b2,b3,b4,b5,b6,hm,B1,B2,B3,B4,B5,B6⟩,ht1⟩;have hlk:=Q2V (P:=Tryz.prog) Tryz.underlying129 Tryz.underlying3 hm 2 _ rfl)
 refine(hnw _).mono ?_
 rintro e w2⟨rfl,ht2⟩
 have hB2:=(ht2.blk B2 (by simp)).alloc (.cells #[.int .i64 n] 94)
 have hT2:Touch [] w (w2.alloc (.cells #[.int .i64 n] 94)):=(ht1.trans ht2).alloc _
 clear hlk hm B1 B2 B3 B4 B5 B6 ht1 ht2
 go_wp2_with (first
  |(go_at_call 75;refine(hsz _).mono ?_;rintro e w3 ⟨rfl,ht3⟩)
  |(at_make;refine wpList_make_full _ rfl _ _ 65 rfl w3.heap.size 22 i0 _ 1 Tryz.underlying65 hi0 hz0 hz1 _ _ _ _ (8+4*n).toNat rfl rfl (by omega) (by omega) (by rw[hz2];omega) (by unfold maxLen;omega) (Nat.le_refl _) ?_;intro w4 hown hg))
 have z3:=ht3.size
 have z4:=hg.size
 simp only[World.size_alloc]at z3
 obtain⟨N,hN⟩: ∃N,(8+4*n).toNat=N:=⟨_,rfl⟩
 have hNn:(N:Int)=8+4*n:=by omega
 rw[hN]at hown
 have hown':w4.ownsRow w3.heap.size 22 1 (.slice (some ⟨w3.heap.size,0,none⟩) (List.replicate N (0:Int)).length N) (List.replicate N (0:Int)).length (Q4q (List.replicate N 0)):=by
  have e:(madeCells (Value.int .u32 0).cells (N*1)).toList=Q4q (List.replicate N 0):=by
   rw[Nat.mul_one];exact(toList_madeCells_one _ N).trans (by simp[Q4q])
  rw[e]at hown
  simpa using hown
 obtain⟨g,hR,_⟩:=Row.Q5R hown' (Q4p (l:=[]) (by simp) (by simp;omega))
 obtain rfl:g=w3.heap.size:=by have:=hR.at_ (by simp;omega);simp at this;exact this.symm
 have hT4:Touch [] w w4:=(hT2.trans ht3).grown hg (by simp)
 have hB4:=(Touch.grown (Touch.refl [] w3) hg (by simp)).blk (ht3.blk hB2 (by simp)) (by simp)
 have hbl:=hB4.lt
 have HB:=Lib.hid (show w.heap.size≤w3.heap.size∧b2≠w3.heap.size from⟨by have:=(hT2.trans ht3).size;omega,by have:=(ht3.blk hB2 (by simp)).lt;omega⟩)
 have HN:=Lib.hid hN
 clear hown hown' hg ht3 hT2 hB2 z3 z4 hN hbl hnw hsz
 rw[HN.out]
 go_loopw [33] (fun i wr=> ∃k:Nat,k≤5∧i= .int .i64 k∧Row wr (some ⟨w3.heap.size,0,none⟩) w3.heap.size ((Q3U base).take k++List.replicate (N-k) 0)∧Touch [] w wr∧Blk wr b2 names2) (fun i _=>5-(intOf i).toNat)
 case atStart=>exact⟨0,by decide,rfl,hR,hT4,hB4⟩
 case round=>
  obtain⟨k,hk,rfl,hRr,hTr,hBr⟩:=hrel
  clear hR hT4 hB4
  have hcases:k=0∨k=1∨k=2∨k=3∨k=4∨k=5:=by omega
  clear hk
  rcases hcases with rfl|rfl|rfl|rfl|rfl|rfl
  ·have hname:wr.cell? ⟨b2,0,none⟩=some (.string X4E):=by rw[hBr.cell];rfl
   have hbl:=hBr.lt
   obtain⟨_,d1,d2,c3,_,_⟩:=hRr.Q3o 0 0 (by decide) (by simp[Q3U];omega) (Q3n _ _ 0 rfl)
   have c1:wr.cell? ⟨w3.heap.size,0,none⟩=some (.int .u32 0):=d1
   have c2:wr.frozen? ⟨w3.heap.size,0,none⟩=false:=d2
   clear d1 d2
   have hset:=hRr.set 0 (by simp[Q3U];omega) (base*256%4294967296) (by omega) (by omega)
   have hts:=(Touch.refl [w3.heap.size] wr).set (p:=⟨w3.heap.size,0,none⟩) (by simp) (.int .u32 (base*256%4294967296))
   have hTs:Touch [] w (wr.setCell ⟨w3.heap.size,0,none⟩ (.int .u32 (base*256%4294967296))):=hTr.newer hts (by have:=HB.out.1;simp;exact this)
   have hBs:=hts.blk hBr (by have:=HB.out.2;simpa using this)
   have hs:=Q2J (l:=(Q3U base).take 0) (m:=N-0) (v:=(base*256%4294967296)) (by omega)
   rw[Nat.sub_sub]at hs
   have hset:Row (wr.setCell ⟨w3.heap.size,0,none⟩ (.int .u32 (base*256%4294967296))) (some ⟨w3.heap.size,0,none⟩) w3.heap.size ((Q3U base).take 1++List.replicate (N-1) 0):=by
    rw[show(Q3U base).take 1++List.replicate (N-1) 0=_ from hs.symm]
    exact hset
   have hi:(0:Int)<(N:Int):=by omega
   have HNN:=Lib.hid hNn
   clear hNn hs hts
   have HSET:=Lib.hid hset
   clear hset
   go_wp2_with (go_at_call 76;refine(X1Z _ base _ hb).mono ?_;rintro e w9 ⟨rfl,rfl⟩)
   exact⟨⟨1,by decide,rfl,HSET.out,hTs,hBs⟩,by simp[intOf]⟩
  ·have hname:wr.cell? ⟨b2,1,none⟩=some (.string Q9C):=by rw[hBr.cell];rfl
   have hbl:=hBr.lt
   obtain⟨_,d1,d2,c3,_,_⟩:=hRr.Q3o 1 0 (by decide) (by simp[Q3U];omega) (Q3n _ _ 1 rfl)
   have c1:wr.cell? ⟨w3.heap.size,1,none⟩=some (.int .u32 0):=d1
   have c2:wr.frozen? ⟨w3.heap.size,1,none⟩=false:=d2
   clear d1 d2
   have hset:=hRr.set 1 (by simp[Q3U];omega) (base*256%4294967296) (by omega) (by omega)
   have hts:=(Touch.refl [w3.heap.size] wr).set (p:=⟨w3.heap.size,1,none⟩) (by simp) (.int .u32 (base*256%4294967296))
   have hTs:Touch [] w (wr.setCell ⟨w3.heap.size,1,none⟩ (.int .u32 (base*256%4294967296))):=hTr.newer hts (by have:=HB.out.1;simp;exact this)
   have hBs:=hts.blk hBr (by have:=HB.out.2;simpa using this)
   have hs:=Q2J (l:=(Q3U base).take 1) (m:=N-1) (v:=(base*256%4294967296)) (by omega)
   rw[Nat.sub_sub]at hs
   have hset:Row (wr.setCell ⟨w3.heap.size,1,none⟩ (.int .u32 (base*256%4294967296))) (some ⟨w3.heap.size,0,none⟩) w3.heap.size ((Q3U base).take 2++List.replicate (N-2) 0):=by
    rw[show(Q3U base).take 2++List.replicate (N-2) 0=_ from hs.symm]
    exact hset
   have hi:(1:Int)<(N:Int):=by omega
   have HNN:=Lib.hid hNn
   clear hNn hs hts
   have HSET:=Lib.hid hset
   clear hset
   go_wp2_with (go_at_call 76;refine(X0e _ base _ hb).mono ?_;rintro e w9 ⟨rfl,rfl⟩)
   exact⟨⟨2,by decide,rfl,HSET.out,hTs,hBs⟩,by simp[intOf]⟩
  ·have hname:wr.cell? ⟨b2,2,none⟩=some (.string Y0n):=by rw[hBr.cell];rfl
   have hbl:=hBr.lt
   obtain⟨_,d1,d2,c3,_,_⟩:=hRr.Q3o 2 0 (by decide) (by simp[Q3U];omega) (Q3n _ _ 2 rfl)
   have c1:wr.cell? ⟨w3.heap.size,2,none⟩=some (.int .u32 0):=d1
   have c2:wr.frozen? ⟨w3.heap.size,2,none⟩=false:=d2
   clear d1 d2
   have hset:=hRr.set 2 (by simp[Q3U];omega) base hb.1 hb.2
   have hts:=(Touch.refl [w3.heap.size] wr).set (p:=⟨w3.heap.size,2,none⟩) (by simp) (.int .u32 base)
   have hTs:Touch [] w (wr.setCell ⟨w3.heap.size,2,none⟩ (.int .u32 base)):=hTr.newer hts (by have:=HB.out.1;simp;exact this)
   have hBs:=hts.blk hBr (by have:=HB.out.2;simpa using this)
   have hs:=Q2J (l:=(Q3U base).take 2) (m:=N-2) (v:=base) (by omega)
   rw[Nat.sub_sub]at hs
   have hset:Row (wr.setCell ⟨w3.heap.size,2,none⟩ (.int .u32 base)) (some ⟨w3.heap.size,0,none⟩) w3.heap.size ((Q3U base).take 3++List.replicate (N-3) 0):=by
    rw[show(Q3U base).take 3++List.replicate (N-3) 0=_ from hs.symm]
    exact hset
   have hi:(2:Int)<(N:Int):=by omega
   have HNN:=Lib.hid hNn
   clear hNn hs hts
   have HSET:=Lib.hid hset
   clear hset
   go_wp2_with (go_at_call 76;refine(X9y _ base _ hb).mono ?_;rintro e w9 ⟨rfl,rfl⟩)
   exact⟨⟨3,by decide,rfl,HSET.out,hTs,hBs⟩,by simp[intOf]⟩
  ·have hname:wr.cell? ⟨b2,3,none⟩=some (.string X3x):=by rw[hBr.cell];rfl
   have hbl:=hBr.lt
   obtain⟨_,d1,d2,c3,_,_⟩:=hRr.Q3o 3 0 (by decide) (by simp[Q3U];omega) (Q3n _ _ 3 rfl)
   have c1:wr.cell? ⟨w3.heap.size,3,none⟩=some (.int .u32 0):=d1
   have c2:wr.frozen? ⟨w3.heap.size,3,none⟩=false:=d2
   clear d1 d2
   have hset:=hRr.set 3 (by simp[Q3U];omega) base hb.1 hb.2
   have hts:=(Touch.refl [w3.heap.size] wr).set (p:=⟨w3.heap.size,3,none⟩) (by simp) (.int .u32 base)
   have hTs:Touch [] w (wr.setCell ⟨w3.heap.size,3,none⟩ (.int .u32 base)):=hTr.newer hts (by have:=HB.out.1;simp;exact this)
   have hBs:=hts.blk hBr (by have:=HB.out.2;simpa using this)
   have hs:=Q2J (l:=(Q3U base).take 3) (m:=N-3) (v:=base) (by omega)
   rw[Nat.sub_sub]at hs
   have hset:Row (wr.setCell ⟨w3.heap.size,3,none⟩ (.int .u32 base)) (some ⟨w3.heap.size,0,none⟩) w3.heap.size ((Q3U base).take 4++List.replicate (N-4) 0):=by
    rw[show(Q3U base).take 4++List.replicate (N-4) 0=_ from hs.symm]
    exact hset
   have hi:(3:Int)<(N:Int):=by omega
   have HNN:=Lib.hid hNn
   clear hNn hs hts
   have HSET:=Lib.hid hset
   clear hset
   go_wp2_with (go_at_call 76;refine(X5P _ base _ hb).mono ?_;rintro e w9 ⟨rfl,rfl⟩)
   exact⟨⟨4,by decide,rfl,HSET.out,hTs,hBs⟩,by simp[intOf]⟩
  ·have hname:wr.cell? ⟨b2,4,none⟩=some (.string Q7m):=by rw[hBr.cell];rfl
   have hbl:=hBr.lt
   obtain⟨_,d1,d2,c3,_,_⟩:=hRr.Q3o 4 0 (by decide) (by simp[Q3U];omega) (Q3n _ _ 4 rfl)
   have c1:wr.cell? ⟨w3.heap.size,4,none⟩=some (.int .u32 0):=d1
   have c2:wr.frozen? ⟨w3.heap.size,4,none⟩=false:=d2
   clear d1 d2
   have hset:=hRr.set 4 (by simp[Q3U];omega) base hb.1 hb.2
   have hts:=(Touch.refl [w3.heap.size] wr).set (p:=⟨w3.heap.size,4,none⟩) (by simp) (.int .u32 base)
   have hTs:Touch [] w (wr.setCell ⟨w3.heap.size,4,none⟩ (.int .u32 base)):=hTr.newer hts (by have:=HB.out.1;simp;exact this)
   have hBs:=hts.blk hBr (by have:=HB.out.2;simpa using this)
   have hs:=Q2J (l:=(Q3U base).take 4) (m:=N-4) (v:=base) (by omega)
   rw[Nat.sub_sub]at hs
   have hset:Row (wr.setCell ⟨w3.heap.size,4,none⟩ (.int .u32 base)) (some ⟨w3.heap.size,0,none⟩) w3.heap.size ((Q3U base).take 5++List.replicate (N-5) 0):=by
    rw[show(Q3U base).take 5++List.replicate (N-5) 0=_ from hs.symm]
    exact hset
   have hi:(4:Int)<(N:Int):=by omega
   have HNN:=Lib.hid hNn
   clear hNn hs hts
   have HSET:=Lib.hid hset
   clear hset
   go_wp2_with (go_at_call 76;refine(Q8V _ base _ hb).mono ?_;rintro e w9 ⟨rfl,rfl⟩)
   exact⟨⟨5,by decide,rfl,HSET.out,hTs,hBs⟩,by simp[intOf]⟩
  ·have hlen:((Q3U base).take 5++List.replicate (N-5) 0).length=N:=by simp[Q3U];omega
   have HL:=Lib.hid hlen
   have HNN:=Lib.hid hNn
   clear hlen hNn
   go_wp2
   go_ret2
   exact Q3V (by rw[HN.out];rfl) HL.out (by have:=HNN.out;omega) (by have:=HNN.out;omega) hRr HB.out.1 hTr
def Q4F(base:Int):List Int:=[(base*256%4294967296),(base*256%4294967296),0,base]
theorem Y7l(n base:Int)(w:World)(h:1≤n∧n≤64)(hb:0≤base∧base<4294967296):
 Calls Tryz.prog 47 #[.int .i64 3, .int .i64 n, .int .u32 base] w (Q4o w (Q4F base++List.replicate ((8+4*n).toNat-4) 0)):=by
 obtain⟨i0,hi0,hz0,hz1,hz2⟩:=info_parts Q5o
 have hnw:=fun w=>Q3T n w h
 have hsz:=fun w=>Q4u n w h
 obtain⟨h1,h2⟩:=h
 go_enter Tryz.func47,Tryz.ntmps47
 go_wp2_with (go_at_call 73;refine(Q5g _).mono ?_;rintro e w1 ⟨m,rfl,⟨b1,b2,b3,b4,b5,b6,hm,B1,B2,B3,B4,B5,B6⟩,ht1⟩;have hlk:=Q2V (P:=Tryz.prog) Tryz.underlying129 Tryz.underlying3 hm 3 _ rfl)
 refine(hnw _).mono ?_
 rintro e w2⟨rfl,ht2⟩
 have hB2:=(ht2.blk B3 (by simp)).alloc (.cells #[.int .i64 n] 94)
 have hT2:Touch [] w (w2.alloc (.cells #[.int .i64 n] 94)):=(ht1.trans ht2).alloc _
 clear hlk hm B1 B2 B3 B4 B5 B6 ht1 ht2
 go_wp2_with (first
  |(go_at_call 75;refine(hsz _).mono ?_;rintro e w3 ⟨rfl,ht3⟩)
  |(at_make;refine wpList_make_full _ rfl _ _ 65 rfl w3.heap.size 22 i0 _ 1 Tryz.underlying65 hi0 hz0 hz1 _ _ _ _ (8+4*n).toNat rfl rfl (by omega) (by omega) (by rw[hz2];omega) (by unfold maxLen;omega) (Nat.le_refl _) ?_;intro w4 hown hg))
 have z3:=ht3.size
 have z4:=hg.size
 simp only[World.size_alloc]at z3
 obtain⟨N,hN⟩: ∃N,(8+4*n).toNat=N:=⟨_,rfl⟩
 have hNn:(N:Int)=8+4*n:=by omega
 rw[hN]at hown
 have hown':w4.ownsRow w3.heap.size 22 1 (.slice (some ⟨w3.heap.size,0,none⟩) (List.replicate N (0:Int)).length N) (List.replicate N (0:Int)).length (Q4q (List.replicate N 0)):=by
  have e:(madeCells (Value.int .u32 0).cells (N*1)).toList=Q4q (List.replicate N 0):=by
   rw[Nat.mul_one];exact(toList_madeCells_one _ N).trans (by simp[Q4q])
  rw[e]at hown
  simpa using hown
 obtain⟨g,hR,_⟩:=Row.Q5R hown' (Q4p (l:=[]) (by simp) (by simp;omega))
 obtain rfl:g=w3.heap.size:=by have:=hR.at_ (by simp;omega);simp at this;exact this.symm
 have hT4:Touch [] w w4:=(hT2.trans ht3).grown hg (by simp)
 have hB4:=(Touch.grown (Touch.refl [] w3) hg (by simp)).blk (ht3.blk hB2 (by simp)) (by simp)
 have hbl:=hB4.lt
 have HB:=Lib.hid (show w.heap.size≤w3.heap.size∧b3≠w3.heap.size from⟨by have:=(hT2.trans ht3).size;omega,by have:=(ht3.blk hB2 (by simp)).lt;omega⟩)
 have HN:=Lib.hid hN
 clear hown hown' hg ht3 hT2 hB2 z3 z4 hN hbl hnw hsz
 rw[HN.out]
 go_loopw [33] (fun i wr=> ∃k:Nat,k≤4∧i= .int .i64 k∧Row wr (some ⟨w3.heap.size,0,none⟩) w3.heap.size ((Q4F base).take k++List.replicate (N-k) 0)∧Touch [] w wr∧Blk wr b3 X3T) (fun i _=>4-(intOf i).toNat)
 case atStart=>exact⟨0,by decide,rfl,hR,hT4,hB4⟩
 case round=>
  obtain⟨k,hk,rfl,hRr,hTr,hBr⟩:=hrel
  clear hR hT4 hB4
  have hcases:k=0∨k=1∨k=2∨k=3∨k=4:=by omega
  clear hk
  rcases hcases with rfl|rfl|rfl|rfl|rfl
  ·have hname:wr.cell? ⟨b3,0,none⟩=some (.string X4E):=by rw[hBr.cell];rfl
   have hbl:=hBr.lt
   obtain⟨_,d1,d2,c3,_,_⟩:=hRr.Q3o 0 0 (by decide) (by simp[Q4F];omega) (Q3n _ _ 0 rfl)
   have c1:wr.cell? ⟨w3.heap.size,0,none⟩=some (.int .u32 0):=d1
   have c2:wr.frozen? ⟨w3.heap.size,0,none⟩=false:=d2
   clear d1 d2
   have hset:=hRr.set 0 (by simp[Q4F];omega) (base*256%4294967296) (by omega) (by omega)
   have hts:=(Touch.refl [w3.heap.size] wr).set (p:=⟨w3.heap.size,0,none⟩) (by simp) (.int .u32 (base*256%4294967296))
   have hTs:Touch [] w (wr.setCell ⟨w3.heap.size,0,none⟩ (.int .u32 (base*256%4294967296))):=hTr.newer hts (by have:=HB.out.1;simp;exact this)
   have hBs:=hts.blk hBr (by have:=HB.out.2;simpa using this)
   have hs:=Q2J (l:=(Q4F base).take 0) (m:=N-0) (v:=(base*256%4294967296)) (by omega)
   rw[Nat.sub_sub]at hs
   have hset:Row (wr.setCell ⟨w3.heap.size,0,none⟩ (.int .u32 (base*256%4294967296))) (some ⟨w3.heap.size,0,none⟩) w3.heap.size ((Q4F base).take 1++List.replicate (N-1) 0):=by
    rw[show(Q4F base).take 1++List.replicate (N-1) 0=_ from hs.symm]
    exact hset
   have hi:(0:Int)<(N:Int):=by omega
   have HNN:=Lib.hid hNn
   clear hNn hs hts
   have HSET:=Lib.hid hset
   clear hset
   go_wp2_with (go_at_call 76;refine(X1Z _ base _ hb).mono ?_;rintro e w9 ⟨rfl,rfl⟩)
   exact⟨⟨1,by decide,rfl,HSET.out,hTs,hBs⟩,by simp[intOf]⟩
  ·have hname:wr.cell? ⟨b3,1,none⟩=some (.string Q9C):=by rw[hBr.cell];rfl
   have hbl:=hBr.lt
   obtain⟨_,d1,d2,c3,_,_⟩:=hRr.Q3o 1 0 (by decide) (by simp[Q4F];omega) (Q3n _ _ 1 rfl)
   have c1:wr.cell? ⟨w3.heap.size,1,none⟩=some (.int .u32 0):=d1
   have c2:wr.frozen? ⟨w3.heap.size,1,none⟩=false:=d2
   clear d1 d2
   have hset:=hRr.set 1 (by simp[Q4F];omega) (base*256%4294967296) (by omega) (by omega)
   have hts:=(Touch.refl [w3.heap.size] wr).set (p:=⟨w3.heap.size,1,none⟩) (by simp) (.int .u32 (base*256%4294967296))
   have hTs:Touch [] w (wr.setCell ⟨w3.heap.size,1,none⟩ (.int .u32 (base*256%4294967296))):=hTr.newer hts (by have:=HB.out.1;simp;exact this)
   have hBs:=hts.blk hBr (by have:=HB.out.2;simpa using this)
   have hs:=Q2J (l:=(Q4F base).take 1) (m:=N-1) (v:=(base*256%4294967296)) (by omega)
   rw[Nat.sub_sub]at hs
   have hset:Row (wr.setCell ⟨w3.heap.size,1,none⟩ (.int .u32 (base*256%4294967296))) (some ⟨w3.heap.size,0,none⟩) w3.heap.size ((Q4F base).take 2++List.replicate (N-2) 0):=by
    rw[show(Q4F base).take 2++List.replicate (N-2) 0=_ from hs.symm]
    exact hset
   have hi:(1:Int)<(N:Int):=by omega
   have HNN:=Lib.hid hNn
   clear hNn hs hts
   have HSET:=Lib.hid hset
   clear hset
   go_wp2_with (go_at_call 76;refine(X0e _ base _ hb).mono ?_;rintro e w9 ⟨rfl,rfl⟩)
   exact⟨⟨2,by decide,rfl,HSET.out,hTs,hBs⟩,by simp[intOf]⟩
  ·have hname:wr.cell? ⟨b3,2,none⟩=some (.string s_tail):=by rw[hBr.cell];rfl
   have hbl:=hBr.lt
   obtain⟨_,d1,d2,c3,_,_⟩:=hRr.Q3o 2 0 (by decide) (by simp[Q4F];omega) (Q3n _ _ 2 rfl)
   have c1:wr.cell? ⟨w3.heap.size,2,none⟩=some (.int .u32 0):=d1
   have c2:wr.frozen? ⟨w3.heap.size,2,none⟩=false:=d2
   clear d1 d2
   have hset:=hRr.set 2 (by simp[Q4F];omega) 0 (by decide) (by decide)
   have hts:=(Touch.refl [w3.heap.size] wr).set (p:=⟨w3.heap.size,2,none⟩) (by simp) (.int .u32 0)
   have hTs:Touch [] w (wr.setCell ⟨w3.heap.size,2,none⟩ (.int .u32 0)):=hTr.newer hts (by have:=HB.out.1;simp;exact this)
   have hBs:=hts.blk hBr (by have:=HB.out.2;simpa using this)
   have hs:=Q2J (l:=(Q4F base).take 2) (m:=N-2) (v:=0) (by omega)
   rw[Nat.sub_sub]at hs
   have hset:Row (wr.setCell ⟨w3.heap.size,2,none⟩ (.int .u32 0)) (some ⟨w3.heap.size,0,none⟩) w3.heap.size ((Q4F base).take 3++List.replicate (N-3) 0):=by
    rw[show(Q4F base).take 3++List.replicate (N-3) 0=_ from hs.symm]
    exact hset
   have hi:(2:Int)<(N:Int):=by omega
   have HNN:=Lib.hid hNn
   clear hNn hs hts
   have HSET:=Lib.hid hset
   clear hset
   go_wp2_with (go_at_call 76;refine(X0d _ base _ hb).mono ?_;rintro e w9 ⟨rfl,rfl⟩)
   exact⟨⟨3,by decide,rfl,HSET.out,hTs,hBs⟩,by simp[intOf]⟩
  ·have hname:wr.cell? ⟨b3,3,none⟩=some (.string Q7m):=by rw[hBr.cell];rfl
   have hbl:=hBr.lt
   obtain⟨_,d1,d2,c3,_,_⟩:=hRr.Q3o 3 0 (by decide) (by simp[Q4F];omega) (Q3n _ _ 3 rfl)
   have c1:wr.cell? ⟨w3.heap.size,3,none⟩=some (.int .u32 0):=d1
   have c2:wr.frozen? ⟨w3.heap.size,3,none⟩=false:=d2
   clear d1 d2
   have hset:=hRr.set 3 (by simp[Q4F];omega) base hb.1 hb.2
   have hts:=(Touch.refl [w3.heap.size] wr).set (p:=⟨w3.heap.size,3,none⟩) (by simp) (.int .u32 base)
   have hTs:Touch [] w (wr.setCell ⟨w3.heap.size,3,none⟩ (.int .u32 base)):=hTr.newer hts (by have:=HB.out.1;simp;exact this)
   have hBs:=hts.blk hBr (by have:=HB.out.2;simpa using this)
   have hs:=Q2J (l:=(Q4F base).take 3) (m:=N-3) (v:=base) (by omega)
   rw[Nat.sub_sub]at hs
   have hset:Row (wr.setCell ⟨w3.heap.size,3,none⟩ (.int .u32 base)) (some ⟨w3.heap.size,0,none⟩) w3.heap.size ((Q4F base).take 4++List.replicate (N-4) 0):=by
    rw[show(Q4F base).take 4++List.replicate (N-4) 0=_ from hs.symm]
    exact hset
   have hi:(3:Int)<(N:Int):=by omega
   have HNN:=Lib.hid hNn
   clear hNn hs hts
   have HSET:=Lib.hid hset
   clear hset
   go_wp2_with (go_at_call 76;refine(Q8V _ base _ hb).mono ?_;rintro e w9 ⟨rfl,rfl⟩)
   exact⟨⟨4,by decide,rfl,HSET.out,hTs,hBs⟩,by simp[intOf]⟩
  ·have hlen:((Q4F base).take 4++List.replicate (N-4) 0).length=N:=by simp[Q4F];omega
   have HL:=Lib.hid hlen
   have HNN:=Lib.hid hNn
   clear hlen hNn
   go_wp2
   go_ret2
   exact Q3V (by rw[HN.out];rfl) HL.out (by have:=HNN.out;omega) (by have:=HNN.out;omega) hRr HB.out.1 hTr
def own4(base:Int):List Int:=[0,0]
theorem Y7k(n base:Int)(w:World)(h:1≤n∧n≤64)(hb:0≤base∧base<4294967296):
 Calls Tryz.prog 47 #[.int .i64 4, .int .i64 n, .int .u32 base] w (Q4o w (own4 base++List.replicate ((8+4*n).toNat-2) 0)):=by
 obtain⟨i0,hi0,hz0,hz1,hz2⟩:=info_parts Q5o
 have hnw:=fun w=>Q3T n w h
 have hsz:=fun w=>Q4u n w h
 obtain⟨h1,h2⟩:=h
 go_enter Tryz.func47,Tryz.ntmps47
 go_wp2_with (go_at_call 73;refine(Q5g _).mono ?_;rintro e w1 ⟨m,rfl,⟨b1,b2,b3,b4,b5,b6,hm,B1,B2,B3,B4,B5,B6⟩,ht1⟩;have hlk:=Q2V (P:=Tryz.prog) Tryz.underlying129 Tryz.underlying3 hm 4 _ rfl)
 refine(hnw _).mono ?_
 rintro e w2⟨rfl,ht2⟩
 have hB2:=(ht2.blk B4 (by simp)).alloc (.cells #[.int .i64 n] 94)
 have hT2:Touch [] w (w2.alloc (.cells #[.int .i64 n] 94)):=(ht1.trans ht2).alloc _
 clear hlk hm B1 B2 B3 B4 B5 B6 ht1 ht2
 go_wp2_with (first
  |(go_at_call 75;refine(hsz _).mono ?_;rintro e w3 ⟨rfl,ht3⟩)
  |(at_make;refine wpList_make_full _ rfl _ _ 65 rfl w3.heap.size 22 i0 _ 1 Tryz.underlying65 hi0 hz0 hz1 _ _ _ _ (8+4*n).toNat rfl rfl (by omega) (by omega) (by rw[hz2];omega) (by unfold maxLen;omega) (Nat.le_refl _) ?_;intro w4 hown hg))
 have z3:=ht3.size
 have z4:=hg.size
 simp only[World.size_alloc]at z3
 obtain⟨N,hN⟩: ∃N,(8+4*n).toNat=N:=⟨_,rfl⟩
 have hNn:(N:Int)=8+4*n:=by omega
 rw[hN]at hown
 have hown':w4.ownsRow w3.heap.size 22 1 (.slice (some ⟨w3.heap.size,0,none⟩) (List.replicate N (0:Int)).length N) (List.replicate N (0:Int)).length (Q4q (List.replicate N 0)):=by
  have e:(madeCells (Value.int .u32 0).cells (N*1)).toList=Q4q (List.replicate N 0):=by
   rw[Nat.mul_one];exact(toList_madeCells_one _ N).trans (by simp[Q4q])
  rw[e]at hown
  simpa using hown
 obtain⟨g,hR,_⟩:=Row.Q5R hown' (Q4p (l:=[]) (by simp) (by simp;omega))
 obtain rfl:g=w3.heap.size:=by have:=hR.at_ (by simp;omega);simp at this;exact this.symm
 have hT4:Touch [] w w4:=(hT2.trans ht3).grown hg (by simp)
 have hB4:=(Touch.grown (Touch.refl [] w3) hg (by simp)).blk (ht3.blk hB2 (by simp)) (by simp)
 have hbl:=hB4.lt
 have HB:=Lib.hid (show w.heap.size≤w3.heap.size∧b4≠w3.heap.size from⟨by have:=(hT2.trans ht3).size;omega,by have:=(ht3.blk hB2 (by simp)).lt;omega⟩)
 have HN:=Lib.hid hN
 clear hown hown' hg ht3 hT2 hB2 z3 z4 hN hbl hnw hsz
 rw[HN.out]
 go_loopw [33] (fun i wr=> ∃k:Nat,k≤2∧i= .int .i64 k∧Row wr (some ⟨w3.heap.size,0,none⟩) w3.heap.size ((own4 base).take k++List.replicate (N-k) 0)∧Touch [] w wr∧Blk wr b4 X3S) (fun i _=>2-(intOf i).toNat)
 case atStart=>exact⟨0,by decide,rfl,hR,hT4,hB4⟩
 case round=>
  obtain⟨k,hk,rfl,hRr,hTr,hBr⟩:=hrel
  clear hR hT4 hB4
  have hcases:k=0∨k=1∨k=2:=by omega
  clear hk
  rcases hcases with rfl|rfl|rfl
  ·have hname:wr.cell? ⟨b4,0,none⟩=some (.string s_tail):=by rw[hBr.cell];rfl
   have hbl:=hBr.lt
   obtain⟨_,d1,d2,c3,_,_⟩:=hRr.Q3o 0 0 (by decide) (by simp[own4];omega) (Q3n _ _ 0 rfl)
   have c1:wr.cell? ⟨w3.heap.size,0,none⟩=some (.int .u32 0):=d1
   have c2:wr.frozen? ⟨w3.heap.size,0,none⟩=false:=d2
   clear d1 d2
   have hset:=hRr.set 0 (by simp[own4];omega) 0 (by decide) (by decide)
   have hts:=(Touch.refl [w3.heap.size] wr).set (p:=⟨w3.heap.size,0,none⟩) (by simp) (.int .u32 0)
   have hTs:Touch [] w (wr.setCell ⟨w3.heap.size,0,none⟩ (.int .u32 0)):=hTr.newer hts (by have:=HB.out.1;simp;exact this)
   have hBs:=hts.blk hBr (by have:=HB.out.2;simpa using this)
   have hs:=Q2J (l:=(own4 base).take 0) (m:=N-0) (v:=0) (by omega)
   rw[Nat.sub_sub]at hs
   have hset:Row (wr.setCell ⟨w3.heap.size,0,none⟩ (.int .u32 0)) (some ⟨w3.heap.size,0,none⟩) w3.heap.size ((own4 base).take 1++List.replicate (N-1) 0):=by
    rw[show(own4 base).take 1++List.replicate (N-1) 0=_ from hs.symm]
    exact hset
   have hi:(0:Int)<(N:Int):=by omega
   have HNN:=Lib.hid hNn
   clear hNn hs hts
   have HSET:=Lib.hid hset
   clear hset
   go_wp2_with (go_at_call 76;refine(X0d _ base _ hb).mono ?_;rintro e w9 ⟨rfl,rfl⟩)
   exact⟨⟨1,by decide,rfl,HSET.out,hTs,hBs⟩,by simp[intOf]⟩
  ·have hname:wr.cell? ⟨b4,1,none⟩=some (.string X0p):=by rw[hBr.cell];rfl
   have hbl:=hBr.lt
   obtain⟨_,d1,d2,c3,_,_⟩:=hRr.Q3o 1 0 (by decide) (by simp[own4];omega) (Q3n _ _ 1 rfl)
   have c1:wr.cell? ⟨w3.heap.size,1,none⟩=some (.int .u32 0):=d1
   have c2:wr.frozen? ⟨w3.heap.size,1,none⟩=false:=d2
   clear d1 d2
   have hset:=hRr.set 1 (by simp[own4];omega) 0 (by decide) (by decide)
   have hts:=(Touch.refl [w3.heap.size] wr).set (p:=⟨w3.heap.size,1,none⟩) (by simp) (.int .u32 0)
   have hTs:Touch [] w (wr.setCell ⟨w3.heap.size,1,none⟩ (.int .u32 0)):=hTr.newer hts (by have:=HB.out.1;simp;exact this)
   have hBs:=hts.blk hBr (by have:=HB.out.2;simpa using this)
   have hs:=Q2J (l:=(own4 base).take 1) (m:=N-1) (v:=0) (by omega)
   rw[Nat.sub_sub]at hs
   have hset:Row (wr.setCell ⟨w3.heap.size,1,none⟩ (.int .u32 0)) (some ⟨w3.heap.size,0,none⟩) w3.heap.size ((own4 base).take 2++List.replicate (N-2) 0):=by
    rw[show(own4 base).take 2++List.replicate (N-2) 0=_ from hs.symm]
    exact hset
   have hi:(1:Int)<(N:Int):=by omega
   have HNN:=Lib.hid hNn
   clear hNn hs hts
   have HSET:=Lib.hid hset
   clear hset
   go_wp2_with (go_at_call 76;refine(X3b _ base _ hb).mono ?_;rintro e w9 ⟨rfl,rfl⟩)
   exact⟨⟨2,by decide,rfl,HSET.out,hTs,hBs⟩,by simp[intOf]⟩
  ·have hlen:((own4 base).take 2++List.replicate (N-2) 0).length=N:=by simp[own4];omega
   have HL:=Lib.hid hlen
   have HNN:=Lib.hid hNn
   clear hlen hNn
   go_wp2
   go_ret2
   exact Q3V (by rw[HN.out];rfl) HL.out (by have:=HNN.out;omega) (by have:=HNN.out;omega) hRr HB.out.1 hTr
def Q9j(base:Int):List Int:=[0]
theorem Y7j(n base:Int)(w:World)(h:1≤n∧n≤64)(hb:0≤base∧base<4294967296):
 Calls Tryz.prog 47 #[.int .i64 5, .int .i64 n, .int .u32 base] w (Q4o w (Q9j base++List.replicate ((8+4*n).toNat-1) 0)):=by
 obtain⟨i0,hi0,hz0,hz1,hz2⟩:=info_parts Q5o
 have hnw:=fun w=>Q3T n w h
 have hsz:=fun w=>Q4u n w h
 obtain⟨h1,h2⟩:=h
 go_enter Tryz.func47,Tryz.ntmps47
 go_wp2_with (go_at_call 73;refine(Q5g _).mono ?_;rintro e w1 ⟨m,rfl,⟨b1,b2,b3,b4,b5,b6,hm,B1,B2,B3,B4,B5,B6⟩,ht1⟩;have hlk:=Q2V (P:=Tryz.prog) Tryz.underlying129 Tryz.underlying3 hm 5 _ rfl)
 refine(hnw _).mono ?_
 rintro e w2⟨rfl,ht2⟩
 have hB2:=(ht2.blk B5 (by simp)).alloc (.cells #[.int .i64 n] 94)
 have hT2:Touch [] w (w2.alloc (.cells #[.int .i64 n] 94)):=(ht1.trans ht2).alloc _
 clear hlk hm B1 B2 B3 B4 B5 B6 ht1 ht2
 go_wp2_with (first
  |(go_at_call 75;refine(hsz _).mono ?_;rintro e w3 ⟨rfl,ht3⟩)
  |(at_make;refine wpList_make_full _ rfl _ _ 65 rfl w3.heap.size 22 i0 _ 1 Tryz.underlying65 hi0 hz0 hz1 _ _ _ _ (8+4*n).toNat rfl rfl (by omega) (by omega) (by rw[hz2];omega) (by unfold maxLen;omega) (Nat.le_refl _) ?_;intro w4 hown hg))
 have z3:=ht3.size
 have z4:=hg.size
 simp only[World.size_alloc]at z3
 obtain⟨N,hN⟩: ∃N,(8+4*n).toNat=N:=⟨_,rfl⟩
 have hNn:(N:Int)=8+4*n:=by omega
 rw[hN]at hown
 have hown':w4.ownsRow w3.heap.size 22 1 (.slice (some ⟨w3.heap.size,0,none⟩) (List.replicate N (0:Int)).length N) (List.replicate N (0:Int)).length (Q4q (List.replicate N 0)):=by
  have e:(madeCells (Value.int .u32 0).cells (N*1)).toList=Q4q (List.replicate N 0):=by
   rw[Nat.mul_one];exact(toList_madeCells_one _ N).trans (by simp[Q4q])
  rw[e]at hown
  simpa using hown
 obtain⟨g,hR,_⟩:=Row.Q5R hown' (Q4p (l:=[]) (by simp) (by simp;omega))
 obtain rfl:g=w3.heap.size:=by have:=hR.at_ (by simp;omega);simp at this;exact this.symm
 have hT4:Touch [] w w4:=(hT2.trans ht3).grown hg (by simp)
 have hB4:=(Touch.grown (Touch.refl [] w3) hg (by simp)).blk (ht3.blk hB2 (by simp)) (by simp)
 have hbl:=hB4.lt
 have HB:=Lib.hid (show w.heap.size≤w3.heap.size∧b5≠w3.heap.size from⟨by have:=(hT2.trans ht3).size;omega,by have:=(ht3.blk hB2 (by simp)).lt;omega⟩)
 have HN:=Lib.hid hN
 clear hown hown' hg ht3 hT2 hB2 z3 z4 hN hbl hnw hsz
 rw[HN.out]
 go_loopw [33] (fun i wr=> ∃k:Nat,k≤1∧i= .int .i64 k∧Row wr (some ⟨w3.heap.size,0,none⟩) w3.heap.size ((Q9j base).take k++List.replicate (N-k) 0)∧Touch [] w wr∧Blk wr b5 X3R) (fun i _=>1-(intOf i).toNat)
 case atStart=>exact⟨0,by decide,rfl,hR,hT4,hB4⟩
 case round=>
  obtain⟨k,hk,rfl,hRr,hTr,hBr⟩:=hrel
  clear hR hT4 hB4
  have hcases:k=0∨k=1:=by omega
  clear hk
  rcases hcases with rfl|rfl
  ·have hname:wr.cell? ⟨b5,0,none⟩=some (.string Q7G):=by rw[hBr.cell];rfl
   have hbl:=hBr.lt
   obtain⟨_,d1,d2,c3,_,_⟩:=hRr.Q3o 0 0 (by decide) (by simp[Q9j];omega) (Q3n _ _ 0 rfl)
   have c1:wr.cell? ⟨w3.heap.size,0,none⟩=some (.int .u32 0):=d1
   have c2:wr.frozen? ⟨w3.heap.size,0,none⟩=false:=d2
   clear d1 d2
   have hset:=hRr.set 0 (by simp[Q9j];omega) 0 (by decide) (by decide)
   have hts:=(Touch.refl [w3.heap.size] wr).set (p:=⟨w3.heap.size,0,none⟩) (by simp) (.int .u32 0)
   have hTs:Touch [] w (wr.setCell ⟨w3.heap.size,0,none⟩ (.int .u32 0)):=hTr.newer hts (by have:=HB.out.1;simp;exact this)
   have hBs:=hts.blk hBr (by have:=HB.out.2;simpa using this)
   have hs:=Q2J (l:=(Q9j base).take 0) (m:=N-0) (v:=0) (by omega)
   rw[Nat.sub_sub]at hs
   have hset:Row (wr.setCell ⟨w3.heap.size,0,none⟩ (.int .u32 0)) (some ⟨w3.heap.size,0,none⟩) w3.heap.size ((Q9j base).take 1++List.replicate (N-1) 0):=by
    rw[show(Q9j base).take 1++List.replicate (N-1) 0=_ from hs.symm]
    exact hset
   have hi:(0:Int)<(N:Int):=by omega
   have HNN:=Lib.hid hNn
   clear hNn hs hts
   have HSET:=Lib.hid hset
   clear hset
   go_wp2_with (go_at_call 76;refine(X2Y base _ hb).mono ?_;rintro e w9 ⟨rfl,rfl⟩)
   exact⟨⟨1,by decide,rfl,HSET.out,hTs,hBs⟩,by simp[intOf]⟩
  ·have hlen:((Q9j base).take 1++List.replicate (N-1) 0).length=N:=by simp[Q9j];omega
   have HL:=Lib.hid hlen
   have HNN:=Lib.hid hNn
   clear hlen hNn
   go_wp2
   go_ret2
   exact Q3V (by rw[HN.out];rfl) HL.out (by have:=HNN.out;omega) (by have:=HNN.out;omega) hRr HB.out.1 hTr
def Q8A(base:Int):List Int:=[(base%256*65792)]
theorem Y7i(n base:Int)(w:World)(h:1≤n∧n≤64)(hb:0≤base∧base<4294967296):
 Calls Tryz.prog 47 #[.int .i64 6, .int .i64 n, .int .u32 base] w (Q4o w (Q8A base++List.replicate ((8+4*n).toNat-1) 0)):=by
 obtain⟨i0,hi0,hz0,hz1,hz2⟩:=info_parts Q5o
 have hnw:=fun w=>Q3T n w h
 have hsz:=fun w=>Q4u n w h
 obtain⟨h1,h2⟩:=h
 go_enter Tryz.func47,Tryz.ntmps47
 go_wp2_with (go_at_call 73;refine(Q5g _).mono ?_;rintro e w1 ⟨m,rfl,⟨b1,b2,b3,b4,b5,b6,hm,B1,B2,B3,B4,B5,B6⟩,ht1⟩;have hlk:=Q2V (P:=Tryz.prog) Tryz.underlying129 Tryz.underlying3 hm 6 _ rfl)
 refine(hnw _).mono ?_
 rintro e w2⟨rfl,ht2⟩
 have hB2:=(ht2.blk B6 (by simp)).alloc (.cells #[.int .i64 n] 94)
 have hT2:Touch [] w (w2.alloc (.cells #[.int .i64 n] 94)):=(ht1.trans ht2).alloc _
 clear hlk hm B1 B2 B3 B4 B5 B6 ht1 ht2
 go_wp2_with (first
  |(go_at_call 75;refine(hsz _).mono ?_;rintro e w3 ⟨rfl,ht3⟩)
  |(at_make;refine wpList_make_full _ rfl _ _ 65 rfl w3.heap.size 22 i0 _ 1 Tryz.underlying65 hi0 hz0 hz1 _ _ _ _ (8+4*n).toNat rfl rfl (by omega) (by omega) (by rw[hz2];omega) (by unfold maxLen;omega) (Nat.le_refl _) ?_;intro w4 hown hg))
 have z3:=ht3.size
 have z4:=hg.size
 simp only[World.size_alloc]at z3
 obtain⟨N,hN⟩: ∃N,(8+4*n).toNat=N:=⟨_,rfl⟩
 have hNn:(N:Int)=8+4*n:=by omega
 rw[hN]at hown
 have hown':w4.ownsRow w3.heap.size 22 1 (.slice (some ⟨w3.heap.size,0,none⟩) (List.replicate N (0:Int)).length N) (List.replicate N (0:Int)).length (Q4q (List.replicate N 0)):=by
  have e:(madeCells (Value.int .u32 0).cells (N*1)).toList=Q4q (List.replicate N 0):=by
   rw[Nat.mul_one];exact(toList_madeCells_one _ N).trans (by simp[Q4q])
  rw[e]at hown
  simpa using hown
 obtain⟨g,hR,_⟩:=Row.Q5R hown' (Q4p (l:=[]) (by simp) (by simp;omega))
 obtain rfl:g=w3.heap.size:=by have:=hR.at_ (by simp;omega);simp at this;exact this.symm
 have hT4:Touch [] w w4:=(hT2.trans ht3).grown hg (by simp)
 have hB4:=(Touch.grown (Touch.refl [] w3) hg (by simp)).blk (ht3.blk hB2 (by simp)) (by simp)
 have hbl:=hB4.lt
 have HB:=Lib.hid (show w.heap.size≤w3.heap.size∧b6≠w3.heap.size from⟨by have:=(hT2.trans ht3).size;omega,by have:=(ht3.blk hB2 (by simp)).lt;omega⟩)
 have HN:=Lib.hid hN
 clear hown hown' hg ht3 hT2 hB2 z3 z4 hN hbl hnw hsz
 rw[HN.out]
 go_loopw [33] (fun i wr=> ∃k:Nat,k≤1∧i= .int .i64 k∧Row wr (some ⟨w3.heap.size,0,none⟩) w3.heap.size ((Q8A base).take k++List.replicate (N-k) 0)∧Touch [] w wr∧Blk wr b6 X3Q) (fun i _=>1-(intOf i).toNat)
 case atStart=>exact⟨0,by decide,rfl,hR,hT4,hB4⟩
 case round=>
  obtain⟨k,hk,rfl,hRr,hTr,hBr⟩:=hrel
  clear hR hT4 hB4
  have hcases:k=0∨k=1:=by omega
  clear hk
  rcases hcases with rfl|rfl
  ·have hname:wr.cell? ⟨b6,0,none⟩=some (.string Q7G):=by rw[hBr.cell];rfl
   have hbl:=hBr.lt
   obtain⟨_,d1,d2,c3,_,_⟩:=hRr.Q3o 0 0 (by decide) (by simp[Q8A];omega) (Q3n _ _ 0 rfl)
   have c1:wr.cell? ⟨w3.heap.size,0,none⟩=some (.int .u32 0):=d1
   have c2:wr.frozen? ⟨w3.heap.size,0,none⟩=false:=d2
   clear d1 d2
   have hset:=hRr.set 0 (by simp[Q8A];omega) (base%256*65792) (by omega) (by omega)
   have hts:=(Touch.refl [w3.heap.size] wr).set (p:=⟨w3.heap.size,0,none⟩) (by simp) (.int .u32 (base%256*65792))
   have hTs:Touch [] w (wr.setCell ⟨w3.heap.size,0,none⟩ (.int .u32 (base%256*65792))):=hTr.newer hts (by have:=HB.out.1;simp;exact this)
   have hBs:=hts.blk hBr (by have:=HB.out.2;simpa using this)
   have hs:=Q2J (l:=(Q8A base).take 0) (m:=N-0) (v:=(base%256*65792)) (by omega)
   rw[Nat.sub_sub]at hs
   have hset:Row (wr.setCell ⟨w3.heap.size,0,none⟩ (.int .u32 (base%256*65792))) (some ⟨w3.heap.size,0,none⟩) w3.heap.size ((Q8A base).take 1++List.replicate (N-1) 0):=by
    rw[show(Q8A base).take 1++List.replicate (N-1) 0=_ from hs.symm]
    exact hset
   have hi:(0:Int)<(N:Int):=by omega
   have HNN:=Lib.hid hNn
   clear hNn hs hts
   have HSET:=Lib.hid hset
   clear hset
   go_wp2_with (go_at_call 76;refine(X2X base _ hb).mono ?_;rintro e w9 ⟨rfl,rfl⟩)
   exact⟨⟨1,by decide,rfl,HSET.out,hTs,hBs⟩,by simp[intOf]⟩
  ·have hlen:((Q8A base).take 1++List.replicate (N-1) 0).length=N:=by simp[Q8A];omega
   have HL:=Lib.hid hlen
   have HNN:=Lib.hid hNn
   clear hlen hNn
   go_wp2
   go_ret2
   exact Q3V (by rw[HN.out];rfl) HL.out (by have:=HNN.out;omega) (by have:=HNN.out;omega) hRr HB.out.1 hTr
end Go.Proofs.YthnimpkoidablaaGreat.Z
