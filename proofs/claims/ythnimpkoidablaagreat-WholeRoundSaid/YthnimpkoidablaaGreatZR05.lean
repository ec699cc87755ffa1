import Derived.Test.YthnimpkoidablaaGreatZR02
set_option linter.unusedVariables false
set_option linter.unusedSimpArgs false
set_option maxHeartbeats 1000000
namespace Go.Proofs.YthnimpkoidablaaGreat.Z
open Go.RowKit
def pqRA(c:Nat→Int)(op line a1 a2:Int):Prop:=if((op=1∨op=5)∧line=1)∨(op=3∧line=7)∨((op=6∨op=7)∧(line=3∨line=6))then a2=(a1+c 0)%4294967296 else if op=0∨op=1∨op=2∨op=5∨(op=3∧(line=0∨line=1∨line=2∨line=4∨line=5∨line=6))∨((op=6∨op=7)∧(line=0∨line=1∨line=2∨line=4∨line=5∨line=7∨line=8))then True else a2=a1
def pqRB(c:Nat→Int)(op line a1 a2:Int):Prop:=if(op=3∧line=6)∨((op=4∨op=8)∧(line=1∨line=2))∨((op=6∨op=7)∧line=5)then a2=(a1+c 3)%4294967296 else True
section
variable {c:Nat→Int}
theorem qpfR10_s(hc:AddC c)(k0:c 0%4=0)(k1:c 1=c 0)(k2:c 2=0)(k3:c 3%2=0){s1 s2:Rn}(H:RnSh (addT c) (pqRA c) (pqRB c) s1 s2)(ok:OkU s1)(ho:s1.f.op=1)(hl:s1.f.line=0):RnSh (addT c) (pqRA c) (pqRB c) (Q1o s1) (Q1o s2):=by
 have HL:=H.1
 have ok1:=ok
 obtain⟨ra,rb,_⟩:=ok1
 have D:DSh c 0 (doA s1.L ⟨3,0,256,0,0⟩) (doA s2.L ⟨3,0,256,0,0⟩):=d_ad hc H.1 ok (j:=0) (by decide) rfl
 have hO:=D.old
 have hR:=D.rng
 dsimp only[Q1o]
 rw[show(doA s2.L ⟨3,0,256,0,0⟩).1.old%4=(doA s1.L ⟨3,0,256,0,0⟩).1.old%4 by omega]
 refine rn_ite (fun h1=> ?_) (fun h1=> ?_)
 all_goals exact⟨by(repeat' first|with_reducible exact HL|with_reducible refine rl_goto ?_ _|with_reducible refine rl_fin ?_ _|with_reducible refine rl_note ?_ _ _|with_reducible refine rl_noted _ ?_|with_reducible refine rl_setA ?_ _ _|with_reducible refine rl_setB ?_ _ _|with_reducible refine rl_wake ?_ _|with_reducible refine rl_did ?_ D.kind D.cell D.L),by(first|exact H.2.1|(unfold pqRA;(try dsimp only[Rn.goto,Rn.fin,Rn.note,Rn.Q0d,Rn.Q0h,Rn.setB,Rn.wake,Rn.did,Rn.waited]);simp only[ho,hl];first|(rw[if_pos (by decide)]<;>omega)|(rw[if_neg (by decide),if_pos (by decide)]<;>trivial)|(rw[if_neg (by decide),if_neg (by decide)]<;>omega)|(rw[if_neg (by decide)]<;>trivial)|trivial)),by(first|exact H.2.2|(unfold pqRB;(try dsimp only[Rn.goto,Rn.fin,Rn.note,Rn.Q0d,Rn.Q0h,Rn.setB,Rn.wake,Rn.did,Rn.waited]);simp only[ho,hl];first|(rw[if_pos (by decide)]<;>omega)|(rw[if_neg (by decide)]<;>trivial)))⟩
theorem qpfR50_s(hc:AddC c)(k0:c 0%4=0)(k1:c 1=c 0)(k2:c 2=0)(k3:c 3%2=0){s1 s2:Rn}(H:RnSh (addT c) (pqRA c) (pqRB c) s1 s2)(ok:OkU s1)(ho:s1.f.op=5)(hl:s1.f.line=0):RnSh (addT c) (pqRA c) (pqRB c) (Q1l s1) (Q1l s2):=by
 have HL:=H.1
 have ok1:=ok
 obtain⟨ra,rb,_⟩:=ok1
 have D:DSh c 0 (doA s1.L ⟨1,0,0,0,0⟩) (doA s2.L ⟨1,0,0,0,0⟩):=d_ld hc H.1 ok (j:=0) (by decide)
 have hO:=D.old
 have hR:=D.rng
 dsimp only[Q1l]
 rw[show(doA s2.L ⟨1,0,0,0,0⟩).1.old%4=(doA s1.L ⟨1,0,0,0,0⟩).1.old%4 by omega]
 refine rn_ite (fun h1=> ?_) (fun h1=> ?_)
 all_goals exact⟨by(repeat' first|with_reducible exact HL|with_reducible refine rl_goto ?_ _|with_reducible refine rl_fin ?_ _|with_reducible refine rl_note ?_ _ _|with_reducible refine rl_noted _ ?_|with_reducible refine rl_setA ?_ _ _|with_reducible refine rl_setB ?_ _ _|with_reducible refine rl_wake ?_ _|with_reducible refine rl_did ?_ D.kind D.cell D.L),by(first|exact H.2.1|(unfold pqRA;(try dsimp only[Rn.goto,Rn.fin,Rn.note,Rn.Q0d,Rn.Q0h,Rn.setB,Rn.wake,Rn.did,Rn.waited]);simp only[ho,hl];first|(rw[if_pos (by decide)]<;>omega)|(rw[if_neg (by decide),if_pos (by decide)]<;>trivial)|(rw[if_neg (by decide),if_neg (by decide)]<;>omega)|(rw[if_neg (by decide)]<;>trivial)|trivial)),by(first|exact H.2.2|(unfold pqRB;(try dsimp only[Rn.goto,Rn.fin,Rn.note,Rn.Q0d,Rn.Q0h,Rn.setB,Rn.wake,Rn.did,Rn.waited]);simp only[ho,hl];first|(rw[if_pos (by decide)]<;>omega)|(rw[if_neg (by decide)]<;>trivial)))⟩
theorem qpfR11_s(hc:AddC c)(k0:c 0%4=0)(k1:c 1=c 0)(k2:c 2=0)(k3:c 3%2=0){s1 s2:Rn}(H:RnSh (addT c) (pqRA c) (pqRB c) s1 s2)(ok:OkU s1)(ho:s1.f.op=1)(hl:s1.f.line=1):RnSh (addT c) (pqRA c) (pqRB c) (Q1n s1) (Q1n s2):=by
 have HL:=H.1
 have ok1:=ok
 obtain⟨ra,rb,_⟩:=ok1
 have ea:=H.2.1
 unfold pqRA at ea
 simp only[ho,hl]at ea
 rw[if_pos (by decide)]at ea
 have W:WaitSh (addT c) (Q0t s1.L s1.n s1.mode s1.task s1.f.st 0 (fun v=>v%4 !=s1.f.a%4)) (Q0t s2.L s2.n s2.mode s2.task s2.f.st 0 (fun v=>v%4 !=s2.f.a%4)):=w_of hc H.1 ok (j:=0) (by decide) (fun v hv=>by rw[show(v+c 0)%4294967296%4=v%4 by omega,show s2.f.a%4=s1.f.a%4 by omega])
 have es:=W.seen
 have ed:=W.done
 dsimp only[Q1n]
 rw[ed]
 rw[es]
 generalize (Q0t s1.L s1.n s1.mode s1.task s1.f.st 0 (fun v=>v%4 !=s1.f.a%4)).done=db
 generalize (Q0t s1.L s1.n s1.mode s1.task s1.f.st 0 (fun v=>v%4 !=s1.f.a%4)).seen=sb
 cases sb<;>cases db<;>simp only[if_true,Bool.false_eq_true,if_false]
 all_goals exact⟨by(repeat' first|with_reducible exact HL|with_reducible refine rl_goto ?_ _|with_reducible refine rl_fin ?_ _|with_reducible refine rl_note ?_ _ _|with_reducible refine rl_noted _ ?_|with_reducible refine rl_setA ?_ _ _|with_reducible refine rl_setB ?_ _ _|with_reducible refine rl_wake ?_ _|with_reducible refine rl_waited ?_ W.stage W.kind W.cell W.words),by(first|exact H.2.1|(unfold pqRA;(try dsimp only[Rn.goto,Rn.fin,Rn.note,Rn.Q0d,Rn.Q0h,Rn.setB,Rn.wake,Rn.did,Rn.waited]);simp only[ho,hl];first|(rw[if_pos (by decide)]<;>omega)|(rw[if_neg (by decide),if_pos (by decide)]<;>trivial)|(rw[if_neg (by decide),if_neg (by decide)]<;>omega)|(rw[if_neg (by decide)]<;>trivial)|trivial)),by(first|exact H.2.2|(unfold pqRB;(try dsimp only[Rn.goto,Rn.fin,Rn.note,Rn.Q0d,Rn.Q0h,Rn.setB,Rn.wake,Rn.did,Rn.waited]);simp only[ho,hl];first|(rw[if_pos (by decide)]<;>omega)|(rw[if_neg (by decide)]<;>trivial)))⟩
theorem qpfR20_s(hc:AddC c)(k0:c 0%4=0)(k1:c 1=c 0)(k2:c 2=0)(k3:c 3%2=0){s1 s2:Rn}(H:RnSh (addT c) (pqRA c) (pqRB c) s1 s2)(ok:OkU s1)(ho:s1.f.op=2)(hl:s1.f.line=0):RnSh (addT c) (pqRA c) (pqRB c) (Q1m s1) (Q1m s2):=by
 have HL:=H.1
 have ok1:=ok
 obtain⟨ra,rb,_⟩:=ok1
 have D:DSh c 1 (doA s1.L ⟨3,1,256,0,0⟩) (doA s2.L ⟨3,1,256,0,0⟩):=d_ad hc H.1 ok (j:=1) (by decide) rfl
 have hO:=D.old
 have hR:=D.rng
 dsimp only[Q1m]
 exact⟨by(repeat' first|with_reducible exact HL|with_reducible refine rl_goto ?_ _|with_reducible refine rl_fin ?_ _|with_reducible refine rl_note ?_ _ _|with_reducible refine rl_noted _ ?_|with_reducible refine rl_setA ?_ _ _|with_reducible refine rl_setB ?_ _ _|with_reducible refine rl_wake ?_ _|with_reducible refine rl_did ?_ D.kind D.cell D.L),by(first|exact H.2.1|(unfold pqRA;(try dsimp only[Rn.goto,Rn.fin,Rn.note,Rn.Q0d,Rn.Q0h,Rn.setB,Rn.wake,Rn.did,Rn.waited]);simp only[ho,hl];first|(rw[if_pos (by decide)]<;>omega)|(rw[if_neg (by decide),if_pos (by decide)]<;>trivial)|(rw[if_neg (by decide),if_neg (by decide)]<;>omega)|(rw[if_neg (by decide)]<;>trivial)|trivial)),by(first|exact H.2.2|(unfold pqRB;(try dsimp only[Rn.goto,Rn.fin,Rn.note,Rn.Q0d,Rn.Q0h,Rn.setB,Rn.wake,Rn.did,Rn.waited]);simp only[ho,hl];first|(rw[if_pos (by decide)]<;>omega)|(rw[if_neg (by decide)]<;>trivial)))⟩
theorem qpfR51_s(hc:AddC c)(k0:c 0%4=0)(k1:c 1=c 0)(k2:c 2=0)(k3:c 3%2=0){s1 s2:Rn}(H:RnSh (addT c) (pqRA c) (pqRB c) s1 s2)(ok:OkU s1)(ho:s1.f.op=5)(hl:s1.f.line=1):RnSh (addT c) (pqRA c) (pqRB c) (Q1k s1) (Q1k s2):=by
 have HL:=H.1
 have ok1:=ok
 obtain⟨ra,rb,_⟩:=ok1
 have ea:=H.2.1
 unfold pqRA at ea
 simp only[ho,hl]at ea
 rw[if_pos (by decide)]at ea
 obtain⟨D,ec⟩:=d_cas hc H.1 ok (j:=0) (by decide) (x:=s1.f.a) (y:=((s1.f.a+256)%4294967296)) (x':=s2.f.a) (y':=((s2.f.a+256)%4294967296)) (by omega) (by omega) (by omega) (by omega)
 have D:DSh c 0 (doA s1.L ⟨5,0,s1.f.a,((s1.f.a+256)%4294967296),0⟩) (doA s2.L ⟨5,0,s2.f.a,((s2.f.a+256)%4294967296),0⟩):=D
 have ec:Q7N s2.L 0 s2.f.a ((s2.f.a+256)%4294967296)=Q7N s1.L 0 s1.f.a ((s1.f.a+256)%4294967296):=ec
 cases hb:Q7N s1.L 0 s1.f.a ((s1.f.a+256)%4294967296)<;>rw[hb]at ec<;>simp only[Q1k,hb,ec,if_true,Bool.false_eq_true,if_false]
 all_goals exact⟨by(repeat' first|with_reducible exact HL|with_reducible refine rl_goto ?_ _|with_reducible refine rl_fin ?_ _|with_reducible refine rl_note ?_ _ _|with_reducible refine rl_noted _ ?_|with_reducible refine rl_setA ?_ _ _|with_reducible refine rl_setB ?_ _ _|with_reducible refine rl_wake ?_ _|with_reducible refine rl_did ?_ D.kind D.cell D.L),by(first|exact H.2.1|(unfold pqRA;(try dsimp only[Rn.goto,Rn.fin,Rn.note,Rn.Q0d,Rn.Q0h,Rn.setB,Rn.wake,Rn.did,Rn.waited]);simp only[ho,hl];first|(rw[if_pos (by decide)]<;>omega)|(rw[if_neg (by decide),if_pos (by decide)]<;>trivial)|(rw[if_neg (by decide),if_neg (by decide)]<;>omega)|(rw[if_neg (by decide)]<;>trivial)|trivial)),by(first|exact H.2.2|(unfold pqRB;(try dsimp only[Rn.goto,Rn.fin,Rn.note,Rn.Q0d,Rn.Q0h,Rn.setB,Rn.wake,Rn.did,Rn.waited]);simp only[ho,hl];first|(rw[if_pos (by decide)]<;>omega)|(rw[if_neg (by decide)]<;>trivial)))⟩
theorem pqEnter0_s(hc:AddC c)(k0:c 0%4=0)(k1:c 1=c 0)(k2:c 2=0)(k3:c 3%2=0){s1 s2:Rn}(H:RnSh (addT c) (pqRA c) (pqRB c) s1 s2)(ok:OkU s1)(ho:s1.f.op=3)(hl:s1.f.line=0):RnSh (addT c) (pqRA c) (pqRB c) (Q0S s1) (Q0S s2):=by
 have HL:=H.1
 have ok1:=ok
 obtain⟨ra,rb,_⟩:=ok1
 have D:DFar c (doA s1.L ⟨2,cellP s1.n 0 s1.task,0,0,0⟩) (doA s2.L ⟨2,cellP s1.n 0 s1.task,0,0,0⟩):=d_far hc H.1 (by omega)
 have hO:=congrArg Acc.old D.acc
 simp only[Q0S,Q0n,Q1S,HL.line,hl,HL.n,HL.task,if_true,if_false,Bool.false_eq_true,Q0H]
 exact⟨by(repeat' first|with_reducible exact HL|with_reducible refine rl_goto ?_ _|with_reducible refine rl_fin ?_ _|with_reducible refine rl_note ?_ _ _|with_reducible refine rl_noted _ ?_|with_reducible refine rl_setA ?_ _ _|with_reducible refine rl_setB ?_ _ _|with_reducible refine rl_wake ?_ _|with_reducible refine rl_did ?_ (congrArg Acc.kind D.acc) (congrArg Acc.cell D.acc) D.L),by(first|exact H.2.1|(unfold pqRA;(try dsimp only[Rn.goto,Rn.fin,Rn.note,Rn.Q0d,Rn.Q0h,Rn.setB,Rn.wake,Rn.did,Rn.waited]);simp only[ho,hl];first|(rw[if_pos (by decide)]<;>omega)|(rw[if_neg (by decide),if_pos (by decide)]<;>trivial)|(rw[if_neg (by decide),if_neg (by decide)]<;>omega)|(rw[if_neg (by decide)]<;>trivial)|trivial)),by(first|exact H.2.2|(unfold pqRB;(try dsimp only[Rn.goto,Rn.fin,Rn.note,Rn.Q0d,Rn.Q0h,Rn.setB,Rn.wake,Rn.did,Rn.waited]);simp only[ho,hl];first|(rw[if_pos (by decide)]<;>omega)|(rw[if_neg (by decide)]<;>trivial)))⟩
theorem pqEnter1_s(hc:AddC c)(k0:c 0%4=0)(k1:c 1=c 0)(k2:c 2=0)(k3:c 3%2=0){s1 s2:Rn}(H:RnSh (addT c) (pqRA c) (pqRB c) s1 s2)(ok:OkU s1)(ho:s1.f.op=3)(hl:s1.f.line=1):RnSh (addT c) (pqRA c) (pqRB c) (Q0S s1) (Q0S s2):=by
 have HL:=H.1
 have ok1:=ok
 obtain⟨ra,rb,_⟩:=ok1
 have D:DFar c (doA s1.L ⟨2,cellP s1.n 1 s1.task,1,0,0⟩) (doA s2.L ⟨2,cellP s1.n 1 s1.task,1,0,0⟩):=d_far hc H.1 (by omega)
 have hO:=congrArg Acc.old D.acc
 simp only[Q0S,Q0n,Q2b,HL.line,hl,HL.n,HL.task,if_true,if_false,Bool.false_eq_true,Q0H,show¬((1:Int)=0)by decide]
 exact⟨by(repeat' first|with_reducible exact HL|with_reducible refine rl_goto ?_ _|with_reducible refine rl_fin ?_ _|with_reducible refine rl_note ?_ _ _|with_reducible refine rl_noted _ ?_|with_reducible refine rl_setA ?_ _ _|with_reducible refine rl_setB ?_ _ _|with_reducible refine rl_wake ?_ _|with_reducible refine rl_did ?_ (congrArg Acc.kind D.acc) (congrArg Acc.cell D.acc) D.L),by(first|exact H.2.1|(unfold pqRA;(try dsimp only[Rn.goto,Rn.fin,Rn.note,Rn.Q0d,Rn.Q0h,Rn.setB,Rn.wake,Rn.did,Rn.waited]);simp only[ho,hl];first|(rw[if_pos (by decide)]<;>omega)|(rw[if_neg (by decide),if_pos (by decide)]<;>trivial)|(rw[if_neg (by decide),if_neg (by decide)]<;>omega)|(rw[if_neg (by decide)]<;>trivial)|trivial)),by(first|exact H.2.2|(unfold pqRB;(try dsimp only[Rn.goto,Rn.fin,Rn.note,Rn.Q0d,Rn.Q0h,Rn.setB,Rn.wake,Rn.did,Rn.waited]);simp only[ho,hl];first|(rw[if_pos (by decide)]<;>omega)|(rw[if_neg (by decide)]<;>trivial)))⟩
theorem pqEnter2_s(hc:AddC c)(k0:c 0%4=0)(k1:c 1=c 0)(k2:c 2=0)(k3:c 3%2=0){s1 s2:Rn}(H:RnSh (addT c) (pqRA c) (pqRB c) s1 s2)(ok:OkU s1)(ho:s1.f.op=3)(hl:s1.f.line=2):RnSh (addT c) (pqRA c) (pqRB c) (Q0S s1) (Q0S s2):=by
 have HL:=H.1
 have ok1:=ok
 obtain⟨ra,rb,_⟩:=ok1
 have D:DFar c (doA s1.L ⟨4,2,(s1.task+1)%4294967296,0,0⟩) (doA s2.L ⟨4,2,(s1.task+1)%4294967296,0,0⟩):=d_id H.1 (fun i hi=>(show i=2 by omega)▸k2)
 have hO:=congrArg Acc.old D.acc
 by_cases h0:(doA s1.L ⟨4,2,(s1.task+1)%4294967296,0,0⟩).1.old=0<;>simp only[Q0S,Q0n,Q1U,D.acc,h0,HL.line,hl,HL.n,HL.task,if_true,if_false,Bool.false_eq_true,Q0H,show¬((2:Int)=0)by decide,show¬((2:Int)=1)by decide]
 all_goals exact⟨by(repeat' first|with_reducible exact HL|with_reducible refine rl_goto ?_ _|with_reducible refine rl_fin ?_ _|with_reducible refine rl_note ?_ _ _|with_reducible refine rl_noted _ ?_|with_reducible refine rl_setA ?_ _ _|with_reducible refine rl_setB ?_ _ _|with_reducible refine rl_wake ?_ _|with_reducible refine rl_did ?_ (congrArg Acc.kind D.acc) (congrArg Acc.cell D.acc) D.L),by(first|exact H.2.1|(unfold pqRA;(try dsimp only[Rn.goto,Rn.fin,Rn.note,Rn.Q0d,Rn.Q0h,Rn.setB,Rn.wake,Rn.did,Rn.waited]);simp only[ho,hl];first|(rw[if_pos (by decide)]<;>omega)|(rw[if_neg (by decide),if_pos (by decide)]<;>trivial)|(rw[if_neg (by decide),if_neg (by decide)]<;>omega)|(rw[if_neg (by decide)]<;>trivial)|trivial)),by(first|exact H.2.2|(unfold pqRB;(try dsimp only[Rn.goto,Rn.fin,Rn.note,Rn.Q0d,Rn.Q0h,Rn.setB,Rn.wake,Rn.did,Rn.waited]);simp only[ho,hl];first|(rw[if_pos (by decide)]<;>omega)|(rw[if_neg (by decide)]<;>trivial)))⟩
theorem pqEnter3_s(hc:AddC c)(k0:c 0%4=0)(k1:c 1=c 0)(k2:c 2=0)(k3:c 3%2=0){s1 s2:Rn}(H:RnSh (addT c) (pqRA c) (pqRB c) s1 s2)(ok:OkU s1)(ho:s1.f.op=3)(hl:s1.f.line=3):RnSh (addT c) (pqRA c) (pqRB c) (Q0S s1) (Q0S s2):=by
 have HL:=H.1
 have ok1:=ok
 obtain⟨ra,rb,_⟩:=ok1
 have ea:=H.2.1
 unfold pqRA at ea
 simp only[ho,hl]at ea
 rw[if_neg (by decide),if_neg (by decide)]at ea
 have D:DFar c (doA s1.L ⟨2,cellP s1.n 0 (s1.f.a-1),(s1.task+1)%4294967296,0,0⟩) (doA s2.L ⟨2,cellP s1.n 0 (s1.f.a-1),(s1.task+1)%4294967296,0,0⟩):=d_far hc H.1 (by omega)
 have hO:=congrArg Acc.old D.acc
 simp only[Q0S,Q0n,Q2a,ea,HL.line,hl,HL.n,HL.task,if_true,if_false,Bool.false_eq_true,Q0H,show¬((3:Int)=0)by decide,show¬((3:Int)=1)by decide,show¬((3:Int)=2)by decide]
 exact⟨by(repeat' first|with_reducible exact HL|with_reducible refine rl_goto ?_ _|with_reducible refine rl_fin ?_ _|with_reducible refine rl_note ?_ _ _|with_reducible refine rl_noted _ ?_|with_reducible refine rl_setA ?_ _ _|with_reducible refine rl_setB ?_ _ _|with_reducible refine rl_wake ?_ _|with_reducible refine rl_did ?_ (congrArg Acc.kind D.acc) (congrArg Acc.cell D.acc) D.L),by(first|exact H.2.1|(unfold pqRA;(try dsimp only[Rn.goto,Rn.fin,Rn.note,Rn.Q0d,Rn.Q0h,Rn.setB,Rn.wake,Rn.did,Rn.waited]);simp only[ho,hl];first|(rw[if_pos (by decide)]<;>omega)|(rw[if_neg (by decide),if_pos (by decide)]<;>trivial)|(rw[if_neg (by decide),if_neg (by decide)]<;>omega)|(rw[if_neg (by decide)]<;>trivial)|trivial)),by(first|exact H.2.2|(unfold pqRB;(try dsimp only[Rn.goto,Rn.fin,Rn.note,Rn.Q0d,Rn.Q0h,Rn.setB,Rn.wake,Rn.did,Rn.waited]);simp only[ho,hl];first|(rw[if_pos (by decide)]<;>omega)|(rw[if_neg (by decide)]<;>trivial)))⟩
theorem pqEnter4_s(hc:AddC c)(k0:c 0%4=0)(k1:c 1=c 0)(k2:c 2=0)(k3:c 3%2=0){s1 s2:Rn}(H:RnSh (addT c) (pqRA c) (pqRB c) s1 s2)(ok:OkU s1)(ho:s1.f.op=3)(hl:s1.f.line=4):RnSh (addT c) (pqRA c) (pqRB c) (Q0S s1) (Q0S s2):=by
 have HL:=H.1
 have ok1:=ok
 obtain⟨ra,rb,_⟩:=ok1
 have W:WFar c (Q0t s1.L s1.n s1.mode s1.task s1.f.st (cellP s1.n 1 s1.task) (fun v=>v==0)) (Q0t s2.L s1.n s1.mode s1.task s1.f.st (cellP s1.n 1 s1.task) (fun v=>v==0)):=w_far hc H.1 (by omega)
 have ed:=W.done
 simp only[Q0S,Q0n,Q1Y,HL.mode,HL.st,HL.line,hl,HL.n,HL.task,if_true,if_false,Bool.false_eq_true,Q0H,show¬((4:Int)=0)by decide,show¬((4:Int)=1)by decide,show¬((4:Int)=2)by decide,show¬((4:Int)=3)by decide]
 rw[ed]
 refine rn_ite (fun h1=> ?_) (fun h1=> ?_)
 all_goals exact⟨by(repeat' first|with_reducible exact HL|with_reducible refine rl_goto ?_ _|with_reducible refine rl_fin ?_ _|with_reducible refine rl_note ?_ _ _|with_reducible refine rl_noted _ ?_|with_reducible refine rl_setA ?_ _ _|with_reducible refine rl_setB ?_ _ _|with_reducible refine rl_wake ?_ _|with_reducible refine rl_waited ?_ W.stage (congrArg Acc.kind W.acc) (congrArg Acc.cell W.acc) W.words),by(first|exact H.2.1|(unfold pqRA;(try dsimp only[Rn.goto,Rn.fin,Rn.note,Rn.Q0d,Rn.Q0h,Rn.setB,Rn.wake,Rn.did,Rn.waited]);simp only[ho,hl];first|(rw[if_pos (by decide)]<;>omega)|(rw[if_neg (by decide),if_pos (by decide)]<;>trivial)|(rw[if_neg (by decide),if_neg (by decide)]<;>omega)|(rw[if_neg (by decide)]<;>trivial)|trivial)),by(first|exact H.2.2|(unfold pqRB;(try dsimp only[Rn.goto,Rn.fin,Rn.note,Rn.Q0d,Rn.Q0h,Rn.setB,Rn.wake,Rn.did,Rn.waited]);simp only[ho,hl];first|(rw[if_pos (by decide)]<;>omega)|(rw[if_neg (by decide)]<;>trivial)))⟩
theorem pqEnter_s(hc:AddC c)(k0:c 0%4=0)(k1:c 1=c 0)(k2:c 2=0)(k3:c 3%2=0){s1 s2:Rn}(H:RnSh (addT c) (pqRA c) (pqRB c) s1 s2)(ok:OkU s1)(ho:s1.f.op=3):RnSh (addT c) (pqRA c) (pqRB c) (Q0S s1) (Q0S s2):=by
 by_cases h0:s1.f.line=0
 ·exact pqEnter0_s hc k0 k1 k2 k3 H ok ho h0
 by_cases h1:s1.f.line=1
 ·exact pqEnter1_s hc k0 k1 k2 k3 H ok ho h1
 by_cases h2:s1.f.line=2
 ·exact pqEnter2_s hc k0 k1 k2 k3 H ok ho h2
 by_cases h3:s1.f.line=3
 ·exact pqEnter3_s hc k0 k1 k2 k3 H ok ho h3
 by_cases h4:s1.f.line=4
 ·exact pqEnter4_s hc k0 k1 k2 k3 H ok ho h4
 simp only[Q0S,Q0n,H.1.line,h0,h1,h2,h3,h4,if_false,Bool.false_eq_true]
 exact H
theorem pqLock_s(hc:AddC c)(k0:c 0%4=0)(k1:c 1=c 0)(k2:c 2=0)(k3:c 3%2=0){s1 s2:Rn}(H:RnSh (addT c) (pqRA c) (pqRB c) s1 s2)(ok:OkU s1)(ho:s1.f.op=3):RnSh (addT c) (pqRA c) (pqRB c) (Q1h s1) (Q1h s2):=by
 unfold Q1h
 rw[H.1.line]
 refine rn_ite (fun hl=> ?_) (fun n5=>rn_ite (fun hl=> ?_) (fun n6=>rn_ite (fun hl=> ?_) (fun n7=>pqEnter_s hc k0 k1 k2 k3 H ok ho)))
 ·have HL:=H.1
  have ok1:=ok
  obtain⟨ra,rb,_⟩:=ok1
  have D:DSh c 3 (doA s1.L ⟨1,3,0,0,0⟩) (doA s2.L ⟨1,3,0,0,0⟩):=d_ld hc H.1 ok (j:=3) (by decide)
  have hO:=D.old
  have hR:=D.rng
  exact⟨by(repeat' first|with_reducible exact HL|with_reducible refine rl_goto ?_ _|with_reducible refine rl_fin ?_ _|with_reducible refine rl_note ?_ _ _|with_reducible refine rl_noted _ ?_|with_reducible refine rl_setA ?_ _ _|with_reducible refine rl_setB ?_ _ _|with_reducible refine rl_wake ?_ _|with_reducible refine rl_did ?_ D.kind D.cell D.L),by(first|exact H.2.1|(unfold pqRA;(try dsimp only[Rn.goto,Rn.fin,Rn.note,Rn.Q0d,Rn.Q0h,Rn.setB,Rn.wake,Rn.did,Rn.waited]);simp only[ho,hl];first|(rw[if_pos (by decide)]<;>omega)|(rw[if_neg (by decide),if_pos (by decide)]<;>trivial)|(rw[if_neg (by decide),if_neg (by decide)]<;>omega)|(rw[if_neg (by decide)]<;>trivial)|trivial)),by(first|exact H.2.2|(unfold pqRB;(try dsimp only[Rn.goto,Rn.fin,Rn.note,Rn.Q0d,Rn.Q0h,Rn.setB,Rn.wake,Rn.did,Rn.waited]);simp only[ho,hl];first|(rw[if_pos (by decide)]<;>omega)|(rw[if_neg (by decide)]<;>trivial)))⟩
 ·have HL:=H.1
  have ok1:=ok
  obtain⟨ra,rb,_⟩:=ok1
  have eb:=H.2.2
  unfold pqRB at eb
  simp only[ho,hl]at eb
  rw[if_pos (by decide)]at eb
  have ep:Q6u s2.f.b=Q6u s1.f.b:=by unfold Q6u;omega
  have D:DSh c 0 (doA s1.L ⟨3,0,(Q6u s1.f.b),0,0⟩) (doA s2.L ⟨3,0,(Q6u s2.f.b),0,0⟩):=d_ad hc H.1 ok (j:=0) (by decide) ep
  have hO:=D.old
  have hR:=D.rng
  exact⟨by(repeat' first|with_reducible exact HL|with_reducible refine rl_goto ?_ _|with_reducible refine rl_fin ?_ _|with_reducible refine rl_note ?_ _ _|with_reducible refine rl_noted _ ?_|with_reducible refine rl_setA ?_ _ _|with_reducible refine rl_setB ?_ _ _|with_reducible refine rl_wake ?_ _|with_reducible refine rl_did ?_ D.kind D.cell D.L),by(first|exact H.2.1|(unfold pqRA;(try dsimp only[Rn.goto,Rn.fin,Rn.note,Rn.Q0d,Rn.Q0h,Rn.setB,Rn.wake,Rn.did,Rn.waited]);simp only[ho,hl];first|(rw[if_pos (by decide)]<;>omega)|(rw[if_neg (by decide),if_pos (by decide)]<;>trivial)|(rw[if_neg (by decide),if_neg (by decide)]<;>omega)|(rw[if_neg (by decide)]<;>trivial)|trivial)),by(first|exact H.2.2|(unfold pqRB;(try dsimp only[Rn.goto,Rn.fin,Rn.note,Rn.Q0d,Rn.Q0h,Rn.setB,Rn.wake,Rn.did,Rn.waited]);simp only[ho,hl];first|(rw[if_pos (by decide)]<;>omega)|(rw[if_neg (by decide)]<;>trivial)))⟩
 ·have HL:=H.1
  have ok1:=ok
  obtain⟨ra,rb,_⟩:=ok1
  have ea:=H.2.1
  unfold pqRA at ea
  simp only[ho,hl]at ea
  rw[if_pos (by decide)]at ea
  have W:WaitSh (addT c) (Q0t s1.L s1.n s1.mode s1.task s1.f.st 1 (fun v=>v==s1.f.a)) (Q0t s2.L s2.n s2.mode s2.task s2.f.st 1 (fun v=>v==s2.f.a)):=w_of hc H.1 ok (j:=1) (by decide) (fun v hv=>by have:=hc.rng 0;rw[ea,k1,Bool.eq_iff_iff,beq_iff_eq,beq_iff_eq];omega)
  have es:=W.seen
  have ed:=W.done
  dsimp only
  rw[ed]
  rw[es]
  generalize (Q0t s1.L s1.n s1.mode s1.task s1.f.st 1 (fun v=>v==s1.f.a)).done=db
  generalize (Q0t s1.L s1.n s1.mode s1.task s1.f.st 1 (fun v=>v==s1.f.a)).seen=sb
  cases sb<;>cases db<;>simp only[if_true,Bool.false_eq_true,if_false]
  all_goals exact⟨by(repeat' first|with_reducible exact HL|with_reducible refine rl_goto ?_ _|with_reducible refine rl_fin ?_ _|with_reducible refine rl_note ?_ _ _|with_reducible refine rl_noted _ ?_|with_reducible refine rl_setA ?_ _ _|with_reducible refine rl_setB ?_ _ _|with_reducible refine rl_wake ?_ _|with_reducible refine rl_waited ?_ W.stage W.kind W.cell W.words),by(first|exact H.2.1|(unfold pqRA;(try dsimp only[Rn.goto,Rn.fin,Rn.note,Rn.Q0d,Rn.Q0h,Rn.setB,Rn.wake,Rn.did,Rn.waited]);simp only[ho,hl];first|(rw[if_pos (by decide)]<;>omega)|(rw[if_neg (by decide),if_pos (by decide)]<;>trivial)|(rw[if_neg (by decide),if_neg (by decide)]<;>omega)|(rw[if_neg (by decide)]<;>trivial)|trivial)),by(first|exact H.2.2|(unfold pqRB;(try dsimp only[Rn.goto,Rn.fin,Rn.note,Rn.Q0d,Rn.Q0h,Rn.setB,Rn.wake,Rn.did,Rn.waited]);simp only[ho,hl];first|(rw[if_pos (by decide)]<;>omega)|(rw[if_neg (by decide)]<;>trivial)))⟩
theorem pqGive_4_s(hc:AddC c)(k0:c 0%4=0)(k1:c 1=c 0)(k2:c 2=0)(k3:c 3%2=0){s1 s2:Rn}(H:RnSh (addT c) (pqRA c) (pqRB c) s1 s2)(ok:OkU s1)(ho:s1.f.op=4):RnSh (addT c) (pqRA c) (pqRB c) (Q1d 3 true s1) (Q1d 3 true s2):=by
 have HL:=H.1
 have ok1:=ok
 obtain⟨ra,rb,_⟩:=ok1
 by_cases hw:wrap64 (s1.f.line-3)=0
 ·have D:DFar c (doA s1.L ⟨1,cellP s1.n 0 s1.task,0,0,0⟩) (doA s2.L ⟨1,cellP s1.n 0 s1.task,0,0,0⟩):=d_far hc H.1 (by omega)
  have hO:=congrArg Acc.old D.acc
  by_cases h0:(doA s1.L ⟨1,cellP s1.n 0 s1.task,0,0,0⟩).1.old=0<;>simp only[Q1X,D.acc,h0,hw,Q1d,Q0v,HL.line,HL.n,HL.task,if_true,if_false,Bool.false_eq_true,Q0H]
  all_goals exact⟨by(repeat' first|with_reducible exact HL|with_reducible refine rl_goto ?_ _|with_reducible refine rl_fin ?_ _|with_reducible refine rl_note ?_ _ _|with_reducible refine rl_noted _ ?_|with_reducible refine rl_setA ?_ _ _|with_reducible refine rl_setB ?_ _ _|with_reducible refine rl_wake ?_ _|with_reducible refine rl_did ?_ (congrArg Acc.kind D.acc) (congrArg Acc.cell D.acc) D.L),by(first|exact H.2.1|(unfold pqRA;(try dsimp only[Rn.goto,Rn.fin,Rn.note,Rn.Q0d,Rn.Q0h,Rn.setB,Rn.wake,Rn.did,Rn.waited]);simp only[ho];first|(rw[if_pos (by decide)]<;>omega)|(rw[if_neg (by decide),if_pos (by decide)]<;>trivial)|(rw[if_neg (by decide),if_neg (by decide)]<;>omega)|(rw[if_neg (by decide)]<;>trivial)|trivial)),by(first|exact H.2.2|(unfold pqRB;(try dsimp only[Rn.goto,Rn.fin,Rn.note,Rn.Q0d,Rn.Q0h,Rn.setB,Rn.wake,Rn.did,Rn.waited]);simp only[ho];first|(rw[if_pos (by decide)]<;>omega)|(rw[if_neg (by decide)]<;>trivial)))⟩
 have n0:=hw
 clear hw
 by_cases hw:wrap64 (s1.f.line-3)=1
 ·have ea:s2.f.a=s1.f.a:=by
   have ea:=H.2.1
   unfold pqRA at ea
   unfold wrap64 at hw
   simp only[ho]at ea
   rw[if_neg (by omega),if_neg (by omega)]at ea
   exact ea
  have D:DFar c (doA s1.L ⟨5,2,(s1.task+1)%4294967296,0,0⟩) (doA s2.L ⟨5,2,(s1.task+1)%4294967296,0,0⟩):=d_id H.1 (fun i hi=>(show i=2 by omega)▸k2)
  have hO:=congrArg Acc.old D.acc
  have ec:=cas_id D
  cases hb:Q7N s1.L 2 ((s1.task+1)%4294967296) 0<;>rw[hb]at ec<;>simp only[Q1T,hb,ec,hw,Q1d,Q0v,HL.line,HL.n,HL.task,if_true,if_false,Bool.false_eq_true,Q0H,show¬((1:Int)=0)by decide]
  all_goals exact⟨by(repeat' first|with_reducible exact HL|with_reducible refine rl_goto ?_ _|with_reducible refine rl_fin ?_ _|with_reducible refine rl_note ?_ _ _|with_reducible refine rl_noted _ ?_|with_reducible refine rl_setA ?_ _ _|with_reducible refine rl_setB ?_ _ _|with_reducible refine rl_wake ?_ _|with_reducible refine rl_did ?_ (congrArg Acc.kind D.acc) (congrArg Acc.cell D.acc) D.L),by(first|exact H.2.1|(unfold pqRA;(try dsimp only[Rn.goto,Rn.fin,Rn.note,Rn.Q0d,Rn.Q0h,Rn.setB,Rn.wake,Rn.did,Rn.waited]);simp only[ho];first|(rw[if_pos (by decide)]<;>omega)|(rw[if_neg (by decide),if_pos (by decide)]<;>trivial)|(rw[if_neg (by decide),if_neg (by decide)]<;>omega)|(rw[if_neg (by decide)]<;>trivial)|trivial)),by(first|exact H.2.2|(unfold pqRB;(try dsimp only[Rn.goto,Rn.fin,Rn.note,Rn.Q0d,Rn.Q0h,Rn.setB,Rn.wake,Rn.did,Rn.waited]);simp only[ho];first|(rw[if_pos (by decide)]<;>omega)|(rw[if_neg (by decide)]<;>trivial)))⟩
 have n1:=hw
 clear hw
 by_cases hw:wrap64 (s1.f.line-3)=2
 ·have ea:s2.f.a=s1.f.a:=by
   have ea:=H.2.1
   unfold pqRA at ea
   unfold wrap64 at hw
   simp only[ho]at ea
   rw[if_neg (by omega),if_neg (by omega)]at ea
   exact ea
  have W:WFar c (Q0t s1.L s1.n s1.mode s1.task s1.f.st (cellP s1.n 0 s1.task) (fun v=>v !=0)) (Q0t s2.L s1.n s1.mode s1.task s1.f.st (cellP s1.n 0 s1.task) (fun v=>v !=0)):=w_far hc H.1 (by omega)
  have ed:=W.done
  have es:=W.seen
  have hO:=congrArg Acc.old W.acc
  simp only[Q1W,Rn.keep,HL.mode,HL.st,hw,Q1d,Q0v,HL.line,HL.n,HL.task,if_true,if_false,Bool.false_eq_true,Q0H,show¬((2:Int)=0)by decide,show¬((2:Int)=1)by decide]
  rw[ed,es]
  generalize (Q0t s1.L s1.n s1.mode s1.task s1.f.st (cellP s1.n 0 s1.task) (fun v=>v !=0)).done=db
  generalize (Q0t s1.L s1.n s1.mode s1.task s1.f.st (cellP s1.n 0 s1.task) (fun v=>v !=0)).seen=sb
  cases sb<;>cases db<;>simp only[if_true,Bool.false_eq_true,if_false]
  all_goals exact⟨by(repeat' first|with_reducible exact HL|with_reducible refine rl_goto ?_ _|with_reducible refine rl_fin ?_ _|with_reducible refine rl_note ?_ _ _|with_reducible refine rl_noted _ ?_|with_reducible refine rl_setA ?_ _ _|with_reducible refine rl_setB ?_ _ _|with_reducible refine rl_wake ?_ _|with_reducible refine rl_waited ?_ W.stage (congrArg Acc.kind W.acc) (congrArg Acc.cell W.acc) W.words),by(first|exact H.2.1|(show pqRA c s1.f.op s1.f.line _ _;unfold pqRA;unfold wrap64 at hw;simp only[ho];rw[if_neg (by omega),if_neg (by omega)];exact hO)|(unfold pqRA;(try dsimp only[Rn.goto,Rn.fin,Rn.note,Rn.Q0d,Rn.Q0h,Rn.setB,Rn.wake,Rn.did,Rn.waited]);simp only[ho];first|(rw[if_pos (by decide)]<;>omega)|(rw[if_neg (by decide),if_pos (by decide)]<;>trivial)|(rw[if_neg (by decide),if_neg (by decide)]<;>omega)|(rw[if_neg (by decide)]<;>trivial)|trivial)),by(first|exact H.2.2|(unfold pqRB;(try dsimp only[Rn.goto,Rn.fin,Rn.note,Rn.Q0d,Rn.Q0h,Rn.setB,Rn.wake,Rn.did,Rn.waited]);simp only[ho];first|(rw[if_pos (by decide)]<;>omega)|(rw[if_neg (by decide)]<;>trivial)))⟩
 have n2:=hw
 clear hw
 by_cases hw:wrap64 (s1.f.line-3)=3
 ·have ea:s2.f.a=s1.f.a:=by
   have ea:=H.2.1
   unfold pqRA at ea
   unfold wrap64 at hw
   simp only[ho]at ea
   rw[if_neg (by omega),if_neg (by omega)]at ea
   exact ea
  have D:DFar c (doA s1.L ⟨2,cellP s1.n 1 (s1.f.a-1),0,0,0⟩) (doA s2.L ⟨2,cellP s1.n 1 (s1.f.a-1),0,0,0⟩):=d_far hc H.1 (by omega)
  have hO:=congrArg Acc.old D.acc
  simp only[Q1Z,ea,hw,Q1d,Q0v,HL.line,HL.n,HL.task,if_true,if_false,Bool.false_eq_true,Q0H,show¬((3:Int)=0)by decide,show¬((3:Int)=1)by decide,show¬((3:Int)=2)by decide]
  exact⟨by(repeat' first|with_reducible exact HL|with_reducible refine rl_goto ?_ _|with_reducible refine rl_fin ?_ _|with_reducible refine rl_note ?_ _ _|with_reducible refine rl_noted _ ?_|with_reducible refine rl_setA ?_ _ _|with_reducible refine rl_setB ?_ _ _|with_reducible refine rl_wake ?_ _|with_reducible refine rl_did ?_ (congrArg Acc.kind D.acc) (congrArg Acc.cell D.acc) D.L),by(first|exact H.2.1|(unfold pqRA;(try dsimp only[Rn.goto,Rn.fin,Rn.note,Rn.Q0d,Rn.Q0h,Rn.setB,Rn.wake,Rn.did,Rn.waited]);simp only[ho];first|(rw[if_pos (by decide)]<;>omega)|(rw[if_neg (by decide),if_pos (by decide)]<;>trivial)|(rw[if_neg (by decide),if_neg (by decide)]<;>omega)|(rw[if_neg (by decide)]<;>trivial)|trivial)),by(first|exact H.2.2|(unfold pqRB;(try dsimp only[Rn.goto,Rn.fin,Rn.note,Rn.Q0d,Rn.Q0h,Rn.setB,Rn.wake,Rn.did,Rn.waited]);simp only[ho];first|(rw[if_pos (by decide)]<;>omega)|(rw[if_neg (by decide)]<;>trivial)))⟩
 have n3:=hw
 clear hw
 simp only[Q1d,Q0v,HL.line,HL.n,HL.task,if_true,if_false,Bool.false_eq_true,Q0H,n0,n1,n2,n3]
 exact H
theorem pqGive_8_s(hc:AddC c)(k0:c 0%4=0)(k1:c 1=c 0)(k2:c 2=0)(k3:c 3%2=0){s1 s2:Rn}(H:RnSh (addT c) (pqRA c) (pqRB c) s1 s2)(ok:OkU s1)(ho:s1.f.op=8):RnSh (addT c) (pqRA c) (pqRB c) (Q1d 3 true s1) (Q1d 3 true s2):=by
 have HL:=H.1
 have ok1:=ok
 obtain⟨ra,rb,_⟩:=ok1
 by_cases hw:wrap64 (s1.f.line-3)=0
 ·have D:DFar c (doA s1.L ⟨1,cellP s1.n 0 s1.task,0,0,0⟩) (doA s2.L ⟨1,cellP s1.n 0 s1.task,0,0,0⟩):=d_far hc H.1 (by omega)
  have hO:=congrArg Acc.old D.acc
  by_cases h0:(doA s1.L ⟨1,cellP s1.n 0 s1.task,0,0,0⟩).1.old=0<;>simp only[Q1X,D.acc,h0,hw,Q1d,Q0v,HL.line,HL.n,HL.task,if_true,if_false,Bool.false_eq_true,Q0H]
  all_goals exact⟨by(repeat' first|with_reducible exact HL|with_reducible refine rl_goto ?_ _|with_reducible refine rl_fin ?_ _|with_reducible refine rl_note ?_ _ _|with_reducible refine rl_noted _ ?_|with_reducible refine rl_setA ?_ _ _|with_reducible refine rl_setB ?_ _ _|with_reducible refine rl_wake ?_ _|with_reducible refine rl_did ?_ (congrArg Acc.kind D.acc) (congrArg Acc.cell D.acc) D.L),by(first|exact H.2.1|(unfold pqRA;(try dsimp only[Rn.goto,Rn.fin,Rn.note,Rn.Q0d,Rn.Q0h,Rn.setB,Rn.wake,Rn.did,Rn.waited]);simp only[ho];first|(rw[if_pos (by decide)]<;>omega)|(rw[if_neg (by decide),if_pos (by decide)]<;>trivial)|(rw[if_neg (by decide),if_neg (by decide)]<;>omega)|(rw[if_neg (by decide)]<;>trivial)|trivial)),by(first|exact H.2.2|(unfold pqRB;(try dsimp only[Rn.goto,Rn.fin,Rn.note,Rn.Q0d,Rn.Q0h,Rn.setB,Rn.wake,Rn.did,Rn.waited]);simp only[ho];first|(rw[if_pos (by decide)]<;>omega)|(rw[if_neg (by decide)]<;>trivial)))⟩
 have n0:=hw
 clear hw
 by_cases hw:wrap64 (s1.f.line-3)=1
 ·have ea:s2.f.a=s1.f.a:=by
   have ea:=H.2.1
   unfold pqRA at ea
   unfold wrap64 at hw
   simp only[ho]at ea
   rw[if_neg (by omega),if_neg (by omega)]at ea
   exact ea
  have D:DFar c (doA s1.L ⟨5,2,(s1.task+1)%4294967296,0,0⟩) (doA s2.L ⟨5,2,(s1.task+1)%4294967296,0,0⟩):=d_id H.1 (fun i hi=>(show i=2 by omega)▸k2)
  have hO:=congrArg Acc.old D.acc
  have ec:=cas_id D
  cases hb:Q7N s1.L 2 ((s1.task+1)%4294967296) 0<;>rw[hb]at ec<;>simp only[Q1T,hb,ec,hw,Q1d,Q0v,HL.line,HL.n,HL.task,if_true,if_false,Bool.false_eq_true,Q0H,show¬((1:Int)=0)by decide]
  all_goals exact⟨by(repeat' first|with_reducible exact HL|with_reducible refine rl_goto ?_ _|with_reducible refine rl_fin ?_ _|with_reducible refine rl_note ?_ _ _|with_reducible refine rl_noted _ ?_|with_reducible refine rl_setA ?_ _ _|with_reducible refine rl_setB ?_ _ _|with_reducible refine rl_wake ?_ _|with_reducible refine rl_did ?_ (congrArg Acc.kind D.acc) (congrArg Acc.cell D.acc) D.L),by(first|exact H.2.1|(unfold pqRA;(try dsimp only[Rn.goto,Rn.fin,Rn.note,Rn.Q0d,Rn.Q0h,Rn.setB,Rn.wake,Rn.did,Rn.waited]);simp only[ho];first|(rw[if_pos (by decide)]<;>omega)|(rw[if_neg (by decide),if_pos (by decide)]<;>trivial)|(rw[if_neg (by decide),if_neg (by decide)]<;>omega)|(rw[if_neg (by decide)]<;>trivial)|trivial)),by(first|exact H.2.2|(unfold pqRB;(try dsimp only[Rn.goto,Rn.fin,Rn.note,Rn.Q0d,Rn.Q0h,Rn.setB,Rn.wake,Rn.did,Rn.waited]);simp only[ho];first|(rw[if_pos (by decide)]<;>omega)|(rw[if_neg (by decide)]<;>trivial)))⟩
 have n1:=hw
 clear hw
 by_cases hw:wrap64 (s1.f.line-3)=2
 ·have ea:s2.f.a=s1.f.a:=by
   have ea:=H.2.1
   unfold pqRA at ea
   unfold wrap64 at hw
   simp only[ho]at ea
   rw[if_neg (by omega),if_neg (by omega)]at ea
   exact ea
  have W:WFar c (Q0t s1.L s1.n s1.mode s1.task s1.f.st (cellP s1.n 0 s1.task) (fun v=>v !=0)) (Q0t s2.L s1.n s1.mode s1.task s1.f.st (cellP s1.n 0 s1.task) (fun v=>v !=0)):=w_far hc H.1 (by omega)
  have ed:=W.done
  have es:=W.seen
  have hO:=congrArg Acc.old W.acc
  simp only[Q1W,Rn.keep,HL.mode,HL.st,hw,Q1d,Q0v,HL.line,HL.n,HL.task,if_true,if_false,Bool.false_eq_true,Q0H,show¬((2:Int)=0)by decide,show¬((2:Int)=1)by decide]
  rw[ed,es]
  generalize (Q0t s1.L s1.n s1.mode s1.task s1.f.st (cellP s1.n 0 s1.task) (fun v=>v !=0)).done=db
  generalize (Q0t s1.L s1.n s1.mode s1.task s1.f.st (cellP s1.n 0 s1.task) (fun v=>v !=0)).seen=sb
  cases sb<;>cases db<;>simp only[if_true,Bool.false_eq_true,if_false]
  all_goals exact⟨by(repeat' first|with_reducible exact HL|with_reducible refine rl_goto ?_ _|with_reducible refine rl_fin ?_ _|with_reducible refine rl_note ?_ _ _|with_reducible refine rl_noted _ ?_|with_reducible refine rl_setA ?_ _ _|with_reducible refine rl_setB ?_ _ _|with_reducible refine rl_wake ?_ _|with_reducible refine rl_waited ?_ W.stage (congrArg Acc.kind W.acc) (congrArg Acc.cell W.acc) W.words),by(first|exact H.2.1|(show pqRA c s1.f.op s1.f.line _ _;unfold pqRA;unfold wrap64 at hw;simp only[ho];rw[if_neg (by omega),if_neg (by omega)];exact hO)|(unfold pqRA;(try dsimp only[Rn.goto,Rn.fin,Rn.note,Rn.Q0d,Rn.Q0h,Rn.setB,Rn.wake,Rn.did,Rn.waited]);simp only[ho];first|(rw[if_pos (by decide)]<;>omega)|(rw[if_neg (by decide),if_pos (by decide)]<;>trivial)|(rw[if_neg (by decide),if_neg (by decide)]<;>omega)|(rw[if_neg (by decide)]<;>trivial)|trivial)),by(first|exact H.2.2|(unfold pqRB;(try dsimp only[Rn.goto,Rn.fin,Rn.note,Rn.Q0d,Rn.Q0h,Rn.setB,Rn.wake,Rn.did,Rn.waited]);simp only[ho];first|(rw[if_pos (by decide)]<;>omega)|(rw[if_neg (by decide)]<;>trivial)))⟩
 have n2:=hw
 clear hw
 by_cases hw:wrap64 (s1.f.line-3)=3
 ·have ea:s2.f.a=s1.f.a:=by
   have ea:=H.2.1
   unfold pqRA at ea
   unfold wrap64 at hw
   simp only[ho]at ea
   rw[if_neg (by omega),if_neg (by omega)]at ea
   exact ea
  have D:DFar c (doA s1.L ⟨2,cellP s1.n 1 (s1.f.a-1),0,0,0⟩) (doA s2.L ⟨2,cellP s1.n 1 (s1.f.a-1),0,0,0⟩):=d_far hc H.1 (by omega)
  have hO:=congrArg Acc.old D.acc
  simp only[Q1Z,ea,hw,Q1d,Q0v,HL.line,HL.n,HL.task,if_true,if_false,Bool.false_eq_true,Q0H,show¬((3:Int)=0)by decide,show¬((3:Int)=1)by decide,show¬((3:Int)=2)by decide]
  exact⟨by(repeat' first|with_reducible exact HL|with_reducible refine rl_goto ?_ _|with_reducible refine rl_fin ?_ _|with_reducible refine rl_note ?_ _ _|with_reducible refine rl_noted _ ?_|with_reducible refine rl_setA ?_ _ _|with_reducible refine rl_setB ?_ _ _|with_reducible refine rl_wake ?_ _|with_reducible refine rl_did ?_ (congrArg Acc.kind D.acc) (congrArg Acc.cell D.acc) D.L),by(first|exact H.2.1|(unfold pqRA;(try dsimp only[Rn.goto,Rn.fin,Rn.note,Rn.Q0d,Rn.Q0h,Rn.setB,Rn.wake,Rn.did,Rn.waited]);simp only[ho];first|(rw[if_pos (by decide)]<;>omega)|(rw[if_neg (by decide),if_pos (by decide)]<;>trivial)|(rw[if_neg (by decide),if_neg (by decide)]<;>omega)|(rw[if_neg (by decide)]<;>trivial)|trivial)),by(first|exact H.2.2|(unfold pqRB;(try dsimp only[Rn.goto,Rn.fin,Rn.note,Rn.Q0d,Rn.Q0h,Rn.setB,Rn.wake,Rn.did,Rn.waited]);simp only[ho];first|(rw[if_pos (by decide)]<;>omega)|(rw[if_neg (by decide)]<;>trivial)))⟩
 have n3:=hw
 clear hw
 simp only[Q1d,Q0v,HL.line,HL.n,HL.task,if_true,if_false,Bool.false_eq_true,Q0H,n0,n1,n2,n3]
 exact H
theorem pqGive_6_s(hc:AddC c)(k0:c 0%4=0)(k1:c 1=c 0)(k2:c 2=0)(k3:c 3%2=0){s1 s2:Rn}(H:RnSh (addT c) (pqRA c) (pqRB c) s1 s2)(ok:OkU s1)(ho:s1.f.op=6):RnSh (addT c) (pqRA c) (pqRB c) (Q1d 8 false s1) (Q1d 8 false s2):=by
 have HL:=H.1
 have ok1:=ok
 obtain⟨ra,rb,_⟩:=ok1
 by_cases hw:wrap64 (s1.f.line-8)=0
 ·have D:DFar c (doA s1.L ⟨1,cellP s1.n 0 s1.task,0,0,0⟩) (doA s2.L ⟨1,cellP s1.n 0 s1.task,0,0,0⟩):=d_far hc H.1 (by omega)
  have hO:=congrArg Acc.old D.acc
  by_cases h0:(doA s1.L ⟨1,cellP s1.n 0 s1.task,0,0,0⟩).1.old=0<;>simp only[Q1X,D.acc,h0,hw,Q1d,Q0v,HL.line,HL.n,HL.task,if_true,if_false,Bool.false_eq_true,Q0H]
  all_goals exact⟨by(repeat' first|with_reducible exact HL|with_reducible refine rl_goto ?_ _|with_reducible refine rl_fin ?_ _|with_reducible refine rl_note ?_ _ _|with_reducible refine rl_noted _ ?_|with_reducible refine rl_setA ?_ _ _|with_reducible refine rl_setB ?_ _ _|with_reducible refine rl_wake ?_ _|with_reducible refine rl_did ?_ (congrArg Acc.kind D.acc) (congrArg Acc.cell D.acc) D.L),by(first|exact H.2.1|(unfold pqRA;(try dsimp only[Rn.goto,Rn.fin,Rn.note,Rn.Q0d,Rn.Q0h,Rn.setB,Rn.wake,Rn.did,Rn.waited]);simp only[ho];first|(rw[if_pos (by decide)]<;>omega)|(rw[if_neg (by decide),if_pos (by decide)]<;>trivial)|(rw[if_neg (by decide),if_neg (by decide)]<;>omega)|(rw[if_neg (by decide)]<;>trivial)|trivial)),by(first|exact H.2.2|(unfold pqRB;(try dsimp only[Rn.goto,Rn.fin,Rn.note,Rn.Q0d,Rn.Q0h,Rn.setB,Rn.wake,Rn.did,Rn.waited]);simp only[ho];first|(rw[if_pos (by decide)]<;>omega)|(rw[if_neg (by decide)]<;>trivial)))⟩
 have n0:=hw
 clear hw
 by_cases hw:wrap64 (s1.f.line-8)=1
 ·have ea:s2.f.a=s1.f.a:=by
   have ea:=H.2.1
   unfold pqRA at ea
   unfold wrap64 at hw
   simp only[ho]at ea
   rw[if_neg (by omega),if_neg (by omega)]at ea
   exact ea
  have D:DFar c (doA s1.L ⟨5,2,(s1.task+1)%4294967296,0,0⟩) (doA s2.L ⟨5,2,(s1.task+1)%4294967296,0,0⟩):=d_id H.1 (fun i hi=>(show i=2 by omega)▸k2)
  have hO:=congrArg Acc.old D.acc
  have ec:=cas_id D
  cases hb:Q7N s1.L 2 ((s1.task+1)%4294967296) 0<;>rw[hb]at ec<;>simp only[Q1T,hb,ec,hw,Q1d,Q0v,HL.line,HL.n,HL.task,if_true,if_false,Bool.false_eq_true,Q0H,show¬((1:Int)=0)by decide]
  all_goals exact⟨by(repeat' first|with_reducible exact HL|with_reducible refine rl_goto ?_ _|with_reducible refine rl_fin ?_ _|with_reducible refine rl_note ?_ _ _|with_reducible refine rl_noted _ ?_|with_reducible refine rl_setA ?_ _ _|with_reducible refine rl_setB ?_ _ _|with_reducible refine rl_wake ?_ _|with_reducible refine rl_did ?_ (congrArg Acc.kind D.acc) (congrArg Acc.cell D.acc) D.L),by(first|exact H.2.1|(unfold pqRA;(try dsimp only[Rn.goto,Rn.fin,Rn.note,Rn.Q0d,Rn.Q0h,Rn.setB,Rn.wake,Rn.did,Rn.waited]);simp only[ho];first|(rw[if_pos (by decide)]<;>omega)|(rw[if_neg (by decide),if_pos (by decide)]<;>trivial)|(rw[if_neg (by decide),if_neg (by decide)]<;>omega)|(rw[if_neg (by decide)]<;>trivial)|trivial)),by(first|exact H.2.2|(unfold pqRB;(try dsimp only[Rn.goto,Rn.fin,Rn.note,Rn.Q0d,Rn.Q0h,Rn.setB,Rn.wake,Rn.did,Rn.waited]);simp only[ho];first|(rw[if_pos (by decide)]<;>omega)|(rw[if_neg (by decide)]<;>trivial)))⟩
 have n1:=hw
 clear hw
 by_cases hw:wrap64 (s1.f.line-8)=2
 ·have ea:s2.f.a=s1.f.a:=by
   have ea:=H.2.1
   unfold pqRA at ea
   unfold wrap64 at hw
   simp only[ho]at ea
   rw[if_neg (by omega),if_neg (by omega)]at ea
   exact ea
  have W:WFar c (Q0t s1.L s1.n s1.mode s1.task s1.f.st (cellP s1.n 0 s1.task) (fun v=>v !=0)) (Q0t s2.L s1.n s1.mode s1.task s1.f.st (cellP s1.n 0 s1.task) (fun v=>v !=0)):=w_far hc H.1 (by omega)
  have ed:=W.done
  have es:=W.seen
  have hO:=congrArg Acc.old W.acc
  simp only[Q1W,Rn.keep,HL.mode,HL.st,hw,Q1d,Q0v,HL.line,HL.n,HL.task,if_true,if_false,Bool.false_eq_true,Q0H,show¬((2:Int)=0)by decide,show¬((2:Int)=1)by decide]
  rw[ed,es]
  generalize (Q0t s1.L s1.n s1.mode s1.task s1.f.st (cellP s1.n 0 s1.task) (fun v=>v !=0)).done=db
  generalize (Q0t s1.L s1.n s1.mode s1.task s1.f.st (cellP s1.n 0 s1.task) (fun v=>v !=0)).seen=sb
  cases sb<;>cases db<;>simp only[if_true,Bool.false_eq_true,if_false]
  all_goals exact⟨by(repeat' first|with_reducible exact HL|with_reducible refine rl_goto ?_ _|with_reducible refine rl_fin ?_ _|with_reducible refine rl_note ?_ _ _|with_reducible refine rl_noted _ ?_|with_reducible refine rl_setA ?_ _ _|with_reducible refine rl_setB ?_ _ _|with_reducible refine rl_wake ?_ _|with_reducible refine rl_waited ?_ W.stage (congrArg Acc.kind W.acc) (congrArg Acc.cell W.acc) W.words),by(first|exact H.2.1|(show pqRA c s1.f.op s1.f.line _ _;unfold pqRA;unfold wrap64 at hw;simp only[ho];rw[if_neg (by omega),if_neg (by omega)];exact hO)|(unfold pqRA;(try dsimp only[Rn.goto,Rn.fin,Rn.note,Rn.Q0d,Rn.Q0h,Rn.setB,Rn.wake,Rn.did,Rn.waited]);simp only[ho];first|(rw[if_pos (by decide)]<;>omega)|(rw[if_neg (by decide),if_pos (by decide)]<;>trivial)|(rw[if_neg (by decide),if_neg (by decide)]<;>omega)|(rw[if_neg (by decide)]<;>trivial)|trivial)),by(first|exact H.2.2|(unfold pqRB;(try dsimp only[Rn.goto,Rn.fin,Rn.note,Rn.Q0d,Rn.Q0h,Rn.setB,Rn.wake,Rn.did,Rn.waited]);simp only[ho];first|(rw[if_pos (by decide)]<;>omega)|(rw[if_neg (by decide)]<;>trivial)))⟩
 have n2:=hw
 clear hw
 by_cases hw:wrap64 (s1.f.line-8)=3
 ·have ea:s2.f.a=s1.f.a:=by
   have ea:=H.2.1
   unfold pqRA at ea
   unfold wrap64 at hw
   simp only[ho]at ea
   rw[if_neg (by omega),if_neg (by omega)]at ea
   exact ea
  have D:DFar c (doA s1.L ⟨2,cellP s1.n 1 (s1.f.a-1),0,0,0⟩) (doA s2.L ⟨2,cellP s1.n 1 (s1.f.a-1),0,0,0⟩):=d_far hc H.1 (by omega)
  have hO:=congrArg Acc.old D.acc
  simp only[Q1Z,ea,hw,Q1d,Q0v,HL.line,HL.n,HL.task,if_true,if_false,Bool.false_eq_true,Q0H,show¬((3:Int)=0)by decide,show¬((3:Int)=1)by decide,show¬((3:Int)=2)by decide]
  exact⟨by(repeat' first|with_reducible exact HL|with_reducible refine rl_goto ?_ _|with_reducible refine rl_fin ?_ _|with_reducible refine rl_note ?_ _ _|with_reducible refine rl_noted _ ?_|with_reducible refine rl_setA ?_ _ _|with_reducible refine rl_setB ?_ _ _|with_reducible refine rl_wake ?_ _|with_reducible refine rl_did ?_ (congrArg Acc.kind D.acc) (congrArg Acc.cell D.acc) D.L),by(first|exact H.2.1|(unfold pqRA;(try dsimp only[Rn.goto,Rn.fin,Rn.note,Rn.Q0d,Rn.Q0h,Rn.setB,Rn.wake,Rn.did,Rn.waited]);simp only[ho];first|(rw[if_pos (by decide)]<;>omega)|(rw[if_neg (by decide),if_pos (by decide)]<;>trivial)|(rw[if_neg (by decide),if_neg (by decide)]<;>omega)|(rw[if_neg (by decide)]<;>trivial)|trivial)),by(first|exact H.2.2|(unfold pqRB;(try dsimp only[Rn.goto,Rn.fin,Rn.note,Rn.Q0d,Rn.Q0h,Rn.setB,Rn.wake,Rn.did,Rn.waited]);simp only[ho];first|(rw[if_pos (by decide)]<;>omega)|(rw[if_neg (by decide)]<;>trivial)))⟩
 have n3:=hw
 clear hw
 simp only[Q1d,Q0v,HL.line,HL.n,HL.task,if_true,if_false,Bool.false_eq_true,Q0H,n0,n1,n2,n3]
 exact H
theorem pqGive_7_s(hc:AddC c)(k0:c 0%4=0)(k1:c 1=c 0)(k2:c 2=0)(k3:c 3%2=0){s1 s2:Rn}(H:RnSh (addT c) (pqRA c) (pqRB c) s1 s2)(ok:OkU s1)(ho:s1.f.op=7):RnSh (addT c) (pqRA c) (pqRB c) (Q1d 8 false s1) (Q1d 8 false s2):=by
 have HL:=H.1
 have ok1:=ok
 obtain⟨ra,rb,_⟩:=ok1
 by_cases hw:wrap64 (s1.f.line-8)=0
 ·have D:DFar c (doA s1.L ⟨1,cellP s1.n 0 s1.task,0,0,0⟩) (doA s2.L ⟨1,cellP s1.n 0 s1.task,0,0,0⟩):=d_far hc H.1 (by omega)
  have hO:=congrArg Acc.old D.acc
  by_cases h0:(doA s1.L ⟨1,cellP s1.n 0 s1.task,0,0,0⟩).1.old=0<;>simp only[Q1X,D.acc,h0,hw,Q1d,Q0v,HL.line,HL.n,HL.task,if_true,if_false,Bool.false_eq_true,Q0H]
  all_goals exact⟨by(repeat' first|with_reducible exact HL|with_reducible refine rl_goto ?_ _|with_reducible refine rl_fin ?_ _|with_reducible refine rl_note ?_ _ _|with_reducible refine rl_noted _ ?_|with_reducible refine rl_setA ?_ _ _|with_reducible refine rl_setB ?_ _ _|with_reducible refine rl_wake ?_ _|with_reducible refine rl_did ?_ (congrArg Acc.kind D.acc) (congrArg Acc.cell D.acc) D.L),by(first|exact H.2.1|(unfold pqRA;(try dsimp only[Rn.goto,Rn.fin,Rn.note,Rn.Q0d,Rn.Q0h,Rn.setB,Rn.wake,Rn.did,Rn.waited]);simp only[ho];first|(rw[if_pos (by decide)]<;>omega)|(rw[if_neg (by decide),if_pos (by decide)]<;>trivial)|(rw[if_neg (by decide),if_neg (by decide)]<;>omega)|(rw[if_neg (by decide)]<;>trivial)|trivial)),by(first|exact H.2.2|(unfold pqRB;(try dsimp only[Rn.goto,Rn.fin,Rn.note,Rn.Q0d,Rn.Q0h,Rn.setB,Rn.wake,Rn.did,Rn.waited]);simp only[ho];first|(rw[if_pos (by decide)]<;>omega)|(rw[if_neg (by decide)]<;>trivial)))⟩
 have n0:=hw
 clear hw
 by_cases hw:wrap64 (s1.f.line-8)=1
 ·have ea:s2.f.a=s1.f.a:=by
   have ea:=H.2.1
   unfold pqRA at ea
   unfold wrap64 at hw
   simp only[ho]at ea
   rw[if_neg (by omega),if_neg (by omega)]at ea
   exact ea
  have D:DFar c (doA s1.L ⟨5,2,(s1.task+1)%4294967296,0,0⟩) (doA s2.L ⟨5,2,(s1.task+1)%4294967296,0,0⟩):=d_id H.1 (fun i hi=>(show i=2 by omega)▸k2)
  have hO:=congrArg Acc.old D.acc
  have ec:=cas_id D
  cases hb:Q7N s1.L 2 ((s1.task+1)%4294967296) 0<;>rw[hb]at ec<;>simp only[Q1T,hb,ec,hw,Q1d,Q0v,HL.line,HL.n,HL.task,if_true,if_false,Bool.false_eq_true,Q0H,show¬((1:Int)=0)by decide]
  all_goals exact⟨by(repeat' first|with_reducible exact HL|with_reducible refine rl_goto ?_ _|with_reducible refine rl_fin ?_ _|with_reducible refine rl_note ?_ _ _|with_reducible refine rl_noted _ ?_|with_reducible refine rl_setA ?_ _ _|with_reducible refine rl_setB ?_ _ _|with_reducible refine rl_wake ?_ _|with_reducible refine rl_did ?_ (congrArg Acc.kind D.acc) (congrArg Acc.cell D.acc) D.L),by(first|exact H.2.1|(unfold pqRA;(try dsimp only[Rn.goto,Rn.fin,Rn.note,Rn.Q0d,Rn.Q0h,Rn.setB,Rn.wake,Rn.did,Rn.waited]);simp only[ho];first|(rw[if_pos (by decide)]<;>omega)|(rw[if_neg (by decide),if_pos (by decide)]<;>trivial)|(rw[if_neg (by decide),if_neg (by decide)]<;>omega)|(rw[if_neg (by decide)]<;>trivial)|trivial)),by(first|exact H.2.2|(unfold pqRB;(try dsimp only[Rn.goto,Rn.fin,Rn.note,Rn.Q0d,Rn.Q0h,Rn.setB,Rn.wake,Rn.did,Rn.waited]);simp only[ho];first|(rw[if_pos (by decide)]<;>omega)|(rw[if_neg (by decide)]<;>trivial)))⟩
 have n1:=hw
 clear hw
 by_cases hw:wrap64 (s1.f.line-8)=2
 ·have ea:s2.f.a=s1.f.a:=by
   have ea:=H.2.1
   unfold pqRA at ea
   unfold wrap64 at hw
   simp only[ho]at ea
   rw[if_neg (by omega),if_neg (by omega)]at ea
   exact ea
  have W:WFar c (Q0t s1.L s1.n s1.mode s1.task s1.f.st (cellP s1.n 0 s1.task) (fun v=>v !=0)) (Q0t s2.L s1.n s1.mode s1.task s1.f.st (cellP s1.n 0 s1.task) (fun v=>v !=0)):=w_far hc H.1 (by omega)
  have ed:=W.done
  have es:=W.seen
  have hO:=congrArg Acc.old W.acc
  simp only[Q1W,Rn.keep,HL.mode,HL.st,hw,Q1d,Q0v,HL.line,HL.n,HL.task,if_true,if_false,Bool.false_eq_true,Q0H,show¬((2:Int)=0)by decide,show¬((2:Int)=1)by decide]
  rw[ed,es]
  generalize (Q0t s1.L s1.n s1.mode s1.task s1.f.st (cellP s1.n 0 s1.task) (fun v=>v !=0)).done=db
  generalize (Q0t s1.L s1.n s1.mode s1.task s1.f.st (cellP s1.n 0 s1.task) (fun v=>v !=0)).seen=sb
  cases sb<;>cases db<;>simp only[if_true,Bool.false_eq_true,if_false]
  all_goals exact⟨by(repeat' first|with_reducible exact HL|with_reducible refine rl_goto ?_ _|with_reducible refine rl_fin ?_ _|with_reducible refine rl_note ?_ _ _|with_reducible refine rl_noted _ ?_|with_reducible refine rl_setA ?_ _ _|with_reducible refine rl_setB ?_ _ _|with_reducible refine rl_wake ?_ _|with_reducible refine rl_waited ?_ W.stage (congrArg Acc.kind W.acc) (congrArg Acc.cell W.acc) W.words),by(first|exact H.2.1|(show pqRA c s1.f.op s1.f.line _ _;unfold pqRA;unfold wrap64 at hw;simp only[ho];rw[if_neg (by omega),if_neg (by omega)];exact hO)|(unfold pqRA;(try dsimp only[Rn.goto,Rn.fin,Rn.note,Rn.Q0d,Rn.Q0h,Rn.setB,Rn.wake,Rn.did,Rn.waited]);simp only[ho];first|(rw[if_pos (by decide)]<;>omega)|(rw[if_neg (by decide),if_pos (by decide)]<;>trivial)|(rw[if_neg (by decide),if_neg (by decide)]<;>omega)|(rw[if_neg (by decide)]<;>trivial)|trivial)),by(first|exact H.2.2|(unfold pqRB;(try dsimp only[Rn.goto,Rn.fin,Rn.note,Rn.Q0d,Rn.Q0h,Rn.setB,Rn.wake,Rn.did,Rn.waited]);simp only[ho];first|(rw[if_pos (by decide)]<;>omega)|(rw[if_neg (by decide)]<;>trivial)))⟩
 have n2:=hw
 clear hw
 by_cases hw:wrap64 (s1.f.line-8)=3
 ·have ea:s2.f.a=s1.f.a:=by
   have ea:=H.2.1
   unfold pqRA at ea
   unfold wrap64 at hw
   simp only[ho]at ea
   rw[if_neg (by omega),if_neg (by omega)]at ea
   exact ea
  have D:DFar c (doA s1.L ⟨2,cellP s1.n 1 (s1.f.a-1),0,0,0⟩) (doA s2.L ⟨2,cellP s1.n 1 (s1.f.a-1),0,0,0⟩):=d_far hc H.1 (by omega)
  have hO:=congrArg Acc.old D.acc
  simp only[Q1Z,ea,hw,Q1d,Q0v,HL.line,HL.n,HL.task,if_true,if_false,Bool.false_eq_true,Q0H,show¬((3:Int)=0)by decide,show¬((3:Int)=1)by decide,show¬((3:Int)=2)by decide]
  exact⟨by(repeat' first|with_reducible exact HL|with_reducible refine rl_goto ?_ _|with_reducible refine rl_fin ?_ _|with_reducible refine rl_note ?_ _ _|with_reducible refine rl_noted _ ?_|with_reducible refine rl_setA ?_ _ _|with_reducible refine rl_setB ?_ _ _|with_reducible refine rl_wake ?_ _|with_reducible refine rl_did ?_ (congrArg Acc.kind D.acc) (congrArg Acc.cell D.acc) D.L),by(first|exact H.2.1|(unfold pqRA;(try dsimp only[Rn.goto,Rn.fin,Rn.note,Rn.Q0d,Rn.Q0h,Rn.setB,Rn.wake,Rn.did,Rn.waited]);simp only[ho];first|(rw[if_pos (by decide)]<;>omega)|(rw[if_neg (by decide),if_pos (by decide)]<;>trivial)|(rw[if_neg (by decide),if_neg (by decide)]<;>omega)|(rw[if_neg (by decide)]<;>trivial)|trivial)),by(first|exact H.2.2|(unfold pqRB;(try dsimp only[Rn.goto,Rn.fin,Rn.note,Rn.Q0d,Rn.Q0h,Rn.setB,Rn.wake,Rn.did,Rn.waited]);simp only[ho];first|(rw[if_pos (by decide)]<;>omega)|(rw[if_neg (by decide)]<;>trivial)))⟩
 have n3:=hw
 clear hw
 simp only[Q1d,Q0v,HL.line,HL.n,HL.task,if_true,if_false,Bool.false_eq_true,Q0H,n0,n1,n2,n3]
 exact H
theorem pqLeave_4_s(hc:AddC c)(k0:c 0%4=0)(k1:c 1=c 0)(k2:c 2=0)(k3:c 3%2=0){s1 s2:Rn}(H:RnSh (addT c) (pqRA c) (pqRB c) s1 s2)(ok:OkU s1)(ho:s1.f.op=4):RnSh (addT c) (pqRA c) (pqRB c) (Q0M s1) (Q0M s2):=by
 have HL:=H.1
 unfold Q0M
 rw[H.1.op,H.1.line]
 simp only[ho,show¬((4:Int)=8)by decide,show¬((8:Int)=4)by decide,false_and,true_and,if_false]
 refine rn_ite (fun hl=> ?_) (fun n0=>rn_ite (fun hl=> ?_) (fun n1=>rn_ite (fun hl=> ?_) (fun n2=>pqGive_4_s hc k0 k1 k2 k3 H ok ho)))
 ·have HL:=H.1
  have ok1:=ok
  obtain⟨ra,rb,_⟩:=ok1
  have ea:=H.2.1
  unfold pqRA at ea
  simp only[ho,hl]at ea
  rw[if_neg (by decide),if_neg (by decide)]at ea
  have D:DSh c 3 (doA s1.L ⟨1,3,0,0,0⟩) (doA s2.L ⟨1,3,0,0,0⟩):=d_ld hc H.1 ok (j:=3) (by decide)
  have hO:=D.old
  have hR:=D.rng
  exact⟨by(repeat' first|with_reducible exact HL|with_reducible refine rl_goto ?_ _|with_reducible refine rl_fin ?_ _|with_reducible refine rl_note ?_ _ _|with_reducible refine rl_noted _ ?_|with_reducible refine rl_setA ?_ _ _|with_reducible refine rl_setB ?_ _ _|with_reducible refine rl_wake ?_ _|with_reducible refine rl_did ?_ D.kind D.cell D.L),by(first|exact H.2.1|(unfold pqRA;(try dsimp only[Rn.goto,Rn.fin,Rn.note,Rn.Q0d,Rn.Q0h,Rn.setB,Rn.wake,Rn.did,Rn.waited]);simp only[ho,hl];first|(rw[if_pos (by decide)]<;>omega)|(rw[if_neg (by decide),if_pos (by decide)]<;>trivial)|(rw[if_neg (by decide),if_neg (by decide)]<;>omega)|(rw[if_neg (by decide)]<;>trivial)|trivial)),by(first|exact H.2.2|(unfold pqRB;(try dsimp only[Rn.goto,Rn.fin,Rn.note,Rn.Q0d,Rn.Q0h,Rn.setB,Rn.wake,Rn.did,Rn.waited]);simp only[ho,hl];first|(rw[if_pos (by decide)]<;>omega)|(rw[if_neg (by decide)]<;>trivial)))⟩
 ·have HL:=H.1
  have ok1:=ok
  obtain⟨ra,rb,_⟩:=ok1
  have ea:=H.2.1
  unfold pqRA at ea
  simp only[ho,hl]at ea
  rw[if_neg (by decide),if_neg (by decide)]at ea
  have eb:=H.2.2
  unfold pqRB at eb
  simp only[ho,hl]at eb
  rw[if_pos (by decide)]at eb
  have ep:Q6u s2.f.b=Q6u s1.f.b:=by unfold Q6u;omega
  have D:DSh c 0 (doA s1.L ⟨3,0,(-Q6u s1.f.b%4294967296),0,0⟩) (doA s2.L ⟨3,0,(-Q6u s2.f.b%4294967296),0,0⟩):=d_ad hc H.1 ok (j:=0) (by decide) (by rw[ep])
  have hO:=D.old
  have hR:=D.rng
  exact⟨by(repeat' first|with_reducible exact HL|with_reducible refine rl_goto ?_ _|with_reducible refine rl_fin ?_ _|with_reducible refine rl_note ?_ _ _|with_reducible refine rl_noted _ ?_|with_reducible refine rl_setA ?_ _ _|with_reducible refine rl_setB ?_ _ _|with_reducible refine rl_wake ?_ _|with_reducible refine rl_did ?_ D.kind D.cell D.L),by(first|exact H.2.1|(unfold pqRA;(try dsimp only[Rn.goto,Rn.fin,Rn.note,Rn.Q0d,Rn.Q0h,Rn.setB,Rn.wake,Rn.did,Rn.waited]);simp only[ho,hl];first|(rw[if_pos (by decide)]<;>omega)|(rw[if_neg (by decide),if_pos (by decide)]<;>trivial)|(rw[if_neg (by decide),if_neg (by decide)]<;>omega)|(rw[if_neg (by decide)]<;>trivial)|trivial)),by(first|exact H.2.2|(unfold pqRB;(try dsimp only[Rn.goto,Rn.fin,Rn.note,Rn.Q0d,Rn.Q0h,Rn.setB,Rn.wake,Rn.did,Rn.waited]);simp only[ho,hl];first|(rw[if_pos (by decide)]<;>omega)|(rw[if_neg (by decide)]<;>trivial)))⟩
 ·have HL:=H.1
  have ok1:=ok
  obtain⟨ra,rb,_⟩:=ok1
  have ea:=H.2.1
  unfold pqRA at ea
  simp only[ho,hl]at ea
  rw[if_neg (by decide),if_neg (by decide)]at ea
  have eb:=H.2.2
  unfold pqRB at eb
  simp only[ho,hl]at eb
  rw[if_pos (by decide)]at eb
  have D:DSh c 3 (doA s1.L ⟨2,3,((s1.f.b+1)%4294967296),0,0⟩) (doA s2.L ⟨2,3,((s2.f.b+1)%4294967296),0,0⟩):=d_st hc H.1 ok (j:=3) (by decide) (by omega) (by omega)
  have hO:=D.old
  have hR:=D.rng
  exact⟨by(repeat' first|with_reducible exact HL|with_reducible refine rl_goto ?_ _|with_reducible refine rl_fin ?_ _|with_reducible refine rl_note ?_ _ _|with_reducible refine rl_noted _ ?_|with_reducible refine rl_setA ?_ _ _|with_reducible refine rl_setB ?_ _ _|with_reducible refine rl_wake ?_ _|with_reducible refine rl_did ?_ D.kind D.cell D.L),by(first|exact H.2.1|(unfold pqRA;(try dsimp only[Rn.goto,Rn.fin,Rn.note,Rn.Q0d,Rn.Q0h,Rn.setB,Rn.wake,Rn.did,Rn.waited]);simp only[ho,hl];first|(rw[if_pos (by decide)]<;>omega)|(rw[if_neg (by decide),if_pos (by decide)]<;>trivial)|(rw[if_neg (by decide),if_neg (by decide)]<;>omega)|(rw[if_neg (by decide)]<;>trivial)|trivial)),by(first|exact H.2.2|(unfold pqRB;(try dsimp only[Rn.goto,Rn.fin,Rn.note,Rn.Q0d,Rn.Q0h,Rn.setB,Rn.wake,Rn.did,Rn.waited]);simp only[ho,hl];first|(rw[if_pos (by decide)]<;>omega)|(rw[if_neg (by decide)]<;>trivial)))⟩
theorem pqLeave_8_s(hc:AddC c)(k0:c 0%4=0)(k1:c 1=c 0)(k2:c 2=0)(k3:c 3%2=0){s1 s2:Rn}(H:RnSh (addT c) (pqRA c) (pqRB c) s1 s2)(ok:OkU s1)(ho:s1.f.op=8):RnSh (addT c) (pqRA c) (pqRB c) (Q0M s1) (Q0M s2):=by
 have HL:=H.1
 unfold Q0M
 rw[H.1.op,H.1.line]
 simp only[ho,show¬((4:Int)=8)by decide,show¬((8:Int)=4)by decide,false_and,true_and,if_false]
 refine rn_ite (fun hl=> ?_) (fun n0=>rn_ite (fun hl=> ?_) (fun n1=>rn_ite (fun hl=> ?_) (fun n2=>pqGive_8_s hc k0 k1 k2 k3 H ok ho)))
 ·have HL:=H.1
  have ok1:=ok
  obtain⟨ra,rb,_⟩:=ok1
  have ea:=H.2.1
  unfold pqRA at ea
  simp only[ho,hl]at ea
  rw[if_neg (by decide),if_neg (by decide)]at ea
  have D:DSh c 3 (doA s1.L ⟨1,3,0,0,0⟩) (doA s2.L ⟨1,3,0,0,0⟩):=d_ld hc H.1 ok (j:=3) (by decide)
  have hO:=D.old
  have hR:=D.rng
  exact⟨by(repeat' first|with_reducible exact HL|with_reducible refine rl_goto ?_ _|with_reducible refine rl_fin ?_ _|with_reducible refine rl_note ?_ _ _|with_reducible refine rl_noted _ ?_|with_reducible refine rl_setA ?_ _ _|with_reducible refine rl_setB ?_ _ _|with_reducible refine rl_wake ?_ _|with_reducible refine rl_did ?_ D.kind D.cell D.L),by(first|exact H.2.1|(unfold pqRA;(try dsimp only[Rn.goto,Rn.fin,Rn.note,Rn.Q0d,Rn.Q0h,Rn.setB,Rn.wake,Rn.did,Rn.waited]);simp only[ho,hl];first|(rw[if_pos (by decide)]<;>omega)|(rw[if_neg (by decide),if_pos (by decide)]<;>trivial)|(rw[if_neg (by decide),if_neg (by decide)]<;>omega)|(rw[if_neg (by decide)]<;>trivial)|trivial)),by(first|exact H.2.2|(unfold pqRB;(try dsimp only[Rn.goto,Rn.fin,Rn.note,Rn.Q0d,Rn.Q0h,Rn.setB,Rn.wake,Rn.did,Rn.waited]);simp only[ho,hl];first|(rw[if_pos (by decide)]<;>omega)|(rw[if_neg (by decide)]<;>trivial)))⟩
 ·have HL:=H.1
  have ok1:=ok
  obtain⟨ra,rb,_⟩:=ok1
  have ea:=H.2.1
  unfold pqRA at ea
  simp only[ho,hl]at ea
  rw[if_neg (by decide),if_neg (by decide)]at ea
  have eb:=H.2.2
  unfold pqRB at eb
  simp only[ho,hl]at eb
  rw[if_pos (by decide)]at eb
  have ep:Q6u s2.f.b=Q6u s1.f.b:=by unfold Q6u;omega
  have D:DSh c 0 (doA s1.L ⟨3,0,((256-Q6u s1.f.b)%4294967296),0,0⟩) (doA s2.L ⟨3,0,((256-Q6u s2.f.b)%4294967296),0,0⟩):=d_ad hc H.1 ok (j:=0) (by decide) (by rw[ep])
  have hO:=D.old
  have hR:=D.rng
  exact⟨by(repeat' first|with_reducible exact HL|with_reducible refine rl_goto ?_ _|with_reducible refine rl_fin ?_ _|with_reducible refine rl_note ?_ _ _|with_reducible refine rl_noted _ ?_|with_reducible refine rl_setA ?_ _ _|with_reducible refine rl_setB ?_ _ _|with_reducible refine rl_wake ?_ _|with_reducible refine rl_did ?_ D.kind D.cell D.L),by(first|exact H.2.1|(unfold pqRA;(try dsimp only[Rn.goto,Rn.fin,Rn.note,Rn.Q0d,Rn.Q0h,Rn.setB,Rn.wake,Rn.did,Rn.waited]);simp only[ho,hl];first|(rw[if_pos (by decide)]<;>omega)|(rw[if_neg (by decide),if_pos (by decide)]<;>trivial)|(rw[if_neg (by decide),if_neg (by decide)]<;>omega)|(rw[if_neg (by decide)]<;>trivial)|trivial)),by(first|exact H.2.2|(unfold pqRB;(try dsimp only[Rn.goto,Rn.fin,Rn.note,Rn.Q0d,Rn.Q0h,Rn.setB,Rn.wake,Rn.did,Rn.waited]);simp only[ho,hl];first|(rw[if_pos (by decide)]<;>omega)|(rw[if_neg (by decide)]<;>trivial)))⟩
 ·have HL:=H.1
  have ok1:=ok
  obtain⟨ra,rb,_⟩:=ok1
  have ea:=H.2.1
  unfold pqRA at ea
  simp only[ho,hl]at ea
  rw[if_neg (by decide),if_neg (by decide)]at ea
  have eb:=H.2.2
  unfold pqRB at eb
  simp only[ho,hl]at eb
  rw[if_pos (by decide)]at eb
  have D:DSh c 3 (doA s1.L ⟨2,3,((s1.f.b+1)%4294967296),0,0⟩) (doA s2.L ⟨2,3,((s2.f.b+1)%4294967296),0,0⟩):=d_st hc H.1 ok (j:=3) (by decide) (by omega) (by omega)
  have hO:=D.old
  have hR:=D.rng
  exact⟨by(repeat' first|with_reducible exact HL|with_reducible refine rl_goto ?_ _|with_reducible refine rl_fin ?_ _|with_reducible refine rl_note ?_ _ _|with_reducible refine rl_noted _ ?_|with_reducible refine rl_setA ?_ _ _|with_reducible refine rl_setB ?_ _ _|with_reducible refine rl_wake ?_ _|with_reducible refine rl_did ?_ D.kind D.cell D.L),by(first|exact H.2.1|(unfold pqRA;(try dsimp only[Rn.goto,Rn.fin,Rn.note,Rn.Q0d,Rn.Q0h,Rn.setB,Rn.wake,Rn.did,Rn.waited]);simp only[ho,hl];first|(rw[if_pos (by decide)]<;>omega)|(rw[if_neg (by decide),if_pos (by decide)]<;>trivial)|(rw[if_neg (by decide),if_neg (by decide)]<;>omega)|(rw[if_neg (by decide)]<;>trivial)|trivial)),by(first|exact H.2.2|(unfold pqRB;(try dsimp only[Rn.goto,Rn.fin,Rn.note,Rn.Q0d,Rn.Q0h,Rn.setB,Rn.wake,Rn.did,Rn.waited]);simp only[ho,hl];first|(rw[if_pos (by decide)]<;>omega)|(rw[if_neg (by decide)]<;>trivial)))⟩
theorem pqTry_6_s(hc:AddC c)(k0:c 0%4=0)(k1:c 1=c 0)(k2:c 2=0)(k3:c 3%2=0){s1 s2:Rn}(H:RnSh (addT c) (pqRA c) (pqRB c) s1 s2)(ok:OkU s1)(ho:s1.f.op=6):RnSh (addT c) (pqRA c) (pqRB c) (Q1H s1) (Q1H s2):=by
 have HL:=H.1
 by_cases hw:wrap64 s1.f.line=0
 ·have D:DFar c (doA s1.L ⟨2,cellP s1.n 0 s1.task,0,0,0⟩) (doA s2.L ⟨2,cellP s1.n 0 s1.task,0,0,0⟩):=d_far hc H.1 (by omega)
  have hO:=congrArg Acc.old D.acc
  simp only[Q1S,hw,Q1H,Q0L,HL.line,HL.n,HL.task,if_true,if_false,Bool.false_eq_true,Q0H]
  exact⟨by(repeat' first|with_reducible exact HL|with_reducible refine rl_goto ?_ _|with_reducible refine rl_fin ?_ _|with_reducible refine rl_note ?_ _ _|with_reducible refine rl_noted _ ?_|with_reducible refine rl_setA ?_ _ _|with_reducible refine rl_setB ?_ _ _|with_reducible refine rl_wake ?_ _|with_reducible refine rl_did ?_ (congrArg Acc.kind D.acc) (congrArg Acc.cell D.acc) D.L),by(first|exact H.2.1|(unfold pqRA;(try dsimp only[Rn.goto,Rn.fin,Rn.note,Rn.Q0d,Rn.Q0h,Rn.setB,Rn.wake,Rn.did,Rn.waited]);simp only[ho];first|(rw[if_pos (by decide)]<;>omega)|(rw[if_neg (by decide),if_pos (by decide)]<;>trivial)|(rw[if_neg (by decide),if_neg (by decide)]<;>omega)|(rw[if_neg (by decide)]<;>trivial)|trivial)),by(first|exact H.2.2|(unfold pqRB;(try dsimp only[Rn.goto,Rn.fin,Rn.note,Rn.Q0d,Rn.Q0h,Rn.setB,Rn.wake,Rn.did,Rn.waited]);simp only[ho];first|(rw[if_pos (by decide)]<;>omega)|(rw[if_neg (by decide)]<;>trivial)))⟩
 have n0:=hw
 clear hw
 by_cases hw:wrap64 s1.f.line=1
 ·have D:DFar c (doA s1.L ⟨5,2,0,(s1.task+1)%4294967296,0⟩) (doA s2.L ⟨5,2,0,(s1.task+1)%4294967296,0⟩):=d_id H.1 (fun i hi=>(show i=2 by omega)▸k2)
  have hO:=congrArg Acc.old D.acc
  have ec:=cas_id D
  cases hb:Q7N s1.L 2 0 ((s1.task+1)%4294967296)<;>rw[hb]at ec<;>simp only[hb,ec,hw,Q1H,Q0L,HL.line,HL.n,HL.task,if_true,if_false,Bool.false_eq_true,Q0H,show¬((1:Int)=0)by decide]
  all_goals exact⟨by(repeat' first|with_reducible exact HL|with_reducible refine rl_goto ?_ _|with_reducible refine rl_fin ?_ _|with_reducible refine rl_note ?_ _ _|with_reducible refine rl_noted _ ?_|with_reducible refine rl_setA ?_ _ _|with_reducible refine rl_setB ?_ _ _|with_reducible refine rl_wake ?_ _|with_reducible refine rl_did ?_ (congrArg Acc.kind D.acc) (congrArg Acc.cell D.acc) D.L),by(first|exact H.2.1|(unfold pqRA;(try dsimp only[Rn.goto,Rn.fin,Rn.note,Rn.Q0d,Rn.Q0h,Rn.setB,Rn.wake,Rn.did,Rn.waited]);simp only[ho];first|(rw[if_pos (by decide)]<;>omega)|(rw[if_neg (by decide),if_pos (by decide)]<;>trivial)|(rw[if_neg (by decide),if_neg (by decide)]<;>omega)|(rw[if_neg (by decide)]<;>trivial)|trivial)),by(first|exact H.2.2|(unfold pqRB;(try dsimp only[Rn.goto,Rn.fin,Rn.note,Rn.Q0d,Rn.Q0h,Rn.setB,Rn.wake,Rn.did,Rn.waited]);simp only[ho];first|(rw[if_pos (by decide)]<;>omega)|(rw[if_neg (by decide)]<;>trivial)))⟩
 simp only[Q1H,Q0L,HL.line,HL.n,HL.task,if_true,if_false,Bool.false_eq_true,Q0H,n0,hw]
 exact H
theorem pqDecide_6_s(hc:AddC c)(k0:c 0%4=0)(k1:c 1=c 0)(k2:c 2=0)(k3:c 3%2=0){s1 s2:Rn}(H:RnSh (addT c) (pqRA c) (pqRB c) s1 s2)(ok:OkU s1)(ho:s1.f.op=6):RnSh (addT c) (pqRA c) (pqRB c) (Q0y s1) (Q0y s2):=by
 unfold Q0y
 rw[H.1.op,H.1.line]
 refine rn_ite (fun hl=> ?_) (fun n2=>rn_ite (fun hl=> ?_) (fun n3=>rn_ite (fun hl=> ?_) (fun n4=>rn_ite (fun hl=> ?_) (fun n5=>rn_ite (fun hl=> ?_) (fun n6=>rn_ite (fun hl=> ?_) (fun n7=>pqGive_6_s hc k0 k1 k2 k3 H ok ho))))))
 ·have HL:=H.1
  have ok1:=ok
  obtain⟨ra,rb,_⟩:=ok1
  have D:DSh c 0 (doA s1.L ⟨1,0,0,0,0⟩) (doA s2.L ⟨1,0,0,0,0⟩):=d_ld hc H.1 ok (j:=0) (by decide)
  have hO:=D.old
  have hR:=D.rng
  exact⟨by(repeat' first|with_reducible exact HL|with_reducible refine rl_goto ?_ _|with_reducible refine rl_fin ?_ _|with_reducible refine rl_note ?_ _ _|with_reducible refine rl_noted _ ?_|with_reducible refine rl_setA ?_ _ _|with_reducible refine rl_setB ?_ _ _|with_reducible refine rl_wake ?_ _|with_reducible refine rl_did ?_ D.kind D.cell D.L),by(first|exact H.2.1|(unfold pqRA;(try dsimp only[Rn.goto,Rn.fin,Rn.note,Rn.Q0d,Rn.Q0h,Rn.setB,Rn.wake,Rn.did,Rn.waited]);simp only[ho,hl];first|(rw[if_pos (by decide)]<;>omega)|(rw[if_neg (by decide),if_pos (by decide)]<;>trivial)|(rw[if_neg (by decide),if_neg (by decide)]<;>omega)|(rw[if_neg (by decide)]<;>trivial)|trivial)),by(first|exact H.2.2|(unfold pqRB;(try dsimp only[Rn.goto,Rn.fin,Rn.note,Rn.Q0d,Rn.Q0h,Rn.setB,Rn.wake,Rn.did,Rn.waited]);simp only[ho,hl];first|(rw[if_pos (by decide)]<;>omega)|(rw[if_neg (by decide)]<;>trivial)))⟩
 ·have HL:=H.1
  have ok1:=ok
  obtain⟨ra,rb,_⟩:=ok1
  have ea:=H.2.1
  unfold pqRA at ea
  simp only[ho,hl]at ea
  rw[if_pos (by decide)]at ea
  simp only[ho,if_true,show¬((6:Int)=7)by decide,if_false]
  have D:DSh c 1 (doA s1.L ⟨1,1,0,0,0⟩) (doA s2.L ⟨1,1,0,0,0⟩):=d_ld hc H.1 ok (j:=1) (by decide)
  have hO:=D.old
  have hR:=D.rng
  have e:Q1s s2.f.a (doA s2.L ⟨1,1,0,0,0⟩).1.old=Q1s s1.f.a (doA s1.L ⟨1,1,0,0,0⟩).1.old:=by rw[ea,hO,k1];exact ahead_sh ra hR
  dsimp only[Q1M]
  rw[e]
  refine rn_ite (fun h1=> ?_) (fun h1=> ?_)
  all_goals exact⟨by(repeat' first|with_reducible exact HL|with_reducible refine rl_goto ?_ _|with_reducible refine rl_fin ?_ _|with_reducible refine rl_note ?_ _ _|with_reducible refine rl_noted _ ?_|with_reducible refine rl_setA ?_ _ _|with_reducible refine rl_setB ?_ _ _|with_reducible refine rl_wake ?_ _|with_reducible refine rl_did ?_ D.kind D.cell D.L),by(first|exact H.2.1|(unfold pqRA;(try dsimp only[Rn.goto,Rn.fin,Rn.note,Rn.Q0d,Rn.Q0h,Rn.setB,Rn.wake,Rn.did,Rn.waited]);simp only[ho,hl];first|(rw[if_pos (by decide)]<;>omega)|(rw[if_neg (by decide),if_pos (by decide)]<;>trivial)|(rw[if_neg (by decide),if_neg (by decide)]<;>omega)|(rw[if_neg (by decide)]<;>trivial)|trivial)),by(first|exact H.2.2|(unfold pqRB;(try dsimp only[Rn.goto,Rn.fin,Rn.note,Rn.Q0d,Rn.Q0h,Rn.setB,Rn.wake,Rn.did,Rn.waited]);simp only[ho,hl];first|(rw[if_pos (by decide)]<;>omega)|(rw[if_neg (by decide)]<;>trivial)))⟩
 ·have HL:=H.1
  have ok1:=ok
  obtain⟨ra,rb,_⟩:=ok1
  have D:DSh c 3 (doA s1.L ⟨1,3,0,0,0⟩) (doA s2.L ⟨1,3,0,0,0⟩):=d_ld hc H.1 ok (j:=3) (by decide)
  have hO:=D.old
  have hR:=D.rng
  exact⟨by(repeat' first|with_reducible exact HL|with_reducible refine rl_goto ?_ _|with_reducible refine rl_fin ?_ _|with_reducible refine rl_note ?_ _ _|with_reducible refine rl_noted _ ?_|with_reducible refine rl_setA ?_ _ _|with_reducible refine rl_setB ?_ _ _|with_reducible refine rl_wake ?_ _|with_reducible refine rl_did ?_ D.kind D.cell D.L),by(first|exact H.2.1|(unfold pqRA;(try dsimp only[Rn.goto,Rn.fin,Rn.note,Rn.Q0d,Rn.Q0h,Rn.setB,Rn.wake,Rn.did,Rn.waited]);simp only[ho,hl];first|(rw[if_pos (by decide)]<;>omega)|(rw[if_neg (by decide),if_pos (by decide)]<;>trivial)|(rw[if_neg (by decide),if_neg (by decide)]<;>omega)|(rw[if_neg (by decide)]<;>trivial)|trivial)),by(first|exact H.2.2|(unfold pqRB;(try dsimp only[Rn.goto,Rn.fin,Rn.note,Rn.Q0d,Rn.Q0h,Rn.setB,Rn.wake,Rn.did,Rn.waited]);simp only[ho,hl];first|(rw[if_pos (by decide)]<;>omega)|(rw[if_neg (by decide)]<;>trivial)))⟩
 ·have HL:=H.1
  have ok1:=ok
  obtain⟨ra,rb,_⟩:=ok1
  have eb:=H.2.2
  unfold pqRB at eb
  simp only[ho,hl]at eb
  rw[if_pos (by decide)]at eb
  have ep:Q6u s2.f.b=Q6u s1.f.b:=by unfold Q6u;omega
  have D:DSh c 0 (doA s1.L ⟨3,0,(Q6u s1.f.b),0,0⟩) (doA s2.L ⟨3,0,(Q6u s2.f.b),0,0⟩):=d_ad hc H.1 ok (j:=0) (by decide) ep
  have hO:=D.old
  have hR:=D.rng
  exact⟨by(repeat' first|with_reducible exact HL|with_reducible refine rl_goto ?_ _|with_reducible refine rl_fin ?_ _|with_reducible refine rl_note ?_ _ _|with_reducible refine rl_noted _ ?_|with_reducible refine rl_setA ?_ _ _|with_reducible refine rl_setB ?_ _ _|with_reducible refine rl_wake ?_ _|with_reducible refine rl_did ?_ D.kind D.cell D.L),by(first|exact H.2.1|(unfold pqRA;(try dsimp only[Rn.goto,Rn.fin,Rn.note,Rn.Q0d,Rn.Q0h,Rn.setB,Rn.wake,Rn.did,Rn.waited]);simp only[ho,hl];first|(rw[if_pos (by decide)]<;>omega)|(rw[if_neg (by decide),if_pos (by decide)]<;>trivial)|(rw[if_neg (by decide),if_neg (by decide)]<;>omega)|(rw[if_neg (by decide)]<;>trivial)|trivial)),by(first|exact H.2.2|(unfold pqRB;(try dsimp only[Rn.goto,Rn.fin,Rn.note,Rn.Q0d,Rn.Q0h,Rn.setB,Rn.wake,Rn.did,Rn.waited]);simp only[ho,hl];first|(rw[if_pos (by decide)]<;>omega)|(rw[if_neg (by decide)]<;>trivial)))⟩
 ·have HL:=H.1
  have ok1:=ok
  obtain⟨ra,rb,_⟩:=ok1
  have ea:=H.2.1
  unfold pqRA at ea
  simp only[ho,hl]at ea
  rw[if_pos (by decide)]at ea
  simp only[ho,if_true,show¬((6:Int)=7)by decide,if_false]
  have W:WaitSh (addT c) (Q0t s1.L s1.n s1.mode s1.task s1.f.st 1 (fun v=>v==s1.f.a)) (Q0t s2.L s2.n s2.mode s2.task s2.f.st 1 (fun v=>v==s2.f.a)):=w_of hc H.1 ok (j:=1) (by decide) (fun v hv=>by have:=hc.rng 0;rw[ea,k1,Bool.eq_iff_iff,beq_iff_eq,beq_iff_eq];omega)
  have es:=W.seen
  have ed:=W.done
  dsimp only[Q0P]
  rw[ed]
  rw[es]
  generalize (Q0t s1.L s1.n s1.mode s1.task s1.f.st 1 (fun v=>v==s1.f.a)).done=db
  generalize (Q0t s1.L s1.n s1.mode s1.task s1.f.st 1 (fun v=>v==s1.f.a)).seen=sb
  cases sb<;>cases db<;>simp only[if_true,Bool.false_eq_true,if_false]
  all_goals exact⟨by(repeat' first|with_reducible exact HL|with_reducible refine rl_goto ?_ _|with_reducible refine rl_fin ?_ _|with_reducible refine rl_note ?_ _ _|with_reducible refine rl_noted _ ?_|with_reducible refine rl_setA ?_ _ _|with_reducible refine rl_setB ?_ _ _|with_reducible refine rl_wake ?_ _|with_reducible refine rl_waited ?_ W.stage W.kind W.cell W.words),by(first|exact H.2.1|(unfold pqRA;(try dsimp only[Rn.goto,Rn.fin,Rn.note,Rn.Q0d,Rn.Q0h,Rn.setB,Rn.wake,Rn.did,Rn.waited]);simp only[ho,hl];first|(rw[if_pos (by decide)]<;>omega)|(rw[if_neg (by decide),if_pos (by decide)]<;>trivial)|(rw[if_neg (by decide),if_neg (by decide)]<;>omega)|(rw[if_neg (by decide)]<;>trivial)|trivial)),by(first|exact H.2.2|(unfold pqRB;(try dsimp only[Rn.goto,Rn.fin,Rn.note,Rn.Q0d,Rn.Q0h,Rn.setB,Rn.wake,Rn.did,Rn.waited]);simp only[ho,hl];first|(rw[if_pos (by decide)]<;>omega)|(rw[if_neg (by decide)]<;>trivial)))⟩
 ·simp only[ho,show¬((6:Int)=7)by decide,if_false]
  exact H
theorem pqTry_7_s(hc:AddC c)(k0:c 0%4=0)(k1:c 1=c 0)(k2:c 2=0)(k3:c 3%2=0){s1 s2:Rn}(H:RnSh (addT c) (pqRA c) (pqRB c) s1 s2)(ok:OkU s1)(ho:s1.f.op=7):RnSh (addT c) (pqRA c) (pqRB c) (Q1H s1) (Q1H s2):=by
 have HL:=H.1
 by_cases hw:wrap64 s1.f.line=0
 ·have D:DFar c (doA s1.L ⟨2,cellP s1.n 0 s1.task,0,0,0⟩) (doA s2.L ⟨2,cellP s1.n 0 s1.task,0,0,0⟩):=d_far hc H.1 (by omega)
  have hO:=congrArg Acc.old D.acc
  simp only[Q1S,hw,Q1H,Q0L,HL.line,HL.n,HL.task,if_true,if_false,Bool.false_eq_true,Q0H]
  exact⟨by(repeat' first|with_reducible exact HL|with_reducible refine rl_goto ?_ _|with_reducible refine rl_fin ?_ _|with_reducible refine rl_note ?_ _ _|with_reducible refine rl_noted _ ?_|with_reducible refine rl_setA ?_ _ _|with_reducible refine rl_setB ?_ _ _|with_reducible refine rl_wake ?_ _|with_reducible refine rl_did ?_ (congrArg Acc.kind D.acc) (congrArg Acc.cell D.acc) D.L),by(first|exact H.2.1|(unfold pqRA;(try dsimp only[Rn.goto,Rn.fin,Rn.note,Rn.Q0d,Rn.Q0h,Rn.setB,Rn.wake,Rn.did,Rn.waited]);simp only[ho];first|(rw[if_pos (by decide)]<;>omega)|(rw[if_neg (by decide),if_pos (by decide)]<;>trivial)|(rw[if_neg (by decide),if_neg (by decide)]<;>omega)|(rw[if_neg (by decide)]<;>trivial)|trivial)),by(first|exact H.2.2|(unfold pqRB;(try dsimp only[Rn.goto,Rn.fin,Rn.note,Rn.Q0d,Rn.Q0h,Rn.setB,Rn.wake,Rn.did,Rn.waited]);simp only[ho];first|(rw[if_pos (by decide)]<;>omega)|(rw[if_neg (by decide)]<;>trivial)))⟩
 have n0:=hw
 clear hw
 by_cases hw:wrap64 s1.f.line=1
 ·have D:DFar c (doA s1.L ⟨5,2,0,(s1.task+1)%4294967296,0⟩) (doA s2.L ⟨5,2,0,(s1.task+1)%4294967296,0⟩):=d_id H.1 (fun i hi=>(show i=2 by omega)▸k2)
  have hO:=congrArg Acc.old D.acc
  have ec:=cas_id D
  cases hb:Q7N s1.L 2 0 ((s1.task+1)%4294967296)<;>rw[hb]at ec<;>simp only[hb,ec,hw,Q1H,Q0L,HL.line,HL.n,HL.task,if_true,if_false,Bool.false_eq_true,Q0H,show¬((1:Int)=0)by decide]
  all_goals exact⟨by(repeat' first|with_reducible exact HL|with_reducible refine rl_goto ?_ _|with_reducible refine rl_fin ?_ _|with_reducible refine rl_note ?_ _ _|with_reducible refine rl_noted _ ?_|with_reducible refine rl_setA ?_ _ _|with_reducible refine rl_setB ?_ _ _|with_reducible refine rl_wake ?_ _|with_reducible refine rl_did ?_ (congrArg Acc.kind D.acc) (congrArg Acc.cell D.acc) D.L),by(first|exact H.2.1|(unfold pqRA;(try dsimp only[Rn.goto,Rn.fin,Rn.note,Rn.Q0d,Rn.Q0h,Rn.setB,Rn.wake,Rn.did,Rn.waited]);simp only[ho];first|(rw[if_pos (by decide)]<;>omega)|(rw[if_neg (by decide),if_pos (by decide)]<;>trivial)|(rw[if_neg (by decide),if_neg (by decide)]<;>omega)|(rw[if_neg (by decide)]<;>trivial)|trivial)),by(first|exact H.2.2|(unfold pqRB;(try dsimp only[Rn.goto,Rn.fin,Rn.note,Rn.Q0d,Rn.Q0h,Rn.setB,Rn.wake,Rn.did,Rn.waited]);simp only[ho];first|(rw[if_pos (by decide)]<;>omega)|(rw[if_neg (by decide)]<;>trivial)))⟩
 simp only[Q1H,Q0L,HL.line,HL.n,HL.task,if_true,if_false,Bool.false_eq_true,Q0H,n0,hw]
 exact H
theorem pqDecide_7_s(hc:AddC c)(k0:c 0%4=0)(k1:c 1=c 0)(k2:c 2=0)(k3:c 3%2=0){s1 s2:Rn}(H:RnSh (addT c) (pqRA c) (pqRB c) s1 s2)(ok:OkU s1)(ho:s1.f.op=7):RnSh (addT c) (pqRA c) (pqRB c) (Q0y s1) (Q0y s2):=by
 unfold Q0y
 rw[H.1.op,H.1.line]
 refine rn_ite (fun hl=> ?_) (fun n2=>rn_ite (fun hl=> ?_) (fun n3=>rn_ite (fun hl=> ?_) (fun n4=>rn_ite (fun hl=> ?_) (fun n5=>rn_ite (fun hl=> ?_) (fun n6=>rn_ite (fun hl=> ?_) (fun n7=>pqGive_7_s hc k0 k1 k2 k3 H ok ho))))))
 ·have HL:=H.1
  have ok1:=ok
  obtain⟨ra,rb,_⟩:=ok1
  have D:DSh c 0 (doA s1.L ⟨1,0,0,0,0⟩) (doA s2.L ⟨1,0,0,0,0⟩):=d_ld hc H.1 ok (j:=0) (by decide)
  have hO:=D.old
  have hR:=D.rng
  exact⟨by(repeat' first|with_reducible exact HL|with_reducible refine rl_goto ?_ _|with_reducible refine rl_fin ?_ _|with_reducible refine rl_note ?_ _ _|with_reducible refine rl_noted _ ?_|with_reducible refine rl_setA ?_ _ _|with_reducible refine rl_setB ?_ _ _|with_reducible refine rl_wake ?_ _|with_reducible refine rl_did ?_ D.kind D.cell D.L),by(first|exact H.2.1|(unfold pqRA;(try dsimp only[Rn.goto,Rn.fin,Rn.note,Rn.Q0d,Rn.Q0h,Rn.setB,Rn.wake,Rn.did,Rn.waited]);simp only[ho,hl];first|(rw[if_pos (by decide)]<;>omega)|(rw[if_neg (by decide),if_pos (by decide)]<;>trivial)|(rw[if_neg (by decide),if_neg (by decide)]<;>omega)|(rw[if_neg (by decide)]<;>trivial)|trivial)),by(first|exact H.2.2|(unfold pqRB;(try dsimp only[Rn.goto,Rn.fin,Rn.note,Rn.Q0d,Rn.Q0h,Rn.setB,Rn.wake,Rn.did,Rn.waited]);simp only[ho,hl];first|(rw[if_pos (by decide)]<;>omega)|(rw[if_neg (by decide)]<;>trivial)))⟩
 ·have HL:=H.1
  have ok1:=ok
  obtain⟨ra,rb,_⟩:=ok1
  have ea:=H.2.1
  unfold pqRA at ea
  simp only[ho,hl]at ea
  rw[if_pos (by decide)]at ea
  simp only[ho,if_true,show¬((6:Int)=7)by decide,if_false]
  have D:DSh c 1 (doA s1.L ⟨1,1,0,0,0⟩) (doA s2.L ⟨1,1,0,0,0⟩):=d_ld hc H.1 ok (j:=1) (by decide)
  have hO:=D.old
  have hR:=D.rng
  have e:Q1s s2.f.a (doA s2.L ⟨1,1,0,0,0⟩).1.old=Q1s s1.f.a (doA s1.L ⟨1,1,0,0,0⟩).1.old:=by rw[ea,hO,k1];exact ahead_sh ra hR
  dsimp only[Q1L]
  rw[e]
  refine rn_ite (fun h1=> ?_) (fun h1=> ?_)
  all_goals exact⟨by(repeat' first|with_reducible exact HL|with_reducible refine rl_goto ?_ _|with_reducible refine rl_fin ?_ _|with_reducible refine rl_note ?_ _ _|with_reducible refine rl_noted _ ?_|with_reducible refine rl_setA ?_ _ _|with_reducible refine rl_setB ?_ _ _|with_reducible refine rl_wake ?_ _|with_reducible refine rl_did ?_ D.kind D.cell D.L),by(first|exact H.2.1|(unfold pqRA;(try dsimp only[Rn.goto,Rn.fin,Rn.note,Rn.Q0d,Rn.Q0h,Rn.setB,Rn.wake,Rn.did,Rn.waited]);simp only[ho,hl];first|(rw[if_pos (by decide)]<;>omega)|(rw[if_neg (by decide),if_pos (by decide)]<;>trivial)|(rw[if_neg (by decide),if_neg (by decide)]<;>omega)|(rw[if_neg (by decide)]<;>trivial)|trivial)),by(first|exact H.2.2|(unfold pqRB;(try dsimp only[Rn.goto,Rn.fin,Rn.note,Rn.Q0d,Rn.Q0h,Rn.setB,Rn.wake,Rn.did,Rn.waited]);simp only[ho,hl];first|(rw[if_pos (by decide)]<;>omega)|(rw[if_neg (by decide)]<;>trivial)))⟩
 ·have HL:=H.1
  have ok1:=ok
  obtain⟨ra,rb,_⟩:=ok1
  have D:DSh c 3 (doA s1.L ⟨1,3,0,0,0⟩) (doA s2.L ⟨1,3,0,0,0⟩):=d_ld hc H.1 ok (j:=3) (by decide)
  have hO:=D.old
  have hR:=D.rng
  exact⟨by(repeat' first|with_reducible exact HL|with_reducible refine rl_goto ?_ _|with_reducible refine rl_fin ?_ _|with_reducible refine rl_note ?_ _ _|with_reducible refine rl_noted _ ?_|with_reducible refine rl_setA ?_ _ _|with_reducible refine rl_setB ?_ _ _|with_reducible refine rl_wake ?_ _|with_reducible refine rl_did ?_ D.kind D.cell D.L),by(first|exact H.2.1|(unfold pqRA;(try dsimp only[Rn.goto,Rn.fin,Rn.note,Rn.Q0d,Rn.Q0h,Rn.setB,Rn.wake,Rn.did,Rn.waited]);simp only[ho,hl];first|(rw[if_pos (by decide)]<;>omega)|(rw[if_neg (by decide),if_pos (by decide)]<;>trivial)|(rw[if_neg (by decide),if_neg (by decide)]<;>omega)|(rw[if_neg (by decide)]<;>trivial)|trivial)),by(first|exact H.2.2|(unfold pqRB;(try dsimp only[Rn.goto,Rn.fin,Rn.note,Rn.Q0d,Rn.Q0h,Rn.setB,Rn.wake,Rn.did,Rn.waited]);simp only[ho,hl];first|(rw[if_pos (by decide)]<;>omega)|(rw[if_neg (by decide)]<;>trivial)))⟩
 ·have HL:=H.1
  have ok1:=ok
  obtain⟨ra,rb,_⟩:=ok1
  have eb:=H.2.2
  unfold pqRB at eb
  simp only[ho,hl]at eb
  rw[if_pos (by decide)]at eb
  have ep:Q6u s2.f.b=Q6u s1.f.b:=by unfold Q6u;omega
  have D:DSh c 0 (doA s1.L ⟨3,0,(Q6u s1.f.b),0,0⟩) (doA s2.L ⟨3,0,(Q6u s2.f.b),0,0⟩):=d_ad hc H.1 ok (j:=0) (by decide) ep
  have hO:=D.old
  have hR:=D.rng
  exact⟨by(repeat' first|with_reducible exact HL|with_reducible refine rl_goto ?_ _|with_reducible refine rl_fin ?_ _|with_reducible refine rl_note ?_ _ _|with_reducible refine rl_noted _ ?_|with_reducible refine rl_setA ?_ _ _|with_reducible refine rl_setB ?_ _ _|with_reducible refine rl_wake ?_ _|with_reducible refine rl_did ?_ D.kind D.cell D.L),by(first|exact H.2.1|(unfold pqRA;(try dsimp only[Rn.goto,Rn.fin,Rn.note,Rn.Q0d,Rn.Q0h,Rn.setB,Rn.wake,Rn.did,Rn.waited]);simp only[ho,hl];first|(rw[if_pos (by decide)]<;>omega)|(rw[if_neg (by decide),if_pos (by decide)]<;>trivial)|(rw[if_neg (by decide),if_neg (by decide)]<;>omega)|(rw[if_neg (by decide)]<;>trivial)|trivial)),by(first|exact H.2.2|(unfold pqRB;(try dsimp only[Rn.goto,Rn.fin,Rn.note,Rn.Q0d,Rn.Q0h,Rn.setB,Rn.wake,Rn.did,Rn.waited]);simp only[ho,hl];first|(rw[if_pos (by decide)]<;>omega)|(rw[if_neg (by decide)]<;>trivial)))⟩
 ·have HL:=H.1
  have ok1:=ok
  obtain⟨ra,rb,_⟩:=ok1
  have ea:=H.2.1
  unfold pqRA at ea
  simp only[ho,hl]at ea
  rw[if_pos (by decide)]at ea
  simp only[ho,if_true,show¬((6:Int)=7)by decide,if_false]
  have W:WaitSh (addT c) (Q0t s1.L s1.n s1.mode s1.task s1.f.st 1 (fun v=>v==((s1.f.a-256)%4294967296))) (Q0t s2.L s2.n s2.mode s2.task s2.f.st 1 (fun v=>v==((s2.f.a-256)%4294967296))):=w_of hc H.1 ok (j:=1) (by decide) (fun v hv=>by have:=hc.rng 0;rw[ea,k1,Bool.eq_iff_iff,beq_iff_eq,beq_iff_eq];omega)
  have es:=W.seen
  have ed:=W.done
  dsimp only[Q0O]
  rw[ed]
  rw[es]
  generalize (Q0t s1.L s1.n s1.mode s1.task s1.f.st 1 (fun v=>v==((s1.f.a-256)%4294967296))).done=db
  generalize (Q0t s1.L s1.n s1.mode s1.task s1.f.st 1 (fun v=>v==((s1.f.a-256)%4294967296))).seen=sb
  cases sb<;>cases db<;>simp only[if_true,Bool.false_eq_true,if_false]
  all_goals exact⟨by(repeat' first|with_reducible exact HL|with_reducible refine rl_goto ?_ _|with_reducible refine rl_fin ?_ _|with_reducible refine rl_note ?_ _ _|with_reducible refine rl_noted _ ?_|with_reducible refine rl_setA ?_ _ _|with_reducible refine rl_setB ?_ _ _|with_reducible refine rl_wake ?_ _|with_reducible refine rl_waited ?_ W.stage W.kind W.cell W.words),by(first|exact H.2.1|(unfold pqRA;(try dsimp only[Rn.goto,Rn.fin,Rn.note,Rn.Q0d,Rn.Q0h,Rn.setB,Rn.wake,Rn.did,Rn.waited]);simp only[ho,hl];first|(rw[if_pos (by decide)]<;>omega)|(rw[if_neg (by decide),if_pos (by decide)]<;>trivial)|(rw[if_neg (by decide),if_neg (by decide)]<;>omega)|(rw[if_neg (by decide)]<;>trivial)|trivial)),by(first|exact H.2.2|(unfold pqRB;(try dsimp only[Rn.goto,Rn.fin,Rn.note,Rn.Q0d,Rn.Q0h,Rn.setB,Rn.wake,Rn.did,Rn.waited]);simp only[ho,hl];first|(rw[if_pos (by decide)]<;>omega)|(rw[if_neg (by decide)]<;>trivial)))⟩
 ·have HL:=H.1
  have ok1:=ok
  obtain⟨ra,rb,_⟩:=ok1
  have D:DSh c 1 (doA s1.L ⟨3,1,256,0,0⟩) (doA s2.L ⟨3,1,256,0,0⟩):=d_ad hc H.1 ok (j:=1) (by decide) rfl
  have hO:=D.old
  have hR:=D.rng
  simp only[ho,if_true]
  exact⟨by(repeat' first|with_reducible exact HL|with_reducible refine rl_goto ?_ _|with_reducible refine rl_fin ?_ _|with_reducible refine rl_note ?_ _ _|with_reducible refine rl_noted _ ?_|with_reducible refine rl_setA ?_ _ _|with_reducible refine rl_setB ?_ _ _|with_reducible refine rl_wake ?_ _|with_reducible refine rl_did ?_ D.kind D.cell D.L),by(first|exact H.2.1|(unfold pqRA;(try dsimp only[Rn.goto,Rn.fin,Rn.note,Rn.Q0d,Rn.Q0h,Rn.setB,Rn.wake,Rn.did,Rn.waited]);simp only[ho,hl];first|(rw[if_pos (by decide)]<;>omega)|(rw[if_neg (by decide),if_pos (by decide)]<;>trivial)|(rw[if_neg (by decide),if_neg (by decide)]<;>omega)|(rw[if_neg (by decide)]<;>trivial)|trivial)),by(first|exact H.2.2|(unfold pqRB;(try dsimp only[Rn.goto,Rn.fin,Rn.note,Rn.Q0d,Rn.Q0h,Rn.setB,Rn.wake,Rn.did,Rn.waited]);simp only[ho,hl];first|(rw[if_pos (by decide)]<;>omega)|(rw[if_neg (by decide)]<;>trivial)))⟩
theorem pq_sh(hc:AddC c)(k0:c 0%4=0)(k1:c 1=c 0)(k2:c 2=0)(k3:c 3%2=0):LineSh (addT c) (pqRA c) (pqRB c) OkU pqA:=by
 intro s1 s2 H hn ok
 unfold pqA
 rw[H.1.op,H.1.line]
 refine rn_ite (fun h=>qpfR10_s hc k0 k1 k2 k3 H ok h.1 h.2) (fun _=> ?_)
 refine rn_ite (fun h=>qpfR11_s hc k0 k1 k2 k3 H ok h.1 h.2) (fun _=> ?_)
 refine rn_ite (fun h=>qpfR20_s hc k0 k1 k2 k3 H ok h.1 h.2) (fun _=> ?_)
 refine rn_ite (fun h=>qpfR50_s hc k0 k1 k2 k3 H ok h.1 h.2) (fun _=> ?_)
 refine rn_ite (fun h=>qpfR51_s hc k0 k1 k2 k3 H ok h.1 h.2) (fun _=> ?_)
 refine rn_ite (fun h=>pqLock_s hc k0 k1 k2 k3 H ok h) (fun _=> ?_)
 refine rn_ite (fun h=>pqLeave_4_s hc k0 k1 k2 k3 H ok h) (fun _=> ?_)
 refine rn_ite (fun h=>pqLeave_8_s hc k0 k1 k2 k3 H ok h) (fun _=> ?_)
 refine rn_ite (fun h=>rn_ite (fun _=>pqTry_6_s hc k0 k1 k2 k3 H ok h) (fun _=>pqDecide_6_s hc k0 k1 k2 k3 H ok h)) (fun _=> ?_)
 refine rn_ite (fun h=>rn_ite (fun _=>pqTry_7_s hc k0 k1 k2 k3 H ok h) (fun _=>pqDecide_7_s hc k0 k1 k2 k3 H ok h)) (fun _=> ?_)
 exact H
end
end Go.Proofs.YthnimpkoidablaaGreat.Z
