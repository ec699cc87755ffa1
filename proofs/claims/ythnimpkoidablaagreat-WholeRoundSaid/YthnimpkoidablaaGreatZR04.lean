import Derived.Test.YthnimpkoidablaaGreatZR02
set_option linter.unusedVariables false
set_option linter.unusedSimpArgs false
set_option maxHeartbeats 1000000
namespace Go.Proofs.YthnimpkoidablaaGreat.Z
open Go.RowKit
def pfRA(c:Nat→Int)(op line a1 a2:Int):Prop:=if((op=1∨op=5)∧line=1)∨(op=3∧line=4)∨((op=6∨op=7)∧(line=4∨line=7))then a2=(a1+c 0)%4294967296 else if(op=3∧line=1)∨((op=6∨op=7)∧(line=1∨line=2))then a2=(a1+c 2)%4294967296 else True
def pfRB(c:Nat→Int)(op line a1 a2:Int):Prop:=if(op=3∧line=3)∨((op=4∨op=8)∧(line=1∨line=2))∨((op=6∨op=7)∧line=6)then a2=(a1+c 4)%4294967296 else True
section
variable {c:Nat→Int}
theorem pfR10_s(hc:AddC c)(k0:c 0%4=0)(k1:c 1=c 0)(k3:c 3=c 2)(k4:c 4%2=0){s1 s2:Rn}(H:RnSh (addT c) (pfRA c) (pfRB c) s1 s2)(ok:OkU s1)(h:s1.f.op=1∧s1.f.line=0):RnSh (addT c) (pfRA c) (pfRB c) (X5t s1) (X5t s2):=by
 obtain⟨ho,hl⟩:=h
 have HL:=H.1
 have ok1:=ok
 obtain⟨ra,rb,_⟩:=ok1
 have D:DSh c 0 (doA s1.L ⟨3,0,256,0,0⟩) (doA s2.L ⟨3,0,256,0,0⟩):=d_ad hc H.1 ok (j:=0) (by decide) rfl
 have hO:=D.old
 have hR:=D.rng
 dsimp only[X5t]
 rw[show(doA s2.L ⟨3,0,256,0,0⟩).1.old%4=(doA s1.L ⟨3,0,256,0,0⟩).1.old%4 by omega]
 refine rn_ite (fun h1=> ?_) (fun h1=> ?_)
 all_goals exact⟨by(repeat' first|with_reducible exact HL|with_reducible refine rl_goto ?_ _|with_reducible refine rl_fin ?_ _|with_reducible refine rl_note ?_ _ _|with_reducible refine rl_noted _ ?_|with_reducible refine rl_setA ?_ _ _|with_reducible refine rl_setB ?_ _ _|with_reducible refine rl_wake ?_ _|with_reducible refine rl_did ?_ D.kind D.cell D.L),by(unfold pfRA;(try dsimp only[Rn.goto,Rn.fin,Rn.note,Rn.Q0d,Rn.Q0h,Rn.setB,Rn.wake,Rn.did,Rn.waited]);simp only[ho,hl];first|(rw[if_pos (by decide)];omega)|(rw[if_neg (by decide),if_pos (by decide)];omega)|(rw[if_neg (by decide),if_neg (by decide)];trivial)),by(unfold pfRB;(try dsimp only[Rn.goto,Rn.fin,Rn.note,Rn.Q0d,Rn.Q0h,Rn.setB,Rn.wake,Rn.did,Rn.waited]);simp only[ho,hl];first|(rw[if_pos (by decide)];omega)|(rw[if_neg (by decide)];trivial))⟩
theorem pfR50_s(hc:AddC c)(k0:c 0%4=0)(k1:c 1=c 0)(k3:c 3=c 2)(k4:c 4%2=0){s1 s2:Rn}(H:RnSh (addT c) (pfRA c) (pfRB c) s1 s2)(ok:OkU s1)(h:s1.f.op=5∧s1.f.line=0):RnSh (addT c) (pfRA c) (pfRB c) (X5o s1) (X5o s2):=by
 obtain⟨ho,hl⟩:=h
 have HL:=H.1
 have ok1:=ok
 obtain⟨ra,rb,_⟩:=ok1
 have D:DSh c 0 (doA s1.L ⟨1,0,0,0,0⟩) (doA s2.L ⟨1,0,0,0,0⟩):=d_ld hc H.1 ok (j:=0) (by decide)
 have hO:=D.old
 have hR:=D.rng
 dsimp only[X5o]
 rw[show(doA s2.L ⟨1,0,0,0,0⟩).1.old%4=(doA s1.L ⟨1,0,0,0,0⟩).1.old%4 by omega]
 refine rn_ite (fun h1=> ?_) (fun h1=> ?_)
 all_goals exact⟨by(repeat' first|with_reducible exact HL|with_reducible refine rl_goto ?_ _|with_reducible refine rl_fin ?_ _|with_reducible refine rl_note ?_ _ _|with_reducible refine rl_noted _ ?_|with_reducible refine rl_setA ?_ _ _|with_reducible refine rl_setB ?_ _ _|with_reducible refine rl_wake ?_ _|with_reducible refine rl_did ?_ D.kind D.cell D.L),by(unfold pfRA;(try dsimp only[Rn.goto,Rn.fin,Rn.note,Rn.Q0d,Rn.Q0h,Rn.setB,Rn.wake,Rn.did,Rn.waited]);simp only[ho,hl];first|(rw[if_pos (by decide)];omega)|(rw[if_neg (by decide),if_pos (by decide)];omega)|(rw[if_neg (by decide),if_neg (by decide)];trivial)),by(unfold pfRB;(try dsimp only[Rn.goto,Rn.fin,Rn.note,Rn.Q0d,Rn.Q0h,Rn.setB,Rn.wake,Rn.did,Rn.waited]);simp only[ho,hl];first|(rw[if_pos (by decide)];omega)|(rw[if_neg (by decide)];trivial))⟩
theorem pfR11_s(hc:AddC c)(k0:c 0%4=0)(k1:c 1=c 0)(k3:c 3=c 2)(k4:c 4%2=0){s1 s2:Rn}(H:RnSh (addT c) (pfRA c) (pfRB c) s1 s2)(ok:OkU s1)(h:s1.f.op=1∧s1.f.line=1):RnSh (addT c) (pfRA c) (pfRB c) (X2x s1) (X2x s2):=by
 obtain⟨ho,hl⟩:=h
 have HL:=H.1
 have ok1:=ok
 obtain⟨ra,rb,_⟩:=ok1
 have ea:=H.2.1
 unfold pfRA at ea
 simp only[ho,hl]at ea
 first|rw[if_pos (by decide)]at ea|rw[if_neg (by decide),if_pos (by decide)]at ea
 have W:WaitSh (addT c) (Q0t s1.L s1.n s1.mode s1.task s1.f.st 0 (fun v=>v%4 !=s1.f.a%4)) (Q0t s2.L s2.n s2.mode s2.task s2.f.st 0 (fun v=>v%4 !=s2.f.a%4)):=w_of hc H.1 ok (j:=0) (by decide) (fun v hv=>by have e:s2.f.a=(s1.f.a+c 0)%4294967296:=(by omega);rw[show(v+c 0)%4294967296%4=v%4 by omega,show s2.f.a%4=s1.f.a%4 by omega])
 have es:=W.seen
 have ed:=W.done
 dsimp only[X2x]
 rw[ed]
 rw[es]
 generalize (Q0t s1.L s1.n s1.mode s1.task s1.f.st 0 (fun v=>v%4 !=s1.f.a%4)).done=db
 generalize (Q0t s1.L s1.n s1.mode s1.task s1.f.st 0 (fun v=>v%4 !=s1.f.a%4)).seen=sb
 cases sb<;>cases db<;>simp only[if_true,Bool.false_eq_true,if_false]
 all_goals exact⟨by(repeat' first|with_reducible exact HL|with_reducible refine rl_goto ?_ _|with_reducible refine rl_fin ?_ _|with_reducible refine rl_note ?_ _ _|with_reducible refine rl_noted _ ?_|with_reducible refine rl_setA ?_ _ _|with_reducible refine rl_setB ?_ _ _|with_reducible refine rl_wake ?_ _|with_reducible refine rl_waited ?_ W.stage W.kind W.cell W.words),by(unfold pfRA;(try dsimp only[Rn.goto,Rn.fin,Rn.note,Rn.Q0d,Rn.Q0h,Rn.setB,Rn.wake,Rn.did,Rn.waited]);simp only[ho,hl];first|(rw[if_pos (by decide)];omega)|(rw[if_neg (by decide),if_pos (by decide)];omega)|(rw[if_neg (by decide),if_neg (by decide)];trivial)),by(unfold pfRB;(try dsimp only[Rn.goto,Rn.fin,Rn.note,Rn.Q0d,Rn.Q0h,Rn.setB,Rn.wake,Rn.did,Rn.waited]);simp only[ho,hl];first|(rw[if_pos (by decide)];omega)|(rw[if_neg (by decide)];trivial))⟩
theorem pfR20_s(hc:AddC c)(k0:c 0%4=0)(k1:c 1=c 0)(k3:c 3=c 2)(k4:c 4%2=0){s1 s2:Rn}(H:RnSh (addT c) (pfRA c) (pfRB c) s1 s2)(ok:OkU s1)(h:s1.f.op=2∧s1.f.line=0):RnSh (addT c) (pfRA c) (pfRB c) (X5q s1) (X5q s2):=by
 obtain⟨ho,hl⟩:=h
 have HL:=H.1
 have ok1:=ok
 obtain⟨ra,rb,_⟩:=ok1
 have D:DSh c 1 (doA s1.L ⟨3,1,256,0,0⟩) (doA s2.L ⟨3,1,256,0,0⟩):=d_ad hc H.1 ok (j:=1) (by decide) rfl
 have hO:=D.old
 have hR:=D.rng
 dsimp only[X5q]
 exact⟨by(repeat' first|with_reducible exact HL|with_reducible refine rl_goto ?_ _|with_reducible refine rl_fin ?_ _|with_reducible refine rl_note ?_ _ _|with_reducible refine rl_noted _ ?_|with_reducible refine rl_setA ?_ _ _|with_reducible refine rl_setB ?_ _ _|with_reducible refine rl_wake ?_ _|with_reducible refine rl_did ?_ D.kind D.cell D.L),by(unfold pfRA;(try dsimp only[Rn.goto,Rn.fin,Rn.note,Rn.Q0d,Rn.Q0h,Rn.setB,Rn.wake,Rn.did,Rn.waited]);simp only[ho,hl];first|(rw[if_pos (by decide)];omega)|(rw[if_neg (by decide),if_pos (by decide)];omega)|(rw[if_neg (by decide),if_neg (by decide)];trivial)),by(unfold pfRB;(try dsimp only[Rn.goto,Rn.fin,Rn.note,Rn.Q0d,Rn.Q0h,Rn.setB,Rn.wake,Rn.did,Rn.waited]);simp only[ho,hl];first|(rw[if_pos (by decide)];omega)|(rw[if_neg (by decide)];trivial))⟩
theorem pfR51_s(hc:AddC c)(k0:c 0%4=0)(k1:c 1=c 0)(k3:c 3=c 2)(k4:c 4%2=0){s1 s2:Rn}(H:RnSh (addT c) (pfRA c) (pfRB c) s1 s2)(ok:OkU s1)(h:s1.f.op=5∧s1.f.line=1):RnSh (addT c) (pfRA c) (pfRB c) (X5m s1) (X5m s2):=by
 obtain⟨ho,hl⟩:=h
 have HL:=H.1
 have ok1:=ok
 obtain⟨ra,rb,_⟩:=ok1
 have ea:=H.2.1
 unfold pfRA at ea
 simp only[ho,hl]at ea
 first|rw[if_pos (by decide)]at ea|rw[if_neg (by decide),if_pos (by decide)]at ea
 obtain⟨D,ec⟩:=d_cas hc H.1 ok (j:=0) (by decide) (x:=s1.f.a) (y:=((s1.f.a+256)%4294967296)) (x':=s2.f.a) (y':=((s2.f.a+256)%4294967296)) (by omega) (by omega) (by omega) (by omega)
 have D:DSh c 0 (doA s1.L ⟨5,0,s1.f.a,((s1.f.a+256)%4294967296),0⟩) (doA s2.L ⟨5,0,s2.f.a,((s2.f.a+256)%4294967296),0⟩):=D
 have ec:Q7N s2.L 0 s2.f.a ((s2.f.a+256)%4294967296)=Q7N s1.L 0 s1.f.a ((s1.f.a+256)%4294967296):=ec
 cases hb:Q7N s1.L 0 s1.f.a ((s1.f.a+256)%4294967296)<;>rw[hb]at ec<;>simp only[X5m,hb,ec,if_true,Bool.false_eq_true,if_false]
 all_goals exact⟨by(repeat' first|with_reducible exact HL|with_reducible refine rl_goto ?_ _|with_reducible refine rl_fin ?_ _|with_reducible refine rl_note ?_ _ _|with_reducible refine rl_noted _ ?_|with_reducible refine rl_setA ?_ _ _|with_reducible refine rl_setB ?_ _ _|with_reducible refine rl_wake ?_ _|with_reducible refine rl_did ?_ D.kind D.cell D.L),by(unfold pfRA;(try dsimp only[Rn.goto,Rn.fin,Rn.note,Rn.Q0d,Rn.Q0h,Rn.setB,Rn.wake,Rn.did,Rn.waited]);simp only[ho,hl];first|(rw[if_pos (by decide)];omega)|(rw[if_neg (by decide),if_pos (by decide)];omega)|(rw[if_neg (by decide),if_neg (by decide)];trivial)),by(unfold pfRB;(try dsimp only[Rn.goto,Rn.fin,Rn.note,Rn.Q0d,Rn.Q0h,Rn.setB,Rn.wake,Rn.did,Rn.waited]);simp only[ho,hl];first|(rw[if_pos (by decide)];omega)|(rw[if_neg (by decide)];trivial))⟩
theorem pf30_s(hc:AddC c)(k0:c 0%4=0)(k1:c 1=c 0)(k3:c 3=c 2)(k4:c 4%2=0){s1 s2:Rn}(H:RnSh (addT c) (pfRA c) (pfRB c) s1 s2)(ok:OkU s1)(h:s1.f.op=3∧s1.f.line=0):RnSh (addT c) (pfRA c) (pfRB c) (Y5x s1) (Y5x s2):=by
 obtain⟨ho,hl⟩:=h
 have HL:=H.1
 have ok1:=ok
 obtain⟨ra,rb,_⟩:=ok1
 have D:DSh c 2 (doA s1.L ⟨3,2,1,0,0⟩) (doA s2.L ⟨3,2,1,0,0⟩):=d_ad hc H.1 ok (j:=2) (by decide) rfl
 have hO:=D.old
 have hR:=D.rng
 dsimp only[Y5x]
 exact⟨by(repeat' first|with_reducible exact HL|with_reducible refine rl_goto ?_ _|with_reducible refine rl_fin ?_ _|with_reducible refine rl_note ?_ _ _|with_reducible refine rl_noted _ ?_|with_reducible refine rl_setA ?_ _ _|with_reducible refine rl_setB ?_ _ _|with_reducible refine rl_wake ?_ _|with_reducible refine rl_did ?_ D.kind D.cell D.L),by(unfold pfRA;(try dsimp only[Rn.goto,Rn.fin,Rn.note,Rn.Q0d,Rn.Q0h,Rn.setB,Rn.wake,Rn.did,Rn.waited]);simp only[ho,hl];first|(rw[if_pos (by decide)];omega)|(rw[if_neg (by decide),if_pos (by decide)];omega)|(rw[if_neg (by decide),if_neg (by decide)];trivial)),by(unfold pfRB;(try dsimp only[Rn.goto,Rn.fin,Rn.note,Rn.Q0d,Rn.Q0h,Rn.setB,Rn.wake,Rn.did,Rn.waited]);simp only[ho,hl];first|(rw[if_pos (by decide)];omega)|(rw[if_neg (by decide)];trivial))⟩
theorem pf31_s(hc:AddC c)(k0:c 0%4=0)(k1:c 1=c 0)(k3:c 3=c 2)(k4:c 4%2=0){s1 s2:Rn}(H:RnSh (addT c) (pfRA c) (pfRB c) s1 s2)(ok:OkU s1)(h:s1.f.op=3∧s1.f.line=1):RnSh (addT c) (pfRA c) (pfRB c) (Y3W s1) (Y3W s2):=by
 obtain⟨ho,hl⟩:=h
 have HL:=H.1
 have ok1:=ok
 obtain⟨ra,rb,_⟩:=ok1
 have ea:=H.2.1
 unfold pfRA at ea
 simp only[ho,hl]at ea
 first|rw[if_pos (by decide)]at ea|rw[if_neg (by decide),if_pos (by decide)]at ea
 have W:WaitSh (addT c) (Q0t s1.L s1.n s1.mode s1.task s1.f.st 3 (fun v=>v==s1.f.a)) (Q0t s2.L s2.n s2.mode s2.task s2.f.st 3 (fun v=>v==s2.f.a)):=w_of hc H.1 ok (j:=3) (by decide) (fun v hv=>by have e:s2.f.a=(s1.f.a+c 2)%4294967296:=(by omega);have:=hc.rng 2;rw[e,k3,Bool.eq_iff_iff,beq_iff_eq,beq_iff_eq];omega)
 have es:=W.seen
 have ed:=W.done
 dsimp only[Y3W]
 rw[ed]
 generalize (Q0t s1.L s1.n s1.mode s1.task s1.f.st 3 (fun v=>v==s1.f.a)).done=db
 cases db<;>simp only[if_true,Bool.false_eq_true,if_false]
 all_goals exact⟨by(repeat' first|with_reducible exact HL|with_reducible refine rl_goto ?_ _|with_reducible refine rl_fin ?_ _|with_reducible refine rl_note ?_ _ _|with_reducible refine rl_noted _ ?_|with_reducible refine rl_setA ?_ _ _|with_reducible refine rl_setB ?_ _ _|with_reducible refine rl_wake ?_ _|with_reducible refine rl_waited ?_ W.stage W.kind W.cell W.words),by(unfold pfRA;(try dsimp only[Rn.goto,Rn.fin,Rn.note,Rn.Q0d,Rn.Q0h,Rn.setB,Rn.wake,Rn.did,Rn.waited]);simp only[ho,hl];first|(rw[if_pos (by decide)];omega)|(rw[if_neg (by decide),if_pos (by decide)];omega)|(rw[if_neg (by decide),if_neg (by decide)];trivial)),by(unfold pfRB;(try dsimp only[Rn.goto,Rn.fin,Rn.note,Rn.Q0d,Rn.Q0h,Rn.setB,Rn.wake,Rn.did,Rn.waited]);simp only[ho,hl];first|(rw[if_pos (by decide)];omega)|(rw[if_neg (by decide)];trivial))⟩
theorem pf34_s(hc:AddC c)(k0:c 0%4=0)(k1:c 1=c 0)(k3:c 3=c 2)(k4:c 4%2=0){s1 s2:Rn}(H:RnSh (addT c) (pfRA c) (pfRB c) s1 s2)(ok:OkU s1)(h:s1.f.op=3∧s1.f.line=4):RnSh (addT c) (pfRA c) (pfRB c) (Y3V s1) (Y3V s2):=by
 obtain⟨ho,hl⟩:=h
 have HL:=H.1
 have ok1:=ok
 obtain⟨ra,rb,_⟩:=ok1
 have ea:=H.2.1
 unfold pfRA at ea
 simp only[ho,hl]at ea
 first|rw[if_pos (by decide)]at ea|rw[if_neg (by decide),if_pos (by decide)]at ea
 have W:WaitSh (addT c) (Q0t s1.L s1.n s1.mode s1.task s1.f.st 1 (fun v=>v==s1.f.a)) (Q0t s2.L s2.n s2.mode s2.task s2.f.st 1 (fun v=>v==s2.f.a)):=w_of hc H.1 ok (j:=1) (by decide) (fun v hv=>by have e:s2.f.a=(s1.f.a+c 0)%4294967296:=(by omega);have:=hc.rng 0;rw[e,k1,Bool.eq_iff_iff,beq_iff_eq,beq_iff_eq];omega)
 have es:=W.seen
 have ed:=W.done
 dsimp only[Y3V]
 rw[ed]
 rw[es]
 generalize (Q0t s1.L s1.n s1.mode s1.task s1.f.st 1 (fun v=>v==s1.f.a)).done=db
 generalize (Q0t s1.L s1.n s1.mode s1.task s1.f.st 1 (fun v=>v==s1.f.a)).seen=sb
 cases sb<;>cases db<;>simp only[if_true,Bool.false_eq_true,if_false]
 all_goals exact⟨by(repeat' first|with_reducible exact HL|with_reducible refine rl_goto ?_ _|with_reducible refine rl_fin ?_ _|with_reducible refine rl_note ?_ _ _|with_reducible refine rl_noted _ ?_|with_reducible refine rl_setA ?_ _ _|with_reducible refine rl_setB ?_ _ _|with_reducible refine rl_wake ?_ _|with_reducible refine rl_waited ?_ W.stage W.kind W.cell W.words),by(unfold pfRA;(try dsimp only[Rn.goto,Rn.fin,Rn.note,Rn.Q0d,Rn.Q0h,Rn.setB,Rn.wake,Rn.did,Rn.waited]);simp only[ho,hl];first|(rw[if_pos (by decide)];omega)|(rw[if_neg (by decide),if_pos (by decide)];omega)|(rw[if_neg (by decide),if_neg (by decide)];trivial)),by(unfold pfRB;(try dsimp only[Rn.goto,Rn.fin,Rn.note,Rn.Q0d,Rn.Q0h,Rn.setB,Rn.wake,Rn.did,Rn.waited]);simp only[ho,hl];first|(rw[if_pos (by decide)];omega)|(rw[if_neg (by decide)];trivial))⟩
theorem pf32_s(hc:AddC c)(k0:c 0%4=0)(k1:c 1=c 0)(k3:c 3=c 2)(k4:c 4%2=0){s1 s2:Rn}(H:RnSh (addT c) (pfRA c) (pfRB c) s1 s2)(ok:OkU s1)(h:s1.f.op=3∧s1.f.line=2):RnSh (addT c) (pfRA c) (pfRB c) (Y5w s1) (Y5w s2):=by
 obtain⟨ho,hl⟩:=h
 have HL:=H.1
 have ok1:=ok
 obtain⟨ra,rb,_⟩:=ok1
 have D:DSh c 4 (doA s1.L ⟨1,4,0,0,0⟩) (doA s2.L ⟨1,4,0,0,0⟩):=d_ld hc H.1 ok (j:=4) (by decide)
 have hO:=D.old
 have hR:=D.rng
 dsimp only[Y5w]
 exact⟨by(repeat' first|with_reducible exact HL|with_reducible refine rl_goto ?_ _|with_reducible refine rl_fin ?_ _|with_reducible refine rl_note ?_ _ _|with_reducible refine rl_noted _ ?_|with_reducible refine rl_setA ?_ _ _|with_reducible refine rl_setB ?_ _ _|with_reducible refine rl_wake ?_ _|with_reducible refine rl_did ?_ D.kind D.cell D.L),by(unfold pfRA;(try dsimp only[Rn.goto,Rn.fin,Rn.note,Rn.Q0d,Rn.Q0h,Rn.setB,Rn.wake,Rn.did,Rn.waited]);simp only[ho,hl];first|(rw[if_pos (by decide)];omega)|(rw[if_neg (by decide),if_pos (by decide)];omega)|(rw[if_neg (by decide),if_neg (by decide)];trivial)),by(unfold pfRB;(try dsimp only[Rn.goto,Rn.fin,Rn.note,Rn.Q0d,Rn.Q0h,Rn.setB,Rn.wake,Rn.did,Rn.waited]);simp only[ho,hl];first|(rw[if_pos (by decide)];omega)|(rw[if_neg (by decide)];trivial))⟩
theorem pf40_s(hc:AddC c)(k0:c 0%4=0)(k1:c 1=c 0)(k3:c 3=c 2)(k4:c 4%2=0){s1 s2:Rn}(H:RnSh (addT c) (pfRA c) (pfRB c) s1 s2)(ok:OkU s1)(h:s1.f.op=4∧s1.f.line=0):RnSh (addT c) (pfRA c) (pfRB c) (Y5u s1) (Y5u s2):=by
 obtain⟨ho,hl⟩:=h
 have HL:=H.1
 have ok1:=ok
 obtain⟨ra,rb,_⟩:=ok1
 have D:DSh c 4 (doA s1.L ⟨1,4,0,0,0⟩) (doA s2.L ⟨1,4,0,0,0⟩):=d_ld hc H.1 ok (j:=4) (by decide)
 have hO:=D.old
 have hR:=D.rng
 dsimp only[Y5u]
 exact⟨by(repeat' first|with_reducible exact HL|with_reducible refine rl_goto ?_ _|with_reducible refine rl_fin ?_ _|with_reducible refine rl_note ?_ _ _|with_reducible refine rl_noted _ ?_|with_reducible refine rl_setA ?_ _ _|with_reducible refine rl_setB ?_ _ _|with_reducible refine rl_wake ?_ _|with_reducible refine rl_did ?_ D.kind D.cell D.L),by(unfold pfRA;(try dsimp only[Rn.goto,Rn.fin,Rn.note,Rn.Q0d,Rn.Q0h,Rn.setB,Rn.wake,Rn.did,Rn.waited]);simp only[ho,hl];first|(rw[if_pos (by decide)];omega)|(rw[if_neg (by decide),if_pos (by decide)];omega)|(rw[if_neg (by decide),if_neg (by decide)];trivial)),by(unfold pfRB;(try dsimp only[Rn.goto,Rn.fin,Rn.note,Rn.Q0d,Rn.Q0h,Rn.setB,Rn.wake,Rn.did,Rn.waited]);simp only[ho,hl];first|(rw[if_pos (by decide)];omega)|(rw[if_neg (by decide)];trivial))⟩
theorem pf80_s(hc:AddC c)(k0:c 0%4=0)(k1:c 1=c 0)(k3:c 3=c 2)(k4:c 4%2=0){s1 s2:Rn}(H:RnSh (addT c) (pfRA c) (pfRB c) s1 s2)(ok:OkU s1)(h:s1.f.op=8∧s1.f.line=0):RnSh (addT c) (pfRA c) (pfRB c) (Y5q s1) (Y5q s2):=by
 obtain⟨ho,hl⟩:=h
 have HL:=H.1
 have ok1:=ok
 obtain⟨ra,rb,_⟩:=ok1
 have D:DSh c 4 (doA s1.L ⟨1,4,0,0,0⟩) (doA s2.L ⟨1,4,0,0,0⟩):=d_ld hc H.1 ok (j:=4) (by decide)
 have hO:=D.old
 have hR:=D.rng
 dsimp only[Y5q]
 exact⟨by(repeat' first|with_reducible exact HL|with_reducible refine rl_goto ?_ _|with_reducible refine rl_fin ?_ _|with_reducible refine rl_note ?_ _ _|with_reducible refine rl_noted _ ?_|with_reducible refine rl_setA ?_ _ _|with_reducible refine rl_setB ?_ _ _|with_reducible refine rl_wake ?_ _|with_reducible refine rl_did ?_ D.kind D.cell D.L),by(unfold pfRA;(try dsimp only[Rn.goto,Rn.fin,Rn.note,Rn.Q0d,Rn.Q0h,Rn.setB,Rn.wake,Rn.did,Rn.waited]);simp only[ho,hl];first|(rw[if_pos (by decide)];omega)|(rw[if_neg (by decide),if_pos (by decide)];omega)|(rw[if_neg (by decide),if_neg (by decide)];trivial)),by(unfold pfRB;(try dsimp only[Rn.goto,Rn.fin,Rn.note,Rn.Q0d,Rn.Q0h,Rn.setB,Rn.wake,Rn.did,Rn.waited]);simp only[ho,hl];first|(rw[if_pos (by decide)];omega)|(rw[if_neg (by decide)];trivial))⟩
theorem pft5_s(hc:AddC c)(k0:c 0%4=0)(k1:c 1=c 0)(k3:c 3=c 2)(k4:c 4%2=0){s1 s2:Rn}(H:RnSh (addT c) (pfRA c) (pfRB c) s1 s2)(ok:OkU s1)(h:(s1.f.op=6∧s1.f.line=5)∨(s1.f.op=7∧s1.f.line=5)):RnSh (addT c) (pfRA c) (pfRB c) (Y2o s1) (Y2o s2):=by
 have hl:s1.f.line=5:=by omega
 have ho:s1.f.op=6∨s1.f.op=7:=by omega
 clear h
 rcases ho with ho|ho
 all_goals
  have HL:=H.1
  have ok1:=ok
  obtain⟨ra,rb,_⟩:=ok1
  have D:DSh c 4 (doA s1.L ⟨1,4,0,0,0⟩) (doA s2.L ⟨1,4,0,0,0⟩):=d_ld hc H.1 ok (j:=4) (by decide)
  have hO:=D.old
  have hR:=D.rng
  dsimp only[Y2o]
  exact⟨by(repeat' first|with_reducible exact HL|with_reducible refine rl_goto ?_ _|with_reducible refine rl_fin ?_ _|with_reducible refine rl_note ?_ _ _|with_reducible refine rl_noted _ ?_|with_reducible refine rl_setA ?_ _ _|with_reducible refine rl_setB ?_ _ _|with_reducible refine rl_wake ?_ _|with_reducible refine rl_did ?_ D.kind D.cell D.L),by(unfold pfRA;(try dsimp only[Rn.goto,Rn.fin,Rn.note,Rn.Q0d,Rn.Q0h,Rn.setB,Rn.wake,Rn.did,Rn.waited]);simp only[ho,hl];first|(rw[if_pos (by decide)];omega)|(rw[if_neg (by decide),if_pos (by decide)];omega)|(rw[if_neg (by decide),if_neg (by decide)];trivial)),by(unfold pfRB;(try dsimp only[Rn.goto,Rn.fin,Rn.note,Rn.Q0d,Rn.Q0h,Rn.setB,Rn.wake,Rn.did,Rn.waited]);simp only[ho,hl];first|(rw[if_pos (by decide)];omega)|(rw[if_neg (by decide)];trivial))⟩
theorem pf33_s(hc:AddC c)(k0:c 0%4=0)(k1:c 1=c 0)(k3:c 3=c 2)(k4:c 4%2=0){s1 s2:Rn}(H:RnSh (addT c) (pfRA c) (pfRB c) s1 s2)(ok:OkU s1)(h:s1.f.op=3∧s1.f.line=3):RnSh (addT c) (pfRA c) (pfRB c) (Y5v s1) (Y5v s2):=by
 obtain⟨ho,hl⟩:=h
 have HL:=H.1
 have ok1:=ok
 obtain⟨ra,rb,_⟩:=ok1
 have eb:=H.2.2
 unfold pfRB at eb
 simp only[ho,hl]at eb
 rw[if_pos (by decide)]at eb
 have ep:pfP s2.f.b=pfP s1.f.b:=by unfold pfP;omega
 have D:DSh c 0 (doA s1.L ⟨3,0,(pfP s1.f.b),0,0⟩) (doA s2.L ⟨3,0,(pfP s2.f.b),0,0⟩):=d_ad hc H.1 ok (j:=0) (by decide) ep
 have hO:=D.old
 have hR:=D.rng
 dsimp only[Y5v]
 exact⟨by(repeat' first|with_reducible exact HL|with_reducible refine rl_goto ?_ _|with_reducible refine rl_fin ?_ _|with_reducible refine rl_note ?_ _ _|with_reducible refine rl_noted _ ?_|with_reducible refine rl_setA ?_ _ _|with_reducible refine rl_setB ?_ _ _|with_reducible refine rl_wake ?_ _|with_reducible refine rl_did ?_ D.kind D.cell D.L),by(unfold pfRA;(try dsimp only[Rn.goto,Rn.fin,Rn.note,Rn.Q0d,Rn.Q0h,Rn.setB,Rn.wake,Rn.did,Rn.waited]);simp only[ho,hl];first|(rw[if_pos (by decide)];omega)|(rw[if_neg (by decide),if_pos (by decide)];omega)|(rw[if_neg (by decide),if_neg (by decide)];trivial)),by(unfold pfRB;(try dsimp only[Rn.goto,Rn.fin,Rn.note,Rn.Q0d,Rn.Q0h,Rn.setB,Rn.wake,Rn.did,Rn.waited]);simp only[ho,hl];first|(rw[if_pos (by decide)];omega)|(rw[if_neg (by decide)];trivial))⟩
theorem pft6_s(hc:AddC c)(k0:c 0%4=0)(k1:c 1=c 0)(k3:c 3=c 2)(k4:c 4%2=0){s1 s2:Rn}(H:RnSh (addT c) (pfRA c) (pfRB c) s1 s2)(ok:OkU s1)(h:(s1.f.op=6∧s1.f.line=6)∨(s1.f.op=7∧s1.f.line=6)):RnSh (addT c) (pfRA c) (pfRB c) (Y2n s1) (Y2n s2):=by
 have hl:s1.f.line=6:=by omega
 have ho:s1.f.op=6∨s1.f.op=7:=by omega
 clear h
 rcases ho with ho|ho
 all_goals
  have HL:=H.1
  have ok1:=ok
  obtain⟨ra,rb,_⟩:=ok1
  have eb:=H.2.2
  unfold pfRB at eb
  simp only[ho,hl]at eb
  rw[if_pos (by decide)]at eb
  have ep:pfP s2.f.b=pfP s1.f.b:=by unfold pfP;omega
  have D:DSh c 0 (doA s1.L ⟨3,0,(pfP s1.f.b),0,0⟩) (doA s2.L ⟨3,0,(pfP s2.f.b),0,0⟩):=d_ad hc H.1 ok (j:=0) (by decide) ep
  have hO:=D.old
  have hR:=D.rng
  dsimp only[Y2n]
  exact⟨by(repeat' first|with_reducible exact HL|with_reducible refine rl_goto ?_ _|with_reducible refine rl_fin ?_ _|with_reducible refine rl_note ?_ _ _|with_reducible refine rl_noted _ ?_|with_reducible refine rl_setA ?_ _ _|with_reducible refine rl_setB ?_ _ _|with_reducible refine rl_wake ?_ _|with_reducible refine rl_did ?_ D.kind D.cell D.L),by(unfold pfRA;(try dsimp only[Rn.goto,Rn.fin,Rn.note,Rn.Q0d,Rn.Q0h,Rn.setB,Rn.wake,Rn.did,Rn.waited]);simp only[ho,hl];first|(rw[if_pos (by decide)];omega)|(rw[if_neg (by decide),if_pos (by decide)];omega)|(rw[if_neg (by decide),if_neg (by decide)];trivial)),by(unfold pfRB;(try dsimp only[Rn.goto,Rn.fin,Rn.note,Rn.Q0d,Rn.Q0h,Rn.setB,Rn.wake,Rn.did,Rn.waited]);simp only[ho,hl];first|(rw[if_pos (by decide)];omega)|(rw[if_neg (by decide)];trivial))⟩
theorem pf41_s(hc:AddC c)(k0:c 0%4=0)(k1:c 1=c 0)(k3:c 3=c 2)(k4:c 4%2=0){s1 s2:Rn}(H:RnSh (addT c) (pfRA c) (pfRB c) s1 s2)(ok:OkU s1)(h:s1.f.op=4∧s1.f.line=1):RnSh (addT c) (pfRA c) (pfRB c) (Y5t s1) (Y5t s2):=by
 obtain⟨ho,hl⟩:=h
 have HL:=H.1
 have ok1:=ok
 obtain⟨ra,rb,_⟩:=ok1
 have eb:=H.2.2
 unfold pfRB at eb
 simp only[ho,hl]at eb
 rw[if_pos (by decide)]at eb
 have ep:pfP s2.f.b=pfP s1.f.b:=by unfold pfP;omega
 have D:DSh c 0 (doA s1.L ⟨3,0,(-pfP s1.f.b%4294967296),0,0⟩) (doA s2.L ⟨3,0,(-pfP s2.f.b%4294967296),0,0⟩):=d_ad hc H.1 ok (j:=0) (by decide) (by rw[ep])
 have hO:=D.old
 have hR:=D.rng
 dsimp only[Y5t]
 exact⟨by(repeat' first|with_reducible exact HL|with_reducible refine rl_goto ?_ _|with_reducible refine rl_fin ?_ _|with_reducible refine rl_note ?_ _ _|with_reducible refine rl_noted _ ?_|with_reducible refine rl_setA ?_ _ _|with_reducible refine rl_setB ?_ _ _|with_reducible refine rl_wake ?_ _|with_reducible refine rl_did ?_ D.kind D.cell D.L),by(unfold pfRA;(try dsimp only[Rn.goto,Rn.fin,Rn.note,Rn.Q0d,Rn.Q0h,Rn.setB,Rn.wake,Rn.did,Rn.waited]);simp only[ho,hl];first|(rw[if_pos (by decide)];omega)|(rw[if_neg (by decide),if_pos (by decide)];omega)|(rw[if_neg (by decide),if_neg (by decide)];trivial)),by(unfold pfRB;(try dsimp only[Rn.goto,Rn.fin,Rn.note,Rn.Q0d,Rn.Q0h,Rn.setB,Rn.wake,Rn.did,Rn.waited]);simp only[ho,hl];first|(rw[if_pos (by decide)];omega)|(rw[if_neg (by decide)];trivial))⟩
theorem pf81_s(hc:AddC c)(k0:c 0%4=0)(k1:c 1=c 0)(k3:c 3=c 2)(k4:c 4%2=0){s1 s2:Rn}(H:RnSh (addT c) (pfRA c) (pfRB c) s1 s2)(ok:OkU s1)(h:s1.f.op=8∧s1.f.line=1):RnSh (addT c) (pfRA c) (pfRB c) (Y5p s1) (Y5p s2):=by
 obtain⟨ho,hl⟩:=h
 have HL:=H.1
 have ok1:=ok
 obtain⟨ra,rb,_⟩:=ok1
 have eb:=H.2.2
 unfold pfRB at eb
 simp only[ho,hl]at eb
 rw[if_pos (by decide)]at eb
 have ep:pfP s2.f.b=pfP s1.f.b:=by unfold pfP;omega
 have D:DSh c 0 (doA s1.L ⟨3,0,((256-pfP s1.f.b)%4294967296),0,0⟩) (doA s2.L ⟨3,0,((256-pfP s2.f.b)%4294967296),0,0⟩):=d_ad hc H.1 ok (j:=0) (by decide) (by rw[ep])
 have hO:=D.old
 have hR:=D.rng
 dsimp only[Y5p]
 exact⟨by(repeat' first|with_reducible exact HL|with_reducible refine rl_goto ?_ _|with_reducible refine rl_fin ?_ _|with_reducible refine rl_note ?_ _ _|with_reducible refine rl_noted _ ?_|with_reducible refine rl_setA ?_ _ _|with_reducible refine rl_setB ?_ _ _|with_reducible refine rl_wake ?_ _|with_reducible refine rl_did ?_ D.kind D.cell D.L),by(unfold pfRA;(try dsimp only[Rn.goto,Rn.fin,Rn.note,Rn.Q0d,Rn.Q0h,Rn.setB,Rn.wake,Rn.did,Rn.waited]);simp only[ho,hl];first|(rw[if_pos (by decide)];omega)|(rw[if_neg (by decide),if_pos (by decide)];omega)|(rw[if_neg (by decide),if_neg (by decide)];trivial)),by(unfold pfRB;(try dsimp only[Rn.goto,Rn.fin,Rn.note,Rn.Q0d,Rn.Q0h,Rn.setB,Rn.wake,Rn.did,Rn.waited]);simp only[ho,hl];first|(rw[if_pos (by decide)];omega)|(rw[if_neg (by decide)];trivial))⟩
theorem pf42_s(hc:AddC c)(k0:c 0%4=0)(k1:c 1=c 0)(k3:c 3=c 2)(k4:c 4%2=0){s1 s2:Rn}(H:RnSh (addT c) (pfRA c) (pfRB c) s1 s2)(ok:OkU s1)(h:s1.f.op=4∧s1.f.line=2):RnSh (addT c) (pfRA c) (pfRB c) (Y5s s1) (Y5s s2):=by
 obtain⟨ho,hl⟩:=h
 have HL:=H.1
 have ok1:=ok
 obtain⟨ra,rb,_⟩:=ok1
 have eb:=H.2.2
 unfold pfRB at eb
 simp only[ho,hl]at eb
 rw[if_pos (by decide)]at eb
 have D:DSh c 4 (doA s1.L ⟨2,4,((s1.f.b+1)%4294967296),0,0⟩) (doA s2.L ⟨2,4,((s2.f.b+1)%4294967296),0,0⟩):=d_st hc H.1 ok (j:=4) (by decide) (by omega) (by omega)
 have hO:=D.old
 have hR:=D.rng
 dsimp only[Y5s]
 exact⟨by(repeat' first|with_reducible exact HL|with_reducible refine rl_goto ?_ _|with_reducible refine rl_fin ?_ _|with_reducible refine rl_note ?_ _ _|with_reducible refine rl_noted _ ?_|with_reducible refine rl_setA ?_ _ _|with_reducible refine rl_setB ?_ _ _|with_reducible refine rl_wake ?_ _|with_reducible refine rl_did ?_ D.kind D.cell D.L),by(unfold pfRA;(try dsimp only[Rn.goto,Rn.fin,Rn.note,Rn.Q0d,Rn.Q0h,Rn.setB,Rn.wake,Rn.did,Rn.waited]);simp only[ho,hl];first|(rw[if_pos (by decide)];omega)|(rw[if_neg (by decide),if_pos (by decide)];omega)|(rw[if_neg (by decide),if_neg (by decide)];trivial)),by(unfold pfRB;(try dsimp only[Rn.goto,Rn.fin,Rn.note,Rn.Q0d,Rn.Q0h,Rn.setB,Rn.wake,Rn.did,Rn.waited]);simp only[ho,hl];first|(rw[if_pos (by decide)];omega)|(rw[if_neg (by decide)];trivial))⟩
theorem pf82_s(hc:AddC c)(k0:c 0%4=0)(k1:c 1=c 0)(k3:c 3=c 2)(k4:c 4%2=0){s1 s2:Rn}(H:RnSh (addT c) (pfRA c) (pfRB c) s1 s2)(ok:OkU s1)(h:s1.f.op=8∧s1.f.line=2):RnSh (addT c) (pfRA c) (pfRB c) (Y5o s1) (Y5o s2):=by
 obtain⟨ho,hl⟩:=h
 have HL:=H.1
 have ok1:=ok
 obtain⟨ra,rb,_⟩:=ok1
 have eb:=H.2.2
 unfold pfRB at eb
 simp only[ho,hl]at eb
 rw[if_pos (by decide)]at eb
 have D:DSh c 4 (doA s1.L ⟨2,4,((s1.f.b+1)%4294967296),0,0⟩) (doA s2.L ⟨2,4,((s2.f.b+1)%4294967296),0,0⟩):=d_st hc H.1 ok (j:=4) (by decide) (by omega) (by omega)
 have hO:=D.old
 have hR:=D.rng
 dsimp only[Y5o]
 exact⟨by(repeat' first|with_reducible exact HL|with_reducible refine rl_goto ?_ _|with_reducible refine rl_fin ?_ _|with_reducible refine rl_note ?_ _ _|with_reducible refine rl_noted _ ?_|with_reducible refine rl_setA ?_ _ _|with_reducible refine rl_setB ?_ _ _|with_reducible refine rl_wake ?_ _|with_reducible refine rl_did ?_ D.kind D.cell D.L),by(unfold pfRA;(try dsimp only[Rn.goto,Rn.fin,Rn.note,Rn.Q0d,Rn.Q0h,Rn.setB,Rn.wake,Rn.did,Rn.waited]);simp only[ho,hl];first|(rw[if_pos (by decide)];omega)|(rw[if_neg (by decide),if_pos (by decide)];omega)|(rw[if_neg (by decide),if_neg (by decide)];trivial)),by(unfold pfRB;(try dsimp only[Rn.goto,Rn.fin,Rn.note,Rn.Q0d,Rn.Q0h,Rn.setB,Rn.wake,Rn.did,Rn.waited]);simp only[ho,hl];first|(rw[if_pos (by decide)];omega)|(rw[if_neg (by decide)];trivial))⟩
theorem pf43_s(hc:AddC c)(k0:c 0%4=0)(k1:c 1=c 0)(k3:c 3=c 2)(k4:c 4%2=0){s1 s2:Rn}(H:RnSh (addT c) (pfRA c) (pfRB c) s1 s2)(ok:OkU s1)(h:s1.f.op=4∧s1.f.line=3):RnSh (addT c) (pfRA c) (pfRB c) (Y5r s1) (Y5r s2):=by
 obtain⟨ho,hl⟩:=h
 have HL:=H.1
 have ok1:=ok
 obtain⟨ra,rb,_⟩:=ok1
 have D:DSh c 3 (doA s1.L ⟨3,3,1,0,0⟩) (doA s2.L ⟨3,3,1,0,0⟩):=d_ad hc H.1 ok (j:=3) (by decide) rfl
 have hO:=D.old
 have hR:=D.rng
 dsimp only[Y5r,Rn.Q0E]
 exact⟨by(repeat' first|with_reducible exact HL|with_reducible refine rl_goto ?_ _|with_reducible refine rl_fin ?_ _|with_reducible refine rl_note ?_ _ _|with_reducible refine rl_noted _ ?_|with_reducible refine rl_setA ?_ _ _|with_reducible refine rl_setB ?_ _ _|with_reducible refine rl_wake ?_ _|with_reducible refine rl_did ?_ D.kind D.cell D.L),by(unfold pfRA;(try dsimp only[Rn.goto,Rn.fin,Rn.note,Rn.Q0d,Rn.Q0h,Rn.setB,Rn.wake,Rn.did,Rn.waited]);simp only[ho,hl];first|(rw[if_pos (by decide)];omega)|(rw[if_neg (by decide),if_pos (by decide)];omega)|(rw[if_neg (by decide),if_neg (by decide)];trivial)),by(unfold pfRB;(try dsimp only[Rn.goto,Rn.fin,Rn.note,Rn.Q0d,Rn.Q0h,Rn.setB,Rn.wake,Rn.did,Rn.waited]);simp only[ho,hl];first|(rw[if_pos (by decide)];omega)|(rw[if_neg (by decide)];trivial))⟩
theorem pf83_s(hc:AddC c)(k0:c 0%4=0)(k1:c 1=c 0)(k3:c 3=c 2)(k4:c 4%2=0){s1 s2:Rn}(H:RnSh (addT c) (pfRA c) (pfRB c) s1 s2)(ok:OkU s1)(h:s1.f.op=8∧s1.f.line=3):RnSh (addT c) (pfRA c) (pfRB c) (Y5n s1) (Y5n s2):=by
 obtain⟨ho,hl⟩:=h
 have HL:=H.1
 have ok1:=ok
 obtain⟨ra,rb,_⟩:=ok1
 have D:DSh c 3 (doA s1.L ⟨3,3,1,0,0⟩) (doA s2.L ⟨3,3,1,0,0⟩):=d_ad hc H.1 ok (j:=3) (by decide) rfl
 have hO:=D.old
 have hR:=D.rng
 dsimp only[Y5n,Rn.Q0E]
 exact⟨by(repeat' first|with_reducible exact HL|with_reducible refine rl_goto ?_ _|with_reducible refine rl_fin ?_ _|with_reducible refine rl_note ?_ _ _|with_reducible refine rl_noted _ ?_|with_reducible refine rl_setA ?_ _ _|with_reducible refine rl_setB ?_ _ _|with_reducible refine rl_wake ?_ _|with_reducible refine rl_did ?_ D.kind D.cell D.L),by(unfold pfRA;(try dsimp only[Rn.goto,Rn.fin,Rn.note,Rn.Q0d,Rn.Q0h,Rn.setB,Rn.wake,Rn.did,Rn.waited]);simp only[ho,hl];first|(rw[if_pos (by decide)];omega)|(rw[if_neg (by decide),if_pos (by decide)];omega)|(rw[if_neg (by decide),if_neg (by decide)];trivial)),by(unfold pfRB;(try dsimp only[Rn.goto,Rn.fin,Rn.note,Rn.Q0d,Rn.Q0h,Rn.setB,Rn.wake,Rn.did,Rn.waited]);simp only[ho,hl];first|(rw[if_pos (by decide)];omega)|(rw[if_neg (by decide)];trivial))⟩
theorem pft9_s(hc:AddC c)(k0:c 0%4=0)(k1:c 1=c 0)(k3:c 3=c 2)(k4:c 4%2=0){s1 s2:Rn}(H:RnSh (addT c) (pfRA c) (pfRB c) s1 s2)(ok:OkU s1)(h:(s1.f.op=6∧s1.f.line=9)∨(s1.f.op=7∧s1.f.line=9)):RnSh (addT c) (pfRA c) (pfRB c) (Y2m s1) (Y2m s2):=by
 have hl:s1.f.line=9:=by omega
 have ho:s1.f.op=6∨s1.f.op=7:=by omega
 clear h
 rcases ho with ho|ho
 all_goals
  have HL:=H.1
  have ok1:=ok
  obtain⟨ra,rb,_⟩:=ok1
  have D:DSh c 3 (doA s1.L ⟨3,3,1,0,0⟩) (doA s2.L ⟨3,3,1,0,0⟩):=d_ad hc H.1 ok (j:=3) (by decide) rfl
  have hO:=D.old
  have hR:=D.rng
  dsimp only[Y2m,Rn.Q0E]
  exact⟨by(repeat' first|with_reducible exact HL|with_reducible refine rl_goto ?_ _|with_reducible refine rl_fin ?_ _|with_reducible refine rl_note ?_ _ _|with_reducible refine rl_noted _ ?_|with_reducible refine rl_setA ?_ _ _|with_reducible refine rl_setB ?_ _ _|with_reducible refine rl_wake ?_ _|with_reducible refine rl_did ?_ D.kind D.cell D.L),by(unfold pfRA;(try dsimp only[Rn.goto,Rn.fin,Rn.note,Rn.Q0d,Rn.Q0h,Rn.setB,Rn.wake,Rn.did,Rn.waited]);simp only[ho,hl];first|(rw[if_pos (by decide)];omega)|(rw[if_neg (by decide),if_pos (by decide)];omega)|(rw[if_neg (by decide),if_neg (by decide)];trivial)),by(unfold pfRB;(try dsimp only[Rn.goto,Rn.fin,Rn.note,Rn.Q0d,Rn.Q0h,Rn.setB,Rn.wake,Rn.did,Rn.waited]);simp only[ho,hl];first|(rw[if_pos (by decide)];omega)|(rw[if_neg (by decide)];trivial))⟩
theorem pft0_s(hc:AddC c)(k0:c 0%4=0)(k1:c 1=c 0)(k3:c 3=c 2)(k4:c 4%2=0){s1 s2:Rn}(H:RnSh (addT c) (pfRA c) (pfRB c) s1 s2)(ok:OkU s1)(h:(s1.f.op=6∧s1.f.line=0)∨(s1.f.op=7∧s1.f.line=0)):RnSh (addT c) (pfRA c) (pfRB c) (Y2s s1) (Y2s s2):=by
 have hl:s1.f.line=0:=by omega
 have ho:s1.f.op=6∨s1.f.op=7:=by omega
 clear h
 rcases ho with ho|ho
 all_goals
  have HL:=H.1
  have ok1:=ok
  obtain⟨ra,rb,_⟩:=ok1
  have D:DSh c 2 (doA s1.L ⟨1,2,0,0,0⟩) (doA s2.L ⟨1,2,0,0,0⟩):=d_ld hc H.1 ok (j:=2) (by decide)
  have hO:=D.old
  have hR:=D.rng
  dsimp only[Y2s]
  exact⟨by(repeat' first|with_reducible exact HL|with_reducible refine rl_goto ?_ _|with_reducible refine rl_fin ?_ _|with_reducible refine rl_note ?_ _ _|with_reducible refine rl_noted _ ?_|with_reducible refine rl_setA ?_ _ _|with_reducible refine rl_setB ?_ _ _|with_reducible refine rl_wake ?_ _|with_reducible refine rl_did ?_ D.kind D.cell D.L),by(unfold pfRA;(try dsimp only[Rn.goto,Rn.fin,Rn.note,Rn.Q0d,Rn.Q0h,Rn.setB,Rn.wake,Rn.did,Rn.waited]);simp only[ho,hl];first|(rw[if_pos (by decide)];omega)|(rw[if_neg (by decide),if_pos (by decide)];omega)|(rw[if_neg (by decide),if_neg (by decide)];trivial)),by(unfold pfRB;(try dsimp only[Rn.goto,Rn.fin,Rn.note,Rn.Q0d,Rn.Q0h,Rn.setB,Rn.wake,Rn.did,Rn.waited]);simp only[ho,hl];first|(rw[if_pos (by decide)];omega)|(rw[if_neg (by decide)];trivial))⟩
theorem pft3_s(hc:AddC c)(k0:c 0%4=0)(k1:c 1=c 0)(k3:c 3=c 2)(k4:c 4%2=0){s1 s2:Rn}(H:RnSh (addT c) (pfRA c) (pfRB c) s1 s2)(ok:OkU s1)(h:(s1.f.op=6∧s1.f.line=3)∨(s1.f.op=7∧s1.f.line=3)):RnSh (addT c) (pfRA c) (pfRB c) (Y2p s1) (Y2p s2):=by
 have hl:s1.f.line=3:=by omega
 have ho:s1.f.op=6∨s1.f.op=7:=by omega
 clear h
 rcases ho with ho|ho
 all_goals
  have HL:=H.1
  have ok1:=ok
  obtain⟨ra,rb,_⟩:=ok1
  have D:DSh c 0 (doA s1.L ⟨1,0,0,0,0⟩) (doA s2.L ⟨1,0,0,0,0⟩):=d_ld hc H.1 ok (j:=0) (by decide)
  have hO:=D.old
  have hR:=D.rng
  dsimp only[Y2p]
  exact⟨by(repeat' first|with_reducible exact HL|with_reducible refine rl_goto ?_ _|with_reducible refine rl_fin ?_ _|with_reducible refine rl_note ?_ _ _|with_reducible refine rl_noted _ ?_|with_reducible refine rl_setA ?_ _ _|with_reducible refine rl_setB ?_ _ _|with_reducible refine rl_wake ?_ _|with_reducible refine rl_did ?_ D.kind D.cell D.L),by(unfold pfRA;(try dsimp only[Rn.goto,Rn.fin,Rn.note,Rn.Q0d,Rn.Q0h,Rn.setB,Rn.wake,Rn.did,Rn.waited]);simp only[ho,hl];first|(rw[if_pos (by decide)];omega)|(rw[if_neg (by decide),if_pos (by decide)];omega)|(rw[if_neg (by decide),if_neg (by decide)];trivial)),by(unfold pfRB;(try dsimp only[Rn.goto,Rn.fin,Rn.note,Rn.Q0d,Rn.Q0h,Rn.setB,Rn.wake,Rn.did,Rn.waited]);simp only[ho,hl];first|(rw[if_pos (by decide)];omega)|(rw[if_neg (by decide)];trivial))⟩
theorem pft87_s(hc:AddC c)(k0:c 0%4=0)(k1:c 1=c 0)(k3:c 3=c 2)(k4:c 4%2=0){s1 s2:Rn}(H:RnSh (addT c) (pfRA c) (pfRB c) s1 s2)(ok:OkU s1)(h:s1.f.op=7∧s1.f.line=8):RnSh (addT c) (pfRA c) (pfRB c) (X5a s1) (X5a s2):=by
 obtain⟨ho,hl⟩:=h
 have HL:=H.1
 have ok1:=ok
 obtain⟨ra,rb,_⟩:=ok1
 have D:DSh c 1 (doA s1.L ⟨3,1,256,0,0⟩) (doA s2.L ⟨3,1,256,0,0⟩):=d_ad hc H.1 ok (j:=1) (by decide) rfl
 have hO:=D.old
 have hR:=D.rng
 dsimp only[X5a]
 exact⟨by(repeat' first|with_reducible exact HL|with_reducible refine rl_goto ?_ _|with_reducible refine rl_fin ?_ _|with_reducible refine rl_note ?_ _ _|with_reducible refine rl_noted _ ?_|with_reducible refine rl_setA ?_ _ _|with_reducible refine rl_setB ?_ _ _|with_reducible refine rl_wake ?_ _|with_reducible refine rl_did ?_ D.kind D.cell D.L),by(unfold pfRA;(try dsimp only[Rn.goto,Rn.fin,Rn.note,Rn.Q0d,Rn.Q0h,Rn.setB,Rn.wake,Rn.did,Rn.waited]);simp only[ho,hl];first|(rw[if_pos (by decide)];omega)|(rw[if_neg (by decide),if_pos (by decide)];omega)|(rw[if_neg (by decide),if_neg (by decide)];trivial)),by(unfold pfRB;(try dsimp only[Rn.goto,Rn.fin,Rn.note,Rn.Q0d,Rn.Q0h,Rn.setB,Rn.wake,Rn.did,Rn.waited]);simp only[ho,hl];first|(rw[if_pos (by decide)];omega)|(rw[if_neg (by decide)];trivial))⟩
theorem pft1_s(hc:AddC c)(k0:c 0%4=0)(k1:c 1=c 0)(k3:c 3=c 2)(k4:c 4%2=0){s1 s2:Rn}(H:RnSh (addT c) (pfRA c) (pfRB c) s1 s2)(ok:OkU s1)(h:(s1.f.op=6∧s1.f.line=1)∨(s1.f.op=7∧s1.f.line=1)):RnSh (addT c) (pfRA c) (pfRB c) (Y2r s1) (Y2r s2):=by
 have hl:s1.f.line=1:=by omega
 have ho:s1.f.op=6∨s1.f.op=7:=by omega
 clear h
 rcases ho with ho|ho
 all_goals
  have HL:=H.1
  have ok1:=ok
  obtain⟨ra,rb,_⟩:=ok1
  have ea:=H.2.1
  unfold pfRA at ea
  simp only[ho,hl]at ea
  first|rw[if_pos (by decide)]at ea|rw[if_neg (by decide),if_pos (by decide)]at ea
  have D:DSh c 3 (doA s1.L ⟨1,3,0,0,0⟩) (doA s2.L ⟨1,3,0,0,0⟩):=d_ld hc H.1 ok (j:=3) (by decide)
  have hO:=D.old
  have hR:=D.rng
  have e:Q1s s2.f.a (doA s2.L ⟨1,3,0,0,0⟩).1.old=Q1s s1.f.a (doA s1.L ⟨1,3,0,0,0⟩).1.old:=by rw[show s2.f.a=(s1.f.a+c 2)%4294967296 by omega,hO,k3];exact ahead_sh ra hR
  dsimp only[Y2r]
  rw[e]
  refine rn_ite (fun h1=> ?_) (fun h1=>rn_ite (fun h2=> ?_) (fun h2=> ?_))
  all_goals exact⟨by(repeat' first|with_reducible exact HL|with_reducible refine rl_goto ?_ _|with_reducible refine rl_fin ?_ _|with_reducible refine rl_note ?_ _ _|with_reducible refine rl_noted _ ?_|with_reducible refine rl_setA ?_ _ _|with_reducible refine rl_setB ?_ _ _|with_reducible refine rl_wake ?_ _|with_reducible refine rl_did ?_ D.kind D.cell D.L),by(unfold pfRA;(try dsimp only[Rn.goto,Rn.fin,Rn.note,Rn.Q0d,Rn.Q0h,Rn.setB,Rn.wake,Rn.did,Rn.waited]);simp only[ho,hl];first|(rw[if_pos (by decide)];omega)|(rw[if_neg (by decide),if_pos (by decide)];omega)|(rw[if_neg (by decide),if_neg (by decide)];trivial)),by(unfold pfRB;(try dsimp only[Rn.goto,Rn.fin,Rn.note,Rn.Q0d,Rn.Q0h,Rn.setB,Rn.wake,Rn.did,Rn.waited]);simp only[ho,hl];first|(rw[if_pos (by decide)];omega)|(rw[if_neg (by decide)];trivial))⟩
theorem pft2_s(hc:AddC c)(k0:c 0%4=0)(k1:c 1=c 0)(k3:c 3=c 2)(k4:c 4%2=0){s1 s2:Rn}(H:RnSh (addT c) (pfRA c) (pfRB c) s1 s2)(ok:OkU s1)(h:(s1.f.op=6∧s1.f.line=2)∨(s1.f.op=7∧s1.f.line=2)):RnSh (addT c) (pfRA c) (pfRB c) (Y2q s1) (Y2q s2):=by
 have hl:s1.f.line=2:=by omega
 have ho:s1.f.op=6∨s1.f.op=7:=by omega
 clear h
 rcases ho with ho|ho
 all_goals
  have HL:=H.1
  have ok1:=ok
  obtain⟨ra,rb,_⟩:=ok1
  have ea:=H.2.1
  unfold pfRA at ea
  simp only[ho,hl]at ea
  first|rw[if_pos (by decide)]at ea|rw[if_neg (by decide),if_pos (by decide)]at ea
  obtain⟨D,ec⟩:=d_cas hc H.1 ok (j:=2) (by decide) (x:=s1.f.a) (y:=((s1.f.a+1)%4294967296)) (x':=s2.f.a) (y':=((s2.f.a+1)%4294967296)) (by omega) (by omega) (by omega) (by omega)
  have D:DSh c 2 (doA s1.L ⟨5,2,s1.f.a,((s1.f.a+1)%4294967296),0⟩) (doA s2.L ⟨5,2,s2.f.a,((s2.f.a+1)%4294967296),0⟩):=D
  have ec:Q7N s2.L 2 s2.f.a ((s2.f.a+1)%4294967296)=Q7N s1.L 2 s1.f.a ((s1.f.a+1)%4294967296):=ec
  cases hb:Q7N s1.L 2 s1.f.a ((s1.f.a+1)%4294967296)<;>rw[hb]at ec<;>simp only[Y2q,hb,ec,if_true,Bool.false_eq_true,if_false]
  all_goals exact⟨by(repeat' first|with_reducible exact HL|with_reducible refine rl_goto ?_ _|with_reducible refine rl_fin ?_ _|with_reducible refine rl_note ?_ _ _|with_reducible refine rl_noted _ ?_|with_reducible refine rl_setA ?_ _ _|with_reducible refine rl_setB ?_ _ _|with_reducible refine rl_wake ?_ _|with_reducible refine rl_did ?_ D.kind D.cell D.L),by(unfold pfRA;(try dsimp only[Rn.goto,Rn.fin,Rn.note,Rn.Q0d,Rn.Q0h,Rn.setB,Rn.wake,Rn.did,Rn.waited]);simp only[ho,hl];first|(rw[if_pos (by decide)];omega)|(rw[if_neg (by decide),if_pos (by decide)];omega)|(rw[if_neg (by decide),if_neg (by decide)];trivial)),by(unfold pfRB;(try dsimp only[Rn.goto,Rn.fin,Rn.note,Rn.Q0d,Rn.Q0h,Rn.setB,Rn.wake,Rn.did,Rn.waited]);simp only[ho,hl];first|(rw[if_pos (by decide)];omega)|(rw[if_neg (by decide)];trivial))⟩
theorem pft46_s(hc:AddC c)(k0:c 0%4=0)(k1:c 1=c 0)(k3:c 3=c 2)(k4:c 4%2=0){s1 s2:Rn}(H:RnSh (addT c) (pfRA c) (pfRB c) s1 s2)(ok:OkU s1)(h:s1.f.op=6∧s1.f.line=4):RnSh (addT c) (pfRA c) (pfRB c) (X5h s1) (X5h s2):=by
 obtain⟨ho,hl⟩:=h
 have HL:=H.1
 have ok1:=ok
 obtain⟨ra,rb,_⟩:=ok1
 have ea:=H.2.1
 unfold pfRA at ea
 simp only[ho,hl]at ea
 first|rw[if_pos (by decide)]at ea|rw[if_neg (by decide),if_pos (by decide)]at ea
 have D:DSh c 1 (doA s1.L ⟨1,1,0,0,0⟩) (doA s2.L ⟨1,1,0,0,0⟩):=d_ld hc H.1 ok (j:=1) (by decide)
 have hO:=D.old
 have hR:=D.rng
 have e:Q1s s2.f.a (doA s2.L ⟨1,1,0,0,0⟩).1.old=Q1s s1.f.a (doA s1.L ⟨1,1,0,0,0⟩).1.old:=by rw[show s2.f.a=(s1.f.a+c 0)%4294967296 by omega,hO,k1];exact ahead_sh ra hR
 dsimp only[X5h,X8k]
 rw[e]
 refine rn_ite (fun h1=> ?_) (fun h1=> ?_)
 all_goals exact⟨by(repeat' first|with_reducible exact HL|with_reducible refine rl_goto ?_ _|with_reducible refine rl_fin ?_ _|with_reducible refine rl_note ?_ _ _|with_reducible refine rl_noted _ ?_|with_reducible refine rl_setA ?_ _ _|with_reducible refine rl_setB ?_ _ _|with_reducible refine rl_wake ?_ _|with_reducible refine rl_did ?_ D.kind D.cell D.L),by(unfold pfRA;(try dsimp only[Rn.goto,Rn.fin,Rn.note,Rn.Q0d,Rn.Q0h,Rn.setB,Rn.wake,Rn.did,Rn.waited]);simp only[ho,hl];first|(rw[if_pos (by decide)];omega)|(rw[if_neg (by decide),if_pos (by decide)];omega)|(rw[if_neg (by decide),if_neg (by decide)];trivial)),by(unfold pfRB;(try dsimp only[Rn.goto,Rn.fin,Rn.note,Rn.Q0d,Rn.Q0h,Rn.setB,Rn.wake,Rn.did,Rn.waited]);simp only[ho,hl];first|(rw[if_pos (by decide)];omega)|(rw[if_neg (by decide)];trivial))⟩
theorem pft47_s(hc:AddC c)(k0:c 0%4=0)(k1:c 1=c 0)(k3:c 3=c 2)(k4:c 4%2=0){s1 s2:Rn}(H:RnSh (addT c) (pfRA c) (pfRB c) s1 s2)(ok:OkU s1)(h:s1.f.op=7∧s1.f.line=4):RnSh (addT c) (pfRA c) (pfRB c) (X5f s1) (X5f s2):=by
 obtain⟨ho,hl⟩:=h
 have HL:=H.1
 have ok1:=ok
 obtain⟨ra,rb,_⟩:=ok1
 have ea:=H.2.1
 unfold pfRA at ea
 simp only[ho,hl]at ea
 first|rw[if_pos (by decide)]at ea|rw[if_neg (by decide),if_pos (by decide)]at ea
 have D:DSh c 1 (doA s1.L ⟨1,1,0,0,0⟩) (doA s2.L ⟨1,1,0,0,0⟩):=d_ld hc H.1 ok (j:=1) (by decide)
 have hO:=D.old
 have hR:=D.rng
 have e:Q1s s2.f.a (doA s2.L ⟨1,1,0,0,0⟩).1.old=Q1s s1.f.a (doA s1.L ⟨1,1,0,0,0⟩).1.old:=by rw[show s2.f.a=(s1.f.a+c 0)%4294967296 by omega,hO,k1];exact ahead_sh ra hR
 dsimp only[X5f,X8j]
 rw[e]
 refine rn_ite (fun h1=> ?_) (fun h1=> ?_)
 all_goals exact⟨by(repeat' first|with_reducible exact HL|with_reducible refine rl_goto ?_ _|with_reducible refine rl_fin ?_ _|with_reducible refine rl_note ?_ _ _|with_reducible refine rl_noted _ ?_|with_reducible refine rl_setA ?_ _ _|with_reducible refine rl_setB ?_ _ _|with_reducible refine rl_wake ?_ _|with_reducible refine rl_did ?_ D.kind D.cell D.L),by(unfold pfRA;(try dsimp only[Rn.goto,Rn.fin,Rn.note,Rn.Q0d,Rn.Q0h,Rn.setB,Rn.wake,Rn.did,Rn.waited]);simp only[ho,hl];first|(rw[if_pos (by decide)];omega)|(rw[if_neg (by decide),if_pos (by decide)];omega)|(rw[if_neg (by decide),if_neg (by decide)];trivial)),by(unfold pfRB;(try dsimp only[Rn.goto,Rn.fin,Rn.note,Rn.Q0d,Rn.Q0h,Rn.setB,Rn.wake,Rn.did,Rn.waited]);simp only[ho,hl];first|(rw[if_pos (by decide)];omega)|(rw[if_neg (by decide)];trivial))⟩
theorem pft76_s(hc:AddC c)(k0:c 0%4=0)(k1:c 1=c 0)(k3:c 3=c 2)(k4:c 4%2=0){s1 s2:Rn}(H:RnSh (addT c) (pfRA c) (pfRB c) s1 s2)(ok:OkU s1)(h:s1.f.op=6∧s1.f.line=7):RnSh (addT c) (pfRA c) (pfRB c) (X2v s1) (X2v s2):=by
 obtain⟨ho,hl⟩:=h
 have HL:=H.1
 have ok1:=ok
 obtain⟨ra,rb,_⟩:=ok1
 have ea:=H.2.1
 unfold pfRA at ea
 simp only[ho,hl]at ea
 first|rw[if_pos (by decide)]at ea|rw[if_neg (by decide),if_pos (by decide)]at ea
 have W:WaitSh (addT c) (Q0t s1.L s1.n s1.mode s1.task s1.f.st 1 (fun v=>v==s1.f.a)) (Q0t s2.L s2.n s2.mode s2.task s2.f.st 1 (fun v=>v==s2.f.a)):=w_of hc H.1 ok (j:=1) (by decide) (fun v hv=>by have e:s2.f.a=(s1.f.a+c 0)%4294967296:=(by omega);have:=hc.rng 0;rw[e,k1,Bool.eq_iff_iff,beq_iff_eq,beq_iff_eq];omega)
 have es:=W.seen
 have ed:=W.done
 dsimp only[X2v,Q7r]
 rw[ed]
 rw[es]
 generalize (Q0t s1.L s1.n s1.mode s1.task s1.f.st 1 (fun v=>v==s1.f.a)).done=db
 generalize (Q0t s1.L s1.n s1.mode s1.task s1.f.st 1 (fun v=>v==s1.f.a)).seen=sb
 cases sb<;>cases db<;>simp only[if_true,Bool.false_eq_true,if_false]
 all_goals exact⟨by(repeat' first|with_reducible exact HL|with_reducible refine rl_goto ?_ _|with_reducible refine rl_fin ?_ _|with_reducible refine rl_note ?_ _ _|with_reducible refine rl_noted _ ?_|with_reducible refine rl_setA ?_ _ _|with_reducible refine rl_setB ?_ _ _|with_reducible refine rl_wake ?_ _|with_reducible refine rl_waited ?_ W.stage W.kind W.cell W.words),by(unfold pfRA;(try dsimp only[Rn.goto,Rn.fin,Rn.note,Rn.Q0d,Rn.Q0h,Rn.setB,Rn.wake,Rn.did,Rn.waited]);simp only[ho,hl];first|(rw[if_pos (by decide)];omega)|(rw[if_neg (by decide),if_pos (by decide)];omega)|(rw[if_neg (by decide),if_neg (by decide)];trivial)),by(unfold pfRB;(try dsimp only[Rn.goto,Rn.fin,Rn.note,Rn.Q0d,Rn.Q0h,Rn.setB,Rn.wake,Rn.did,Rn.waited]);simp only[ho,hl];first|(rw[if_pos (by decide)];omega)|(rw[if_neg (by decide)];trivial))⟩
theorem pft77_s(hc:AddC c)(k0:c 0%4=0)(k1:c 1=c 0)(k3:c 3=c 2)(k4:c 4%2=0){s1 s2:Rn}(H:RnSh (addT c) (pfRA c) (pfRB c) s1 s2)(ok:OkU s1)(h:s1.f.op=7∧s1.f.line=7):RnSh (addT c) (pfRA c) (pfRB c) (X2u s1) (X2u s2):=by
 obtain⟨ho,hl⟩:=h
 have HL:=H.1
 have ok1:=ok
 obtain⟨ra,rb,_⟩:=ok1
 have ea:=H.2.1
 unfold pfRA at ea
 simp only[ho,hl]at ea
 first|rw[if_pos (by decide)]at ea|rw[if_neg (by decide),if_pos (by decide)]at ea
 have W:WaitSh (addT c) (Q0t s1.L s1.n s1.mode s1.task s1.f.st 1 (fun v=>v==((s1.f.a-256)%4294967296))) (Q0t s2.L s2.n s2.mode s2.task s2.f.st 1 (fun v=>v==((s2.f.a-256)%4294967296))):=w_of hc H.1 ok (j:=1) (by decide) (fun v hv=>by have e:s2.f.a=(s1.f.a+c 0)%4294967296:=(by omega);have:=hc.rng 0;rw[e,k1,Bool.eq_iff_iff,beq_iff_eq,beq_iff_eq];omega)
 have es:=W.seen
 have ed:=W.done
 dsimp only[X2u,Q7q]
 rw[ed]
 rw[es]
 generalize (Q0t s1.L s1.n s1.mode s1.task s1.f.st 1 (fun v=>v==((s1.f.a-256)%4294967296))).done=db
 generalize (Q0t s1.L s1.n s1.mode s1.task s1.f.st 1 (fun v=>v==((s1.f.a-256)%4294967296))).seen=sb
 cases sb<;>cases db<;>simp only[if_true,Bool.false_eq_true,if_false]
 all_goals exact⟨by(repeat' first|with_reducible exact HL|with_reducible refine rl_goto ?_ _|with_reducible refine rl_fin ?_ _|with_reducible refine rl_note ?_ _ _|with_reducible refine rl_noted _ ?_|with_reducible refine rl_setA ?_ _ _|with_reducible refine rl_setB ?_ _ _|with_reducible refine rl_wake ?_ _|with_reducible refine rl_waited ?_ W.stage W.kind W.cell W.words),by(unfold pfRA;(try dsimp only[Rn.goto,Rn.fin,Rn.note,Rn.Q0d,Rn.Q0h,Rn.setB,Rn.wake,Rn.did,Rn.waited]);simp only[ho,hl];first|(rw[if_pos (by decide)];omega)|(rw[if_neg (by decide),if_pos (by decide)];omega)|(rw[if_neg (by decide),if_neg (by decide)];trivial)),by(unfold pfRB;(try dsimp only[Rn.goto,Rn.fin,Rn.note,Rn.Q0d,Rn.Q0h,Rn.setB,Rn.wake,Rn.did,Rn.waited]);simp only[ho,hl];first|(rw[if_pos (by decide)];omega)|(rw[if_neg (by decide)];trivial))⟩
theorem pft86_s(hc:AddC c)(k0:c 0%4=0)(k1:c 1=c 0)(k3:c 3=c 2)(k4:c 4%2=0){s1 s2:Rn}(H:RnSh (addT c) (pfRA c) (pfRB c) s1 s2)(ok:OkU s1)(h:s1.f.op=6∧s1.f.line=8):RnSh (addT c) (pfRA c) (pfRB c) (X8c s1) (X8c s2):=by
 exact H
theorem pf_sh(hc:AddC c)(k0:c 0%4=0)(k1:c 1=c 0)(k3:c 3=c 2)(k4:c 4%2=0):LineSh (addT c) (pfRA c) (pfRB c) OkU pfA:=by
 intro s1 s2 H hn ok
 unfold pfA
 rw[H.1.op,H.1.line]
 refine rn_ite (fun h=>pfR10_s hc k0 k1 k3 k4 H ok h) (fun _=> ?_)
 refine rn_ite (fun h=>pfR11_s hc k0 k1 k3 k4 H ok h) (fun _=> ?_)
 refine rn_ite (fun h=>pfR20_s hc k0 k1 k3 k4 H ok h) (fun _=> ?_)
 refine rn_ite (fun h=>pfR50_s hc k0 k1 k3 k4 H ok h) (fun _=> ?_)
 refine rn_ite (fun h=>pfR51_s hc k0 k1 k3 k4 H ok h) (fun _=> ?_)
 refine rn_ite (fun h=>pf30_s hc k0 k1 k3 k4 H ok h) (fun _=> ?_)
 refine rn_ite (fun h=>pf31_s hc k0 k1 k3 k4 H ok h) (fun _=> ?_)
 refine rn_ite (fun h=>pf32_s hc k0 k1 k3 k4 H ok h) (fun _=> ?_)
 refine rn_ite (fun h=>pf33_s hc k0 k1 k3 k4 H ok h) (fun _=> ?_)
 refine rn_ite (fun h=>pf34_s hc k0 k1 k3 k4 H ok h) (fun _=> ?_)
 refine rn_ite (fun h=>pf40_s hc k0 k1 k3 k4 H ok h) (fun _=> ?_)
 refine rn_ite (fun h=>pf80_s hc k0 k1 k3 k4 H ok h) (fun _=> ?_)
 refine rn_ite (fun h=>pf41_s hc k0 k1 k3 k4 H ok h) (fun _=> ?_)
 refine rn_ite (fun h=>pf81_s hc k0 k1 k3 k4 H ok h) (fun _=> ?_)
 refine rn_ite (fun h=>pf42_s hc k0 k1 k3 k4 H ok h) (fun _=> ?_)
 refine rn_ite (fun h=>pf82_s hc k0 k1 k3 k4 H ok h) (fun _=> ?_)
 refine rn_ite (fun h=>pf43_s hc k0 k1 k3 k4 H ok h) (fun _=> ?_)
 refine rn_ite (fun h=>pf83_s hc k0 k1 k3 k4 H ok h) (fun _=> ?_)
 refine rn_ite (fun h=>pft0_s hc k0 k1 k3 k4 H ok (Or.inl h)) (fun _=> ?_)
 refine rn_ite (fun h=>pft1_s hc k0 k1 k3 k4 H ok (Or.inl h)) (fun _=> ?_)
 refine rn_ite (fun h=>pft2_s hc k0 k1 k3 k4 H ok (Or.inl h)) (fun _=> ?_)
 refine rn_ite (fun h=>pft3_s hc k0 k1 k3 k4 H ok (Or.inl h)) (fun _=> ?_)
 refine rn_ite (fun h=>pft46_s hc k0 k1 k3 k4 H ok h) (fun _=> ?_)
 refine rn_ite (fun h=>pft5_s hc k0 k1 k3 k4 H ok (Or.inl h)) (fun _=> ?_)
 refine rn_ite (fun h=>pft6_s hc k0 k1 k3 k4 H ok (Or.inl h)) (fun _=> ?_)
 refine rn_ite (fun h=>pft76_s hc k0 k1 k3 k4 H ok h) (fun _=> ?_)
 refine rn_ite (fun h=>pft86_s hc k0 k1 k3 k4 H ok h) (fun _=> ?_)
 refine rn_ite (fun h=>pft9_s hc k0 k1 k3 k4 H ok (Or.inl h)) (fun _=> ?_)
 refine rn_ite (fun h=>pft0_s hc k0 k1 k3 k4 H ok (Or.inr (h))) (fun _=> ?_)
 refine rn_ite (fun h=>pft1_s hc k0 k1 k3 k4 H ok (Or.inr (h))) (fun _=> ?_)
 refine rn_ite (fun h=>pft2_s hc k0 k1 k3 k4 H ok (Or.inr (h))) (fun _=> ?_)
 refine rn_ite (fun h=>pft3_s hc k0 k1 k3 k4 H ok (Or.inr (h))) (fun _=> ?_)
 refine rn_ite (fun h=>pft47_s hc k0 k1 k3 k4 H ok h) (fun _=> ?_)
 refine rn_ite (fun h=>pft5_s hc k0 k1 k3 k4 H ok (Or.inr (h))) (fun _=> ?_)
 refine rn_ite (fun h=>pft6_s hc k0 k1 k3 k4 H ok (Or.inr (h))) (fun _=> ?_)
 refine rn_ite (fun h=>pft77_s hc k0 k1 k3 k4 H ok h) (fun _=> ?_)
 refine rn_ite (fun h=>pft87_s hc k0 k1 k3 k4 H ok h) (fun _=> ?_)
 refine rn_ite (fun h=>pft9_s hc k0 k1 k3 k4 H ok (Or.inr (h))) (fun _=> ?_)
 exact H
end
end Go.Proofs.YthnimpkoidablaaGreat.Z
