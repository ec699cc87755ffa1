import Derived.Test.YthnimpkoidablaaGreatZR02
set_option linter.unusedVariables false
set_option linter.unusedSimpArgs false
namespace Go.Proofs.YthnimpkoidablaaGreat.Z
open Go.RowKit
def tfC(d:Int):Nat→Int:=fun j=>if j<3 then d else 0
theorem tfC_ok{d:Int}(h:0≤d∧d<4294967296):AddC (tfC d):=⟨fun j hj=>by unfold tfC;rw[if_neg (by omega)],fun j=>by unfold tfC;split<;>omega⟩
def tfRA(c:Nat→Int)(op line a1 a2:Int):Prop:=line=0∨op=2∨op=4∨op=8∨op=0∨a2=(a1+c 0)%4294967296
def tfRB(c:Nat→Int)(op line a1 a2:Int):Prop:=0=0
section
variable {c:Nat→Int}
theorem tf10_s(hc:AddC c)(c1:c 1=c 0)(c2:c 2=c 0){s1 s2:Rn}(H:RnSh (addT c) (tfRA c) (tfRB c) s1 s2)(ok:OkU s1)(h:s1.f.op=1∧s1.f.line=0):RnSh (addT c) (tfRA c) (tfRB c) (Y5d s1) (Y5d s2):=by
 have hA:=H.2.1
 have hB:=H.2.2
 unfold tfRA at hA
 unfold tfRB at hB
 have HL:=H.1
 have ok1:=ok
 obtain⟨ra,rb,_⟩:=ok1
 have D:DSh c 0 (doA s1.L ⟨3,0,1,0,0⟩) (doA s2.L ⟨3,0,1,0,0⟩):=d_ad hc H.1 ok (j:=0) (by decide) rfl
 have hO:=D.old
 have hR:=D.rng
 dsimp only[Y5d,Q0x]
 exact⟨by(repeat' first|with_reducible exact HL|with_reducible refine rl_goto ?_ _|with_reducible refine rl_fin ?_ _|with_reducible refine rl_note ?_ _ _|with_reducible refine rl_noted _ ?_|with_reducible refine rl_setA ?_ _ _|with_reducible refine rl_setB ?_ _ _|with_reducible refine rl_wake ?_ _|with_reducible refine rl_did ?_ D.kind D.cell D.L),by(unfold tfRA;try dsimp only[Rn.goto,Rn.fin,Rn.note,Rn.Q0d,Rn.Q0h,Rn.setB,Rn.wake,Rn.did,Rn.waited];try omega),by(unfold tfRB;try dsimp only[Rn.goto,Rn.fin,Rn.note,Rn.Q0d,Rn.Q0h,Rn.setB,Rn.wake,Rn.did,Rn.waited];try omega)⟩
theorem tf30_s(hc:AddC c)(c1:c 1=c 0)(c2:c 2=c 0){s1 s2:Rn}(H:RnSh (addT c) (tfRA c) (tfRB c) s1 s2)(ok:OkU s1)(h:s1.f.op=3∧s1.f.line=0):RnSh (addT c) (tfRA c) (tfRB c) (Y5a s1) (Y5a s2):=by
 have hA:=H.2.1
 have hB:=H.2.2
 unfold tfRA at hA
 unfold tfRB at hB
 have HL:=H.1
 have ok1:=ok
 obtain⟨ra,rb,_⟩:=ok1
 have D:DSh c 0 (doA s1.L ⟨3,0,1,0,0⟩) (doA s2.L ⟨3,0,1,0,0⟩):=d_ad hc H.1 ok (j:=0) (by decide) rfl
 have hO:=D.old
 have hR:=D.rng
 dsimp only[Y5a,Q0x]
 exact⟨by(repeat' first|with_reducible exact HL|with_reducible refine rl_goto ?_ _|with_reducible refine rl_fin ?_ _|with_reducible refine rl_note ?_ _ _|with_reducible refine rl_noted _ ?_|with_reducible refine rl_setA ?_ _ _|with_reducible refine rl_setB ?_ _ _|with_reducible refine rl_wake ?_ _|with_reducible refine rl_did ?_ D.kind D.cell D.L),by(unfold tfRA;try dsimp only[Rn.goto,Rn.fin,Rn.note,Rn.Q0d,Rn.Q0h,Rn.setB,Rn.wake,Rn.did,Rn.waited];try omega),by(unfold tfRB;try dsimp only[Rn.goto,Rn.fin,Rn.note,Rn.Q0d,Rn.Q0h,Rn.setB,Rn.wake,Rn.did,Rn.waited];try omega)⟩
theorem tf12_s(hc:AddC c)(c1:c 1=c 0)(c2:c 2=c 0){s1 s2:Rn}(H:RnSh (addT c) (tfRA c) (tfRB c) s1 s2)(ok:OkU s1)(h:s1.f.op=1∧s1.f.line=2):RnSh (addT c) (tfRA c) (tfRB c) (Y5c s1) (Y5c s2):=by
 have hA:=H.2.1
 have hB:=H.2.2
 unfold tfRA at hA
 unfold tfRB at hB
 have HL:=H.1
 have ok1:=ok
 obtain⟨ra,rb,_⟩:=ok1
 have D:DSh c 1 (doA s1.L ⟨3,1,1,0,0⟩) (doA s2.L ⟨3,1,1,0,0⟩):=d_ad hc H.1 ok (j:=1) (by decide) rfl
 have hO:=D.old
 have hR:=D.rng
 dsimp only[Y5c,Q0J]
 exact⟨by(repeat' first|with_reducible exact HL|with_reducible refine rl_goto ?_ _|with_reducible refine rl_fin ?_ _|with_reducible refine rl_note ?_ _ _|with_reducible refine rl_noted _ ?_|with_reducible refine rl_setA ?_ _ _|with_reducible refine rl_setB ?_ _ _|with_reducible refine rl_wake ?_ _|with_reducible refine rl_did ?_ D.kind D.cell D.L),by(unfold tfRA;try dsimp only[Rn.goto,Rn.fin,Rn.note,Rn.Q0d,Rn.Q0h,Rn.setB,Rn.wake,Rn.did,Rn.waited];try omega),by(unfold tfRB;try dsimp only[Rn.goto,Rn.fin,Rn.note,Rn.Q0d,Rn.Q0h,Rn.setB,Rn.wake,Rn.did,Rn.waited];try omega)⟩
theorem tf53_s(hc:AddC c)(c1:c 1=c 0)(c2:c 2=c 0){s1 s2:Rn}(H:RnSh (addT c) (tfRA c) (tfRB c) s1 s2)(ok:OkU s1)(h:s1.f.op=5∧s1.f.line=3):RnSh (addT c) (tfRA c) (tfRB c) (Y4U s1) (Y4U s2):=by
 have hA:=H.2.1
 have hB:=H.2.2
 unfold tfRA at hA
 unfold tfRB at hB
 have HL:=H.1
 have ok1:=ok
 obtain⟨ra,rb,_⟩:=ok1
 have D:DSh c 1 (doA s1.L ⟨3,1,1,0,0⟩) (doA s2.L ⟨3,1,1,0,0⟩):=d_ad hc H.1 ok (j:=1) (by decide) rfl
 have hO:=D.old
 have hR:=D.rng
 dsimp only[Y4U,Q0J]
 exact⟨by(repeat' first|with_reducible exact HL|with_reducible refine rl_goto ?_ _|with_reducible refine rl_fin ?_ _|with_reducible refine rl_note ?_ _ _|with_reducible refine rl_noted _ ?_|with_reducible refine rl_setA ?_ _ _|with_reducible refine rl_setB ?_ _ _|with_reducible refine rl_wake ?_ _|with_reducible refine rl_did ?_ D.kind D.cell D.L),by(unfold tfRA;try dsimp only[Rn.goto,Rn.fin,Rn.note,Rn.Q0d,Rn.Q0h,Rn.setB,Rn.wake,Rn.did,Rn.waited];try omega),by(unfold tfRB;try dsimp only[Rn.goto,Rn.fin,Rn.note,Rn.Q0d,Rn.Q0h,Rn.setB,Rn.wake,Rn.did,Rn.waited];try omega)⟩
theorem tf80_s(hc:AddC c)(c1:c 1=c 0)(c2:c 2=c 0){s1 s2:Rn}(H:RnSh (addT c) (tfRA c) (tfRB c) s1 s2)(ok:OkU s1)(h:s1.f.op=8∧s1.f.line=0):RnSh (addT c) (tfRA c) (tfRB c) (Y4M s1) (Y4M s2):=by
 have hA:=H.2.1
 have hB:=H.2.2
 unfold tfRA at hA
 unfold tfRB at hB
 have HL:=H.1
 have ok1:=ok
 obtain⟨ra,rb,_⟩:=ok1
 have D:DSh c 1 (doA s1.L ⟨3,1,1,0,0⟩) (doA s2.L ⟨3,1,1,0,0⟩):=d_ad hc H.1 ok (j:=1) (by decide) rfl
 have hO:=D.old
 have hR:=D.rng
 dsimp only[Y4M,Q0J]
 exact⟨by(repeat' first|with_reducible exact HL|with_reducible refine rl_goto ?_ _|with_reducible refine rl_fin ?_ _|with_reducible refine rl_note ?_ _ _|with_reducible refine rl_noted _ ?_|with_reducible refine rl_setA ?_ _ _|with_reducible refine rl_setB ?_ _ _|with_reducible refine rl_wake ?_ _|with_reducible refine rl_did ?_ D.kind D.cell D.L),by(unfold tfRA;try dsimp only[Rn.goto,Rn.fin,Rn.note,Rn.Q0d,Rn.Q0h,Rn.setB,Rn.wake,Rn.did,Rn.waited];try omega),by(unfold tfRB;try dsimp only[Rn.goto,Rn.fin,Rn.note,Rn.Q0d,Rn.Q0h,Rn.setB,Rn.wake,Rn.did,Rn.waited];try omega)⟩
theorem tf20_s(hc:AddC c)(c1:c 1=c 0)(c2:c 2=c 0){s1 s2:Rn}(H:RnSh (addT c) (tfRA c) (tfRB c) s1 s2)(ok:OkU s1)(h:s1.f.op=2∧s1.f.line=0):RnSh (addT c) (tfRA c) (tfRB c) (Y5b s1) (Y5b s2):=by
 have hA:=H.2.1
 have hB:=H.2.2
 unfold tfRA at hA
 unfold tfRB at hB
 have HL:=H.1
 have ok1:=ok
 obtain⟨ra,rb,_⟩:=ok1
 have D:DSh c 2 (doA s1.L ⟨3,2,1,0,0⟩) (doA s2.L ⟨3,2,1,0,0⟩):=d_ad hc H.1 ok (j:=2) (by decide) rfl
 have hO:=D.old
 have hR:=D.rng
 dsimp only[Y5b]
 exact⟨by(repeat' first|with_reducible exact HL|with_reducible refine rl_goto ?_ _|with_reducible refine rl_fin ?_ _|with_reducible refine rl_note ?_ _ _|with_reducible refine rl_noted _ ?_|with_reducible refine rl_setA ?_ _ _|with_reducible refine rl_setB ?_ _ _|with_reducible refine rl_wake ?_ _|with_reducible refine rl_did ?_ D.kind D.cell D.L),by(unfold tfRA;try dsimp only[Rn.goto,Rn.fin,Rn.note,Rn.Q0d,Rn.Q0h,Rn.setB,Rn.wake,Rn.did,Rn.waited];try omega),by(unfold tfRB;try dsimp only[Rn.goto,Rn.fin,Rn.note,Rn.Q0d,Rn.Q0h,Rn.setB,Rn.wake,Rn.did,Rn.waited];try omega)⟩
theorem tf40_s(hc:AddC c)(c1:c 1=c 0)(c2:c 2=c 0){s1 s2:Rn}(H:RnSh (addT c) (tfRA c) (tfRB c) s1 s2)(ok:OkU s1)(h:s1.f.op=4∧s1.f.line=0):RnSh (addT c) (tfRA c) (tfRB c) (Y4Z s1) (Y4Z s2):=by
 have hA:=H.2.1
 have hB:=H.2.2
 unfold tfRA at hA
 unfold tfRB at hB
 have HL:=H.1
 have ok1:=ok
 obtain⟨ra,rb,_⟩:=ok1
 have D:DSh c 1 (doA s1.L ⟨3,1,1,0,0⟩) (doA s2.L ⟨3,1,1,0,0⟩):=d_ad hc H.1 ok (j:=1) (by decide) rfl
 have hO:=D.old
 have hR:=D.rng
 dsimp only[Y4Z]
 exact⟨by(repeat' first|with_reducible exact HL|with_reducible refine rl_goto ?_ _|with_reducible refine rl_fin ?_ _|with_reducible refine rl_note ?_ _ _|with_reducible refine rl_noted _ ?_|with_reducible refine rl_setA ?_ _ _|with_reducible refine rl_setB ?_ _ _|with_reducible refine rl_wake ?_ _|with_reducible refine rl_did ?_ D.kind D.cell D.L),by(unfold tfRA;try dsimp only[Rn.goto,Rn.fin,Rn.note,Rn.Q0d,Rn.Q0h,Rn.setB,Rn.wake,Rn.did,Rn.waited];try omega),by(unfold tfRB;try dsimp only[Rn.goto,Rn.fin,Rn.note,Rn.Q0d,Rn.Q0h,Rn.setB,Rn.wake,Rn.did,Rn.waited];try omega)⟩
theorem tf41_s(hc:AddC c)(c1:c 1=c 0)(c2:c 2=c 0){s1 s2:Rn}(H:RnSh (addT c) (tfRA c) (tfRB c) s1 s2)(ok:OkU s1)(h:s1.f.op=4∧s1.f.line=1):RnSh (addT c) (tfRA c) (tfRB c) (Y4Y s1) (Y4Y s2):=by
 have hA:=H.2.1
 have hB:=H.2.2
 unfold tfRA at hA
 unfold tfRB at hB
 have HL:=H.1
 have ok1:=ok
 obtain⟨ra,rb,_⟩:=ok1
 have D:DSh c 2 (doA s1.L ⟨3,2,1,0,0⟩) (doA s2.L ⟨3,2,1,0,0⟩):=d_ad hc H.1 ok (j:=2) (by decide) rfl
 have hO:=D.old
 have hR:=D.rng
 dsimp only[Y4Y]
 exact⟨by(repeat' first|with_reducible exact HL|with_reducible refine rl_goto ?_ _|with_reducible refine rl_fin ?_ _|with_reducible refine rl_note ?_ _ _|with_reducible refine rl_noted _ ?_|with_reducible refine rl_setA ?_ _ _|with_reducible refine rl_setB ?_ _ _|with_reducible refine rl_wake ?_ _|with_reducible refine rl_did ?_ D.kind D.cell D.L),by(unfold tfRA;try dsimp only[Rn.goto,Rn.fin,Rn.note,Rn.Q0d,Rn.Q0h,Rn.setB,Rn.wake,Rn.did,Rn.waited];try omega),by(unfold tfRB;try dsimp only[Rn.goto,Rn.fin,Rn.note,Rn.Q0d,Rn.Q0h,Rn.setB,Rn.wake,Rn.did,Rn.waited];try omega)⟩
theorem tf73_s(hc:AddC c)(c1:c 1=c 0)(c2:c 2=c 0){s1 s2:Rn}(H:RnSh (addT c) (tfRA c) (tfRB c) s1 s2)(ok:OkU s1)(h:s1.f.op=7∧s1.f.line=3):RnSh (addT c) (tfRA c) (tfRB c) (Y4N s1) (Y4N s2):=by
 have hA:=H.2.1
 have hB:=H.2.2
 unfold tfRA at hA
 unfold tfRB at hB
 have HL:=H.1
 have ok1:=ok
 obtain⟨ra,rb,_⟩:=ok1
 have D:DSh c 2 (doA s1.L ⟨3,2,1,0,0⟩) (doA s2.L ⟨3,2,1,0,0⟩):=d_ad hc H.1 ok (j:=2) (by decide) rfl
 have hO:=D.old
 have hR:=D.rng
 dsimp only[Y4N]
 exact⟨by(repeat' first|with_reducible exact HL|with_reducible refine rl_goto ?_ _|with_reducible refine rl_fin ?_ _|with_reducible refine rl_note ?_ _ _|with_reducible refine rl_noted _ ?_|with_reducible refine rl_setA ?_ _ _|with_reducible refine rl_setB ?_ _ _|with_reducible refine rl_wake ?_ _|with_reducible refine rl_did ?_ D.kind D.cell D.L),by(unfold tfRA;try dsimp only[Rn.goto,Rn.fin,Rn.note,Rn.Q0d,Rn.Q0h,Rn.setB,Rn.wake,Rn.did,Rn.waited];try omega),by(unfold tfRB;try dsimp only[Rn.goto,Rn.fin,Rn.note,Rn.Q0d,Rn.Q0h,Rn.setB,Rn.wake,Rn.did,Rn.waited];try omega)⟩
theorem tf50_s(hc:AddC c)(c1:c 1=c 0)(c2:c 2=c 0){s1 s2:Rn}(H:RnSh (addT c) (tfRA c) (tfRB c) s1 s2)(ok:OkU s1)(h:s1.f.op=5∧s1.f.line=0):RnSh (addT c) (tfRA c) (tfRB c) (Y4X s1) (Y4X s2):=by
 have hA:=H.2.1
 have hB:=H.2.2
 unfold tfRA at hA
 unfold tfRB at hB
 have HL:=H.1
 have ok1:=ok
 obtain⟨ra,rb,_⟩:=ok1
 have D:DSh c 0 (doA s1.L ⟨1,0,0,0,0⟩) (doA s2.L ⟨1,0,0,0,0⟩):=d_ld hc H.1 ok (j:=0) (by decide)
 have hO:=D.old
 have hR:=D.rng
 dsimp only[Y4X]
 exact⟨by(repeat' first|with_reducible exact HL|with_reducible refine rl_goto ?_ _|with_reducible refine rl_fin ?_ _|with_reducible refine rl_note ?_ _ _|with_reducible refine rl_noted _ ?_|with_reducible refine rl_setA ?_ _ _|with_reducible refine rl_setB ?_ _ _|with_reducible refine rl_wake ?_ _|with_reducible refine rl_did ?_ D.kind D.cell D.L),by(unfold tfRA;try dsimp only[Rn.goto,Rn.fin,Rn.note,Rn.Q0d,Rn.Q0h,Rn.setB,Rn.wake,Rn.did,Rn.waited];try omega),by(unfold tfRB;try dsimp only[Rn.goto,Rn.fin,Rn.note,Rn.Q0d,Rn.Q0h,Rn.setB,Rn.wake,Rn.did,Rn.waited];try omega)⟩
theorem tf60_s(hc:AddC c)(c1:c 1=c 0)(c2:c 2=c 0){s1 s2:Rn}(H:RnSh (addT c) (tfRA c) (tfRB c) s1 s2)(ok:OkU s1)(h:s1.f.op=6∧s1.f.line=0):RnSh (addT c) (tfRA c) (tfRB c) (Y4T s1) (Y4T s2):=by
 have hA:=H.2.1
 have hB:=H.2.2
 unfold tfRA at hA
 unfold tfRB at hB
 have HL:=H.1
 have ok1:=ok
 obtain⟨ra,rb,_⟩:=ok1
 have D:DSh c 0 (doA s1.L ⟨1,0,0,0,0⟩) (doA s2.L ⟨1,0,0,0,0⟩):=d_ld hc H.1 ok (j:=0) (by decide)
 have hO:=D.old
 have hR:=D.rng
 dsimp only[Y4T]
 exact⟨by(repeat' first|with_reducible exact HL|with_reducible refine rl_goto ?_ _|with_reducible refine rl_fin ?_ _|with_reducible refine rl_note ?_ _ _|with_reducible refine rl_noted _ ?_|with_reducible refine rl_setA ?_ _ _|with_reducible refine rl_setB ?_ _ _|with_reducible refine rl_wake ?_ _|with_reducible refine rl_did ?_ D.kind D.cell D.L),by(unfold tfRA;try dsimp only[Rn.goto,Rn.fin,Rn.note,Rn.Q0d,Rn.Q0h,Rn.setB,Rn.wake,Rn.did,Rn.waited];try omega),by(unfold tfRB;try dsimp only[Rn.goto,Rn.fin,Rn.note,Rn.Q0d,Rn.Q0h,Rn.setB,Rn.wake,Rn.did,Rn.waited];try omega)⟩
theorem tf70_s(hc:AddC c)(c1:c 1=c 0)(c2:c 2=c 0){s1 s2:Rn}(H:RnSh (addT c) (tfRA c) (tfRB c) s1 s2)(ok:OkU s1)(h:s1.f.op=7∧s1.f.line=0):RnSh (addT c) (tfRA c) (tfRB c) (Y4Q s1) (Y4Q s2):=by
 have hA:=H.2.1
 have hB:=H.2.2
 unfold tfRA at hA
 unfold tfRB at hB
 have HL:=H.1
 have ok1:=ok
 obtain⟨ra,rb,_⟩:=ok1
 have D:DSh c 0 (doA s1.L ⟨1,0,0,0,0⟩) (doA s2.L ⟨1,0,0,0,0⟩):=d_ld hc H.1 ok (j:=0) (by decide)
 have hO:=D.old
 have hR:=D.rng
 dsimp only[Y4Q]
 exact⟨by(repeat' first|with_reducible exact HL|with_reducible refine rl_goto ?_ _|with_reducible refine rl_fin ?_ _|with_reducible refine rl_note ?_ _ _|with_reducible refine rl_noted _ ?_|with_reducible refine rl_setA ?_ _ _|with_reducible refine rl_setB ?_ _ _|with_reducible refine rl_wake ?_ _|with_reducible refine rl_did ?_ D.kind D.cell D.L),by(unfold tfRA;try dsimp only[Rn.goto,Rn.fin,Rn.note,Rn.Q0d,Rn.Q0h,Rn.setB,Rn.wake,Rn.did,Rn.waited];try omega),by(unfold tfRB;try dsimp only[Rn.goto,Rn.fin,Rn.note,Rn.Q0d,Rn.Q0h,Rn.setB,Rn.wake,Rn.did,Rn.waited];try omega)⟩
theorem tf11_s(hc:AddC c)(c1:c 1=c 0)(c2:c 2=c 0){s1 s2:Rn}(H:RnSh (addT c) (tfRA c) (tfRB c) s1 s2)(ok:OkU s1)(h:s1.f.op=1∧s1.f.line=1):RnSh (addT c) (tfRA c) (tfRB c) (Y3g s1) (Y3g s2):=by
 have hA:=H.2.1
 have hB:=H.2.2
 unfold tfRA at hA
 unfold tfRB at hB
 have HL:=H.1
 have ok1:=ok
 obtain⟨ra,rb,_⟩:=ok1
 have W:WaitSh (addT c) (Q0t s1.L s1.n s1.mode s1.task s1.f.st 1 (fun v=>v==s1.f.a)) (Q0t s2.L s2.n s2.mode s2.task s2.f.st 1 (fun v=>v==s2.f.a)):=w_of hc H.1 ok (j:=1) (by decide) (fun v hv=>by have e:s2.f.a=(s1.f.a+c 0)%4294967296:=(by omega);have:=hc.rng 0;rw[e,c1,Bool.eq_iff_iff,beq_iff_eq,beq_iff_eq];omega)
 have es:=W.seen
 have ed:=W.done
 dsimp only[Y3g]
 rw[ed]
 generalize (Q0t s1.L s1.n s1.mode s1.task s1.f.st 1 (fun v=>v==s1.f.a)).done=db
 cases db<;>simp only[if_true,Bool.false_eq_true,if_false]
 all_goals exact⟨by(repeat' first|with_reducible exact HL|with_reducible refine rl_goto ?_ _|with_reducible refine rl_fin ?_ _|with_reducible refine rl_note ?_ _ _|with_reducible refine rl_noted _ ?_|with_reducible refine rl_setA ?_ _ _|with_reducible refine rl_setB ?_ _ _|with_reducible refine rl_wake ?_ _|with_reducible refine rl_waited ?_ W.stage W.kind W.cell W.words),by(unfold tfRA;try dsimp only[Rn.goto,Rn.fin,Rn.note,Rn.Q0d,Rn.Q0h,Rn.setB,Rn.wake,Rn.did,Rn.waited];try omega),by(unfold tfRB;try dsimp only[Rn.goto,Rn.fin,Rn.note,Rn.Q0d,Rn.Q0h,Rn.setB,Rn.wake,Rn.did,Rn.waited];try omega)⟩
theorem tf31_s(hc:AddC c)(c1:c 1=c 0)(c2:c 2=c 0){s1 s2:Rn}(H:RnSh (addT c) (tfRA c) (tfRB c) s1 s2)(ok:OkU s1)(h:s1.f.op=3∧s1.f.line=1):RnSh (addT c) (tfRA c) (tfRB c) (Y3f s1) (Y3f s2):=by
 have hA:=H.2.1
 have hB:=H.2.2
 unfold tfRA at hA
 unfold tfRB at hB
 have HL:=H.1
 have ok1:=ok
 obtain⟨ra,rb,_⟩:=ok1
 have W:WaitSh (addT c) (Q0t s1.L s1.n s1.mode s1.task s1.f.st 2 (fun v=>v==s1.f.a)) (Q0t s2.L s2.n s2.mode s2.task s2.f.st 2 (fun v=>v==s2.f.a)):=w_of hc H.1 ok (j:=2) (by decide) (fun v hv=>by have e:s2.f.a=(s1.f.a+c 0)%4294967296:=(by omega);have:=hc.rng 0;rw[e,c2,Bool.eq_iff_iff,beq_iff_eq,beq_iff_eq];omega)
 have es:=W.seen
 have ed:=W.done
 dsimp only[Y3f]
 rw[ed]
 rw[es]
 generalize (Q0t s1.L s1.n s1.mode s1.task s1.f.st 2 (fun v=>v==s1.f.a)).done=db
 generalize (Q0t s1.L s1.n s1.mode s1.task s1.f.st 2 (fun v=>v==s1.f.a)).seen=sb
 cases sb<;>cases db<;>simp only[if_true,Bool.false_eq_true,if_false]
 all_goals exact⟨by(repeat' first|with_reducible exact HL|with_reducible refine rl_goto ?_ _|with_reducible refine rl_fin ?_ _|with_reducible refine rl_note ?_ _ _|with_reducible refine rl_noted _ ?_|with_reducible refine rl_setA ?_ _ _|with_reducible refine rl_setB ?_ _ _|with_reducible refine rl_wake ?_ _|with_reducible refine rl_waited ?_ W.stage W.kind W.cell W.words),by(unfold tfRA;try dsimp only[Rn.goto,Rn.fin,Rn.note,Rn.Q0d,Rn.Q0h,Rn.setB,Rn.wake,Rn.did,Rn.waited];try omega),by(unfold tfRB;try dsimp only[Rn.goto,Rn.fin,Rn.note,Rn.Q0d,Rn.Q0h,Rn.setB,Rn.wake,Rn.did,Rn.waited];try omega)⟩
theorem tf51_s(hc:AddC c)(c1:c 1=c 0)(c2:c 2=c 0){s1 s2:Rn}(H:RnSh (addT c) (tfRA c) (tfRB c) s1 s2)(ok:OkU s1)(h:s1.f.op=5∧s1.f.line=1):RnSh (addT c) (tfRA c) (tfRB c) (Y4W s1) (Y4W s2):=by
 have hA:=H.2.1
 have hB:=H.2.2
 unfold tfRA at hA
 unfold tfRB at hB
 have HL:=H.1
 have ok1:=ok
 obtain⟨ra,rb,_⟩:=ok1
 have D:DSh c 1 (doA s1.L ⟨1,1,0,0,0⟩) (doA s2.L ⟨1,1,0,0,0⟩):=d_ld hc H.1 ok (j:=1) (by decide)
 have hO:=D.old
 have hR:=D.rng
 have e:Q1s s2.f.a (doA s2.L ⟨1,1,0,0,0⟩).1.old=Q1s s1.f.a (doA s1.L ⟨1,1,0,0,0⟩).1.old:=by rw[show s2.f.a=(s1.f.a+c 0)%4294967296 by omega,hO,c1];exact ahead_sh ra hR
 dsimp only[Y4W,Q5J]
 rw[e]
 refine rn_ite (fun h1=> ?_) (fun h1=>rn_ite (fun h2=> ?_) (fun h2=> ?_))
 all_goals exact⟨by(repeat' first|with_reducible exact HL|with_reducible refine rl_goto ?_ _|with_reducible refine rl_fin ?_ _|with_reducible refine rl_note ?_ _ _|with_reducible refine rl_noted _ ?_|with_reducible refine rl_setA ?_ _ _|with_reducible refine rl_setB ?_ _ _|with_reducible refine rl_wake ?_ _|with_reducible refine rl_did ?_ D.kind D.cell D.L),by(unfold tfRA;try dsimp only[Rn.goto,Rn.fin,Rn.note,Rn.Q0d,Rn.Q0h,Rn.setB,Rn.wake,Rn.did,Rn.waited];try omega),by(unfold tfRB;try dsimp only[Rn.goto,Rn.fin,Rn.note,Rn.Q0d,Rn.Q0h,Rn.setB,Rn.wake,Rn.did,Rn.waited];try omega)⟩
theorem tf61_s(hc:AddC c)(c1:c 1=c 0)(c2:c 2=c 0){s1 s2:Rn}(H:RnSh (addT c) (tfRA c) (tfRB c) s1 s2)(ok:OkU s1)(h:s1.f.op=6∧s1.f.line=1):RnSh (addT c) (tfRA c) (tfRB c) (Y4S s1) (Y4S s2):=by
 have hA:=H.2.1
 have hB:=H.2.2
 unfold tfRA at hA
 unfold tfRB at hB
 have HL:=H.1
 have ok1:=ok
 obtain⟨ra,rb,_⟩:=ok1
 have D:DSh c 2 (doA s1.L ⟨1,2,0,0,0⟩) (doA s2.L ⟨1,2,0,0,0⟩):=d_ld hc H.1 ok (j:=2) (by decide)
 have hO:=D.old
 have hR:=D.rng
 have e:Q1s s2.f.a (doA s2.L ⟨1,2,0,0,0⟩).1.old=Q1s s1.f.a (doA s1.L ⟨1,2,0,0,0⟩).1.old:=by rw[show s2.f.a=(s1.f.a+c 0)%4294967296 by omega,hO,c2];exact ahead_sh ra hR
 dsimp only[Y4S,Q5J]
 rw[e]
 refine rn_ite (fun h1=> ?_) (fun h1=>rn_ite (fun h2=> ?_) (fun h2=> ?_))
 all_goals exact⟨by(repeat' first|with_reducible exact HL|with_reducible refine rl_goto ?_ _|with_reducible refine rl_fin ?_ _|with_reducible refine rl_note ?_ _ _|with_reducible refine rl_noted _ ?_|with_reducible refine rl_setA ?_ _ _|with_reducible refine rl_setB ?_ _ _|with_reducible refine rl_wake ?_ _|with_reducible refine rl_did ?_ D.kind D.cell D.L),by(unfold tfRA;try dsimp only[Rn.goto,Rn.fin,Rn.note,Rn.Q0d,Rn.Q0h,Rn.setB,Rn.wake,Rn.did,Rn.waited];try omega),by(unfold tfRB;try dsimp only[Rn.goto,Rn.fin,Rn.note,Rn.Q0d,Rn.Q0h,Rn.setB,Rn.wake,Rn.did,Rn.waited];try omega)⟩
theorem tf71_s(hc:AddC c)(c1:c 1=c 0)(c2:c 2=c 0){s1 s2:Rn}(H:RnSh (addT c) (tfRA c) (tfRB c) s1 s2)(ok:OkU s1)(h:s1.f.op=7∧s1.f.line=1):RnSh (addT c) (tfRA c) (tfRB c) (Y4P s1) (Y4P s2):=by
 have hA:=H.2.1
 have hB:=H.2.2
 unfold tfRA at hA
 unfold tfRB at hB
 have HL:=H.1
 have ok1:=ok
 obtain⟨ra,rb,_⟩:=ok1
 have D:DSh c 2 (doA s1.L ⟨1,2,0,0,0⟩) (doA s2.L ⟨1,2,0,0,0⟩):=d_ld hc H.1 ok (j:=2) (by decide)
 have hO:=D.old
 have hR:=D.rng
 have e:Q1s s2.f.a (doA s2.L ⟨1,2,0,0,0⟩).1.old=Q1s s1.f.a (doA s1.L ⟨1,2,0,0,0⟩).1.old:=by rw[show s2.f.a=(s1.f.a+c 0)%4294967296 by omega,hO,c2];exact ahead_sh ra hR
 dsimp only[Y4P,Q5J]
 rw[e]
 refine rn_ite (fun h1=> ?_) (fun h1=>rn_ite (fun h2=> ?_) (fun h2=> ?_))
 all_goals exact⟨by(repeat' first|with_reducible exact HL|with_reducible refine rl_goto ?_ _|with_reducible refine rl_fin ?_ _|with_reducible refine rl_note ?_ _ _|with_reducible refine rl_noted _ ?_|with_reducible refine rl_setA ?_ _ _|with_reducible refine rl_setB ?_ _ _|with_reducible refine rl_wake ?_ _|with_reducible refine rl_did ?_ D.kind D.cell D.L),by(unfold tfRA;try dsimp only[Rn.goto,Rn.fin,Rn.note,Rn.Q0d,Rn.Q0h,Rn.setB,Rn.wake,Rn.did,Rn.waited];try omega),by(unfold tfRB;try dsimp only[Rn.goto,Rn.fin,Rn.note,Rn.Q0d,Rn.Q0h,Rn.setB,Rn.wake,Rn.did,Rn.waited];try omega)⟩
theorem tf52_s(hc:AddC c)(c1:c 1=c 0)(c2:c 2=c 0){s1 s2:Rn}(H:RnSh (addT c) (tfRA c) (tfRB c) s1 s2)(ok:OkU s1)(h:s1.f.op=5∧s1.f.line=2):RnSh (addT c) (tfRA c) (tfRB c) (Y4V s1) (Y4V s2):=by
 have hA:=H.2.1
 have hB:=H.2.2
 unfold tfRA at hA
 unfold tfRB at hB
 have HL:=H.1
 have ok1:=ok
 obtain⟨ra,rb,_⟩:=ok1
 obtain⟨D,ec⟩:=d_cas hc H.1 ok (j:=0) (by decide) (x:=s1.f.a) (y:=(s1.f.a+1)%4294967296) (x':=s2.f.a) (y':=(s2.f.a+1)%4294967296) ra (by omega) (by omega) (by omega)
 have D:DSh c 0 (doA s1.L ⟨5,0,s1.f.a,(s1.f.a+1)%4294967296,0⟩) (doA s2.L ⟨5,0,s2.f.a,(s2.f.a+1)%4294967296,0⟩):=D
 have ec:Q7N s2.L 0 s2.f.a ((s2.f.a+1)%4294967296)=Q7N s1.L 0 s1.f.a ((s1.f.a+1)%4294967296):=ec
 cases hb:Q7N s1.L 0 s1.f.a ((s1.f.a+1)%4294967296)<;>rw[hb]at ec<;>simp only[Y4V,Q2t,hb,ec,if_true,Bool.false_eq_true,if_false]
 all_goals exact⟨by(repeat' first|with_reducible exact HL|with_reducible refine rl_goto ?_ _|with_reducible refine rl_fin ?_ _|with_reducible refine rl_note ?_ _ _|with_reducible refine rl_noted _ ?_|with_reducible refine rl_setA ?_ _ _|with_reducible refine rl_setB ?_ _ _|with_reducible refine rl_wake ?_ _|with_reducible refine rl_did ?_ D.kind D.cell D.L),by(unfold tfRA;try dsimp only[Rn.goto,Rn.fin,Rn.note,Rn.Q0d,Rn.Q0h,Rn.setB,Rn.wake,Rn.did,Rn.waited];try omega),by(unfold tfRB;try dsimp only[Rn.goto,Rn.fin,Rn.note,Rn.Q0d,Rn.Q0h,Rn.setB,Rn.wake,Rn.did,Rn.waited];try omega)⟩
theorem tf62_s(hc:AddC c)(c1:c 1=c 0)(c2:c 2=c 0){s1 s2:Rn}(H:RnSh (addT c) (tfRA c) (tfRB c) s1 s2)(ok:OkU s1)(h:s1.f.op=6∧s1.f.line=2):RnSh (addT c) (tfRA c) (tfRB c) (Y4R s1) (Y4R s2):=by
 have hA:=H.2.1
 have hB:=H.2.2
 unfold tfRA at hA
 unfold tfRB at hB
 have HL:=H.1
 have ok1:=ok
 obtain⟨ra,rb,_⟩:=ok1
 obtain⟨D,ec⟩:=d_cas hc H.1 ok (j:=0) (by decide) (x:=s1.f.a) (y:=(s1.f.a+1)%4294967296) (x':=s2.f.a) (y':=(s2.f.a+1)%4294967296) ra (by omega) (by omega) (by omega)
 have D:DSh c 0 (doA s1.L ⟨5,0,s1.f.a,(s1.f.a+1)%4294967296,0⟩) (doA s2.L ⟨5,0,s2.f.a,(s2.f.a+1)%4294967296,0⟩):=D
 have ec:Q7N s2.L 0 s2.f.a ((s2.f.a+1)%4294967296)=Q7N s1.L 0 s1.f.a ((s1.f.a+1)%4294967296):=ec
 cases hb:Q7N s1.L 0 s1.f.a ((s1.f.a+1)%4294967296)<;>rw[hb]at ec<;>simp only[Y4R,Q2t,hb,ec,if_true,Bool.false_eq_true,if_false]
 all_goals exact⟨by(repeat' first|with_reducible exact HL|with_reducible refine rl_goto ?_ _|with_reducible refine rl_fin ?_ _|with_reducible refine rl_note ?_ _ _|with_reducible refine rl_noted _ ?_|with_reducible refine rl_setA ?_ _ _|with_reducible refine rl_setB ?_ _ _|with_reducible refine rl_wake ?_ _|with_reducible refine rl_did ?_ D.kind D.cell D.L),by(unfold tfRA;try dsimp only[Rn.goto,Rn.fin,Rn.note,Rn.Q0d,Rn.Q0h,Rn.setB,Rn.wake,Rn.did,Rn.waited];try omega),by(unfold tfRB;try dsimp only[Rn.goto,Rn.fin,Rn.note,Rn.Q0d,Rn.Q0h,Rn.setB,Rn.wake,Rn.did,Rn.waited];try omega)⟩
theorem tf72_s(hc:AddC c)(c1:c 1=c 0)(c2:c 2=c 0){s1 s2:Rn}(H:RnSh (addT c) (tfRA c) (tfRB c) s1 s2)(ok:OkU s1)(h:s1.f.op=7∧s1.f.line=2):RnSh (addT c) (tfRA c) (tfRB c) (Y4O s1) (Y4O s2):=by
 have hA:=H.2.1
 have hB:=H.2.2
 unfold tfRA at hA
 unfold tfRB at hB
 have HL:=H.1
 have ok1:=ok
 obtain⟨ra,rb,_⟩:=ok1
 obtain⟨D,ec⟩:=d_cas hc H.1 ok (j:=0) (by decide) (x:=s1.f.a) (y:=(s1.f.a+1)%4294967296) (x':=s2.f.a) (y':=(s2.f.a+1)%4294967296) ra (by omega) (by omega) (by omega)
 have D:DSh c 0 (doA s1.L ⟨5,0,s1.f.a,(s1.f.a+1)%4294967296,0⟩) (doA s2.L ⟨5,0,s2.f.a,(s2.f.a+1)%4294967296,0⟩):=D
 have ec:Q7N s2.L 0 s2.f.a ((s2.f.a+1)%4294967296)=Q7N s1.L 0 s1.f.a ((s1.f.a+1)%4294967296):=ec
 cases hb:Q7N s1.L 0 s1.f.a ((s1.f.a+1)%4294967296)<;>rw[hb]at ec<;>simp only[Y4O,Q2t,hb,ec,if_true,Bool.false_eq_true,if_false]
 all_goals exact⟨by(repeat' first|with_reducible exact HL|with_reducible refine rl_goto ?_ _|with_reducible refine rl_fin ?_ _|with_reducible refine rl_note ?_ _ _|with_reducible refine rl_noted _ ?_|with_reducible refine rl_setA ?_ _ _|with_reducible refine rl_setB ?_ _ _|with_reducible refine rl_wake ?_ _|with_reducible refine rl_did ?_ D.kind D.cell D.L),by(unfold tfRA;try dsimp only[Rn.goto,Rn.fin,Rn.note,Rn.Q0d,Rn.Q0h,Rn.setB,Rn.wake,Rn.did,Rn.waited];try omega),by(unfold tfRB;try dsimp only[Rn.goto,Rn.fin,Rn.note,Rn.Q0d,Rn.Q0h,Rn.setB,Rn.wake,Rn.did,Rn.waited];try omega)⟩
theorem tf_sh(hc:AddC c)(c1:c 1=c 0)(c2:c 2=c 0):LineSh (addT c) (tfRA c) (tfRB c) OkU tfA:=by
 intro s1 s2 H hn ok
 unfold tfA
 rw[H.1.op,H.1.line]
 refine rn_ite (fun h=>tf10_s hc c1 c2 H ok h) (fun _=> ?_)
 refine rn_ite (fun h=>tf11_s hc c1 c2 H ok h) (fun _=> ?_)
 refine rn_ite (fun h=>tf12_s hc c1 c2 H ok h) (fun _=> ?_)
 refine rn_ite (fun h=>tf53_s hc c1 c2 H ok h) (fun _=> ?_)
 refine rn_ite (fun h=>tf80_s hc c1 c2 H ok h) (fun _=> ?_)
 refine rn_ite (fun h=>tf20_s hc c1 c2 H ok h) (fun _=> ?_)
 refine rn_ite (fun h=>tf30_s hc c1 c2 H ok h) (fun _=> ?_)
 refine rn_ite (fun h=>tf31_s hc c1 c2 H ok h) (fun _=> ?_)
 refine rn_ite (fun h=>tf40_s hc c1 c2 H ok h) (fun _=> ?_)
 refine rn_ite (fun h=>tf41_s hc c1 c2 H ok h) (fun _=> ?_)
 refine rn_ite (fun h=>tf50_s hc c1 c2 H ok h) (fun _=> ?_)
 refine rn_ite (fun h=>tf60_s hc c1 c2 H ok h) (fun _=> ?_)
 refine rn_ite (fun h=>tf70_s hc c1 c2 H ok h) (fun _=> ?_)
 refine rn_ite (fun h=>tf51_s hc c1 c2 H ok h) (fun _=> ?_)
 refine rn_ite (fun h=>tf61_s hc c1 c2 H ok h) (fun _=> ?_)
 refine rn_ite (fun h=>tf71_s hc c1 c2 H ok h) (fun _=> ?_)
 refine rn_ite (fun h=>tf52_s hc c1 c2 H ok h) (fun _=> ?_)
 refine rn_ite (fun h=>tf62_s hc c1 c2 H ok h) (fun _=> ?_)
 refine rn_ite (fun h=>tf72_s hc c1 c2 H ok h) (fun _=> ?_)
 refine rn_ite (fun h=>tf73_s hc c1 c2 H ok h) (fun _=> ?_)
 exact H
end
end Go.Proofs.YthnimpkoidablaaGreat.Z
