/- The statement WholeRound, as its row says it: for every input the law returns true, and each argument reads behind the call as it read before. -/
import Derived.Test.YthnimpkoidablaaGreatRows
import Derived.WalkKit
import Derived.ProofKit
import Derived.OpenShut
import Derived.ChangeOld
import Derived.Below
import Derived.SizedLaws
import Derived.Test.YthnimpkoidablaaGreatZR12
set_option linter.unusedVariables false
set_option linter.unusedSimpArgs false
namespace Go.Proofs.YthnimpkoidablaaGreat.rowWholeRound
open Go.ChangeShapes Go.WideShapes Go.ChangeAt Go.RowKit Go.Proofs.YthnimpkoidablaaGreat.Z
theorem own:ownKnob Tryz.prog.godebug=none:=by kernel_rfl
theorem laidOut:laidOutB Tryz.prog=true:=by kernel_rfl
set_option maxRecDepth 100000 in
theorem Q8O:Flat Tryz.prog 24 (fun cs=> ∃a:Lk,X5V a∧cs=Lk.cells a):=by
 refine Q7b (Q5t Tryz.underlying24) ?_
 rintro cs⟨hl,hf⟩
 rw[show Tryz.prog.cellsOf 24=4 from by kernel_rfl]at hl
 match cs,hl with
 |[c0,c1,c2,c3],_=>
  obtain⟨n0,h0,w0⟩:=hf 0 _ _ rfl (Q3y Tryz.underlying5)
  obtain⟨n1,h1,w1⟩:=hf 1 _ _ rfl (Q3y Tryz.underlying5)
  obtain⟨n2,h2,w2⟩:=hf 2 _ _ rfl (Q3y Tryz.underlying5)
  obtain⟨n3,h3,w3⟩:=hf 3 _ _ rfl (Q3y Tryz.underlying22)
  have e0:Tryz.prog.cellsOf 5=1:=by kernel_rfl
  have e1:Tryz.prog.cellsOf 22=1:=by kernel_rfl
  simp[e0,e1,Lk.cells]at h0 h1 h2 h3
  exact⟨⟨n0,n1,n2,n3⟩,⟨⟨wf_u8 w0,wf_u8 w1⟩,wf_u8 w2,wf_u32 w3⟩,by simp[h0,h1,h2,h3,Lk.cells]⟩
set_option maxRecDepth 100000 in
theorem Q8N:Flat Tryz.prog 38 (fun cs=> ∃a:(Int×Int),(fun _=>True) a∧cs=Q2W a):=by
 refine Q7b (Q5t Tryz.underlying38) ?_
 rintro cs⟨hl,hf⟩
 rw[show Tryz.prog.cellsOf 38=2 from by kernel_rfl]at hl
 match cs,hl with
 |[c0,c1],_=>
  obtain⟨n0,h0,w0⟩:=hf 0 _ _ rfl (Q3y Tryz.underlying3)
  obtain⟨n1,h1,w1⟩:=hf 1 _ _ rfl (Q3y Tryz.underlying3)
  have e0:Tryz.prog.cellsOf 3=1:=by kernel_rfl
  simp[e0,Q2W]at h0 h1
  exact⟨(n0,n1),trivial,by simp[h0,h1,Q2W]⟩
set_option maxRecDepth 100000 in
theorem lifted(os:Os)(started:os.Started)(H:Type)(enc:TypeId×Value→H):
 ReturnsInHanded {} Tryz.checked os 7 .any (Rows.wholeRoundSpec.pre6 enc Tryz.prog Tryz.f7 Rows.wholeRoundRow.domain false) (Rows.wholeRoundSpec.post enc Tryz.prog Tryz.f7 false true false false):=by
 refine returnsInHanded_of_change_sized (C:=Tryz.checked) own started (by kernel_rfl) Tryz.func7
  (ChangeSpec.witness6 (enc:=enc) (C:=Tryz.checked) false ⟨#[], #[.agg #[.int .u8 0, .int .u8 0, .int .u8 0, .int .u32 0], .int .u32 0, .slice none 0 0],[]⟩ 8 (by kernel_rfl) (by kernel_rfl) (by kernel_rfl) (by kernel_rfl)) ?_
 intro W base args ds gs before hval0 hW hcnd hsz0 _
 have hval: ∀(j:Nat) t v,Tryz.f7.params[j]? =some t→args[j]? =some v→Value.okWide Tryz.prog W .any base t v:=hval0
 have hW':=hW
 obtain⟨p,q,hA0,hV,rfl,hfz,hnd⟩:=hW
 have hA:DataW.TrodAll enc Tryz.prog W 0 (fun _=>true) true Tryz.f7.params.toList args.toList ds p:=hA0
 rw[Tryz.params7]at hA hval
 obtain⟨v0,vs0,d0,ds0,p0,q0,hargs,rfl,rfl,h0,r0⟩:=trodAll_cons hA
 obtain⟨v1,vs1,d1,ds1,p1,q1,rfl,rfl,rfl,h1,r1⟩:=trodAll_cons r0
 obtain⟨v2,vs2,d2,ds2,p2,q2,rfl,rfl,rfl,h2,r2⟩:=trodAll_cons r1
 obtain⟨rfl,rfl,rfl⟩:=trodAll_nil r2
 obtain rfl:args= #[v0,v1,v2]:=by cases args;simp_all
 obtain⟨rfl,rfl⟩:=trodVars_none hV
 have lt0: ∀x∈p0,x.block<W.heap.size:=by obtain⟨m,hm⟩:=h0;exact DataW.trod_lt m _ _ _ hm
 obtain⟨a0,o0,rfl⟩:=X1C (dec:=Lk.cells) (ok:=X5V) Tryz.underlying24 Q8O (hval 0 24 v0 rfl rfl) h0
 have lt1: ∀x∈p1,x.block<W.heap.size:=by obtain⟨m,hm⟩:=h1;exact DataW.trod_lt m _ _ _ hm
 obtain⟨a1,rfl,w1⟩:=X3P Tryz.underlying22 (hval 1 22 v1 rfl rfl) h1
 have lt2: ∀x∈p2,x.block<W.heap.size:=by obtain⟨m,hm⟩:=h2;exact DataW.trod_lt m _ _ _ hm
 obtain⟨A2,n2,c2,rfl⟩:=okWide_slice Tryz.underlying25 (hval 2 25 v2 rfl rfl)
 obtain⟨l2,e2,o2,r102,b2,m2⟩:=open_list (α:=(Int×Int)) (dec:=Q2W) (ok:=(fun _=>True)) (size:=2) Tryz.underlying25 Q8N (by kernel_rfl) (by decide) (fun _=>rfl) h2 lt2
 refine(wholeRound_any W a0 o0 a1 (wf_u32 w1) r102).mono fun e W' ⟨he,tch⟩=> ?_
 have bel:Below W.heap.size W W':=tch.below (Nat.le_refl _) (by simp)
 subst he
 exact⟨_,rfl,_,_,_,[],_,[],hW',trodAll_mk1 (shut_bool Tryz.underlying4 _),(trodAll_cons_mk (Below.trod laidOut (by kernel_rfl) (of_decide_eq_true (by kernel_rfl)) h0 bel lt0) (trodAll_cons_mk (Below.trod laidOut (by kernel_rfl) (of_decide_eq_true (by kernel_rfl)) h1 bel lt1) (trodAll_cons_mk (Below.trod laidOut (by kernel_rfl) (of_decide_eq_true (by kernel_rfl)) h2 bel lt2) trodAll_mk0))),rfl,bel.frame _,fun h=>by cases h⟩
theorem named:Tryz.pinned.checked.prog.funcNamed Rows.wholeRoundRow.func=some 7:=by kernel_rfl
theorem Y4o:laidOutB Tryz.pinned.checked.prog=true:=laidOut
theorem Y4l:mapsRowed Tryz.pinned.checked.prog=true:=by kernel_rfl
theorem X9j:Tryz.pinned.checked.prog.stops=[]:=by kernel_rfl
theorem X9n:Tryz.pinned.checked.prog.stopKnobs=[]:=by kernel_rfl
theorem X9l:Tryz.pinned.checked.prog.inPlace 7=Rows.wholeRoundRow.inPlace:=by kernel_rfl
theorem fUnf:Tryz.pinned.checked.prog.unfollowed 7=Rows.wholeRoundRow.unfollowed:=by kernel_rfl
theorem fRec:Tryz.pinned.checked.prog.recurses 7=Rows.wholeRoundRow.recurses:=by kernel_rfl
theorem X9m:Tryz.pinned.checked.prog.varsNamed 7=Rows.wholeRoundRow.named:=by kernel_rfl
theorem X9k:Tryz.pinned.checked.prog.plainKeys=Rows.wholeRoundRow.plainKeys:=by kernel_rfl
theorem X9o:Tryz.pinned.checked.prog.stopsHeard=true:=by kernel_rfl
theorem X9p:Tryz.pinned.checked.prog.mayEnter=true:=by kernel_rfl
theorem Y4n:Tryz.pinned.checked.prog.liftsFinal=Rows.wholeRoundRow.lifted:=by kernel_rfl
theorem Y4m:Tryz.pinned.checked.prog.make=some Rows.wholeRoundRow.make:=by kernel_rfl
theorem facts:joinedFacts Tryz.pinned.checked.prog 7 Tryz.f7 Rows.wholeRoundSpec Rows.wholeRoundRow=true:=by
 unfold joinedFacts
 rw[Y4o,Y4l,X9j,X9n,X9l,fUnf,fRec,X9m,X9k,X9o,X9p,Y4n,Y4m]
 kernel_rfl
theorem inst:Tryz.f7.isInstance Tryz.pinned.checked.prog Rows.wholeRoundRow.origin Rows.wholeRoundRow.targs:=of_decide_eq_true (by kernel_rfl)
theorem wrap:Tryz.f7.isWrapper Tryz.pinned.checked.prog Rows.wholeRoundRow.wrapper Rows.wholeRoundRow.mainSum:=by unfold Func.isWrapper;first|(rw[if_pos (by decide+kernel)];kernel_rfl)|(rw[if_neg (by decide+kernel)];exact⟨rfl,rfl⟩)
theorem over:Rows.wholeRoundRow.holds Tryz.pinned (OpenSpec.ofChange Rows.wholeRoundSpec):=
 OpenClaim.holds_of_wide 7 Tryz.f7 rfl rfl rfl rfl rfl rfl rfl ⟨rfl,rfl,rfl,rfl,rfl⟩ rfl rfl rfl rfl rfl named Tryz.func7 facts inst wrap
  (fun os started H enc _=>lifted os started H enc)
end Go.Proofs.YthnimpkoidablaaGreat.rowWholeRound
namespace Go.Proofs.YthnimpkoidablaaGreat
theorem wholeRound_holds:Rows.WholeRoundSaid:=rowWholeRound.over
#print axioms wholeRound_holds
end Go.Proofs.YthnimpkoidablaaGreat
