/- The statement LineSteps, as its row says it: for every input the law returns true, and each argument reads behind the call as it read before. -/
import Derived.Test.YtlndihdlodempaaRows
import Derived.Test.YtlndihdlodempaaZM04LineSteps
import Derived.Test.YtlndihdlodempaaZOpen
import Derived.WalkKit
import Derived.ProofKit
import Derived.OpenShut
import Derived.ChangeOld
import Derived.Below
import Derived.SizedLaws
set_option linter.unusedVariables false
set_option linter.unusedSimpArgs false
namespace Go.Proofs.Ytlndihdlodempaa.rowLineSteps
open Go.ChangeShapes Go.WideShapes Go.ChangeAt Go.RowKit Go.Proofs.Ytlndihdlodempaa.Z
theorem own : ownKnob Try.prog.godebug = none := by kernel_rfl
theorem laidOut : laidOutB Try.prog = true := by kernel_rfl
set_option maxRecDepth 100000 in
theorem flat_wait : Flat Try.prog 25 (fun cs => ∃ a, True ∧ cs = (fun a : Int => [Value.int .i64 a]) a) := by
  refine flat_mono (flat_struct Try.underlying25) ?_
  rintro cs ⟨hl, hf⟩
  rw [show Try.prog.cellsOf 25 = 1 from by kernel_rfl] at hl
  match cs, hl with
  | [c0], _ =>
    obtain ⟨n0, h0, w0⟩ := hf 0 _ _ rfl (flat_int Try.underlying3)
    have e3 : Try.prog.cellsOf 3 = 1 := by kernel_rfl
    simp [e3] at h0
    exact ⟨n0, trivial, by simp [h0]⟩
set_option maxRecDepth 100000 in
theorem flat_wake : Flat Try.prog 27 (fun cs => ∃ a : Wk, (fun _ => True) a ∧ cs = (fun a : Wk => a.cells.toList) a) := by
  refine flat_mono (flat_struct Try.underlying27) ?_
  rintro cs ⟨hl, hf⟩
  rw [show Try.prog.cellsOf 27 = 4 from by kernel_rfl] at hl
  match cs, hl with
  | [c0, c1, c2, c3], _ =>
    obtain ⟨n0, h0⟩ := hf 0 _ _ rfl (flat_bool Try.underlying4)
    obtain ⟨n1, h1, w1⟩ := hf 1 _ _ rfl (flat_int Try.underlying3)
    obtain ⟨n2, h2, w2⟩ := hf 2 _ _ rfl (flat_int Try.underlying3)
    obtain ⟨n3, h3⟩ := hf 3 _ _ rfl (flat_bool Try.underlying4)
    have e0 : Try.prog.cellsOf 4 = 1 := by kernel_rfl
    have e1 : Try.prog.cellsOf 3 = 1 := by kernel_rfl
    simp [e0, e1] at h0 h1 h2 h3
    exact ⟨⟨n0, n1, n2, n3⟩, trivial, by simp [h0, h1, h2, h3, Wk.cells]⟩
set_option maxRecDepth 100000 in
theorem flat_frame : Flat Try.prog 29 (fun cs => ∃ a : Fr, FrOk a ∧ cs = (fun a : Fr => a.cells.toList) a) := by
  refine flat_mono (flat_struct Try.underlying29) ?_
  rintro cs ⟨hl, hf⟩
  rw [show Try.prog.cellsOf 29 = 10 from by kernel_rfl] at hl
  match cs, hl with
  | [c0, c1, c2, c3, c4, c5, c6, c7, c8, c9], _ =>
    obtain ⟨n0, h0, w0⟩ := hf 0 _ _ rfl (flat_int Try.underlying3)
    obtain ⟨n1, h1, w1⟩ := hf 1 _ _ rfl (flat_int Try.underlying3)
    obtain ⟨n2, h2, w2⟩ := hf 2 _ _ rfl (flat_int Try.underlying23)
    obtain ⟨n3, h3, w3⟩ := hf 3 _ _ rfl (flat_int Try.underlying23)
    obtain ⟨n4, w4, h4⟩ := hf 4 _ _ rfl flat_wait
    obtain ⟨n5, w5, h5⟩ := hf 5 _ _ rfl flat_wake
    obtain ⟨n6, h6, w6⟩ := hf 6 _ _ rfl (flat_int Try.underlying3)
    have e0 : Try.prog.cellsOf 3 = 1 := by kernel_rfl
    have e1 : Try.prog.cellsOf 23 = 1 := by kernel_rfl
    have e2 : Try.prog.cellsOf 25 = 1 := by kernel_rfl
    have e3 : Try.prog.cellsOf 27 = 4 := by kernel_rfl
    simp [e0, e1, e2, e3, Wk.cells, Fr.cells] at h0 h1 h2 h3 h4 h5 h6
    exact ⟨⟨n0, n1, n2, n3, n4, n5, n6⟩, ⟨wf_u32 w2, wf_u32 w3⟩, by simp [h0, h1, h2, h3, h4, h5, h6, Wk.cells, Fr.cells]⟩
set_option maxRecDepth 100000 in
theorem flat_until2 : Flat Try.prog 85 (fun cs => ∃ a : (Int × Int × Int), (fun a : Int × Int × Int => (0 ≤ a.2.1 ∧ a.2.1 < 4294967296) ∧ (0 ≤ a.2.2 ∧ a.2.2 < 4294967296)) a ∧ cs = (fun a : Int × Int × Int => [Value.int .i64 a.1, .int .u32 a.2.1, .int .u32 a.2.2]) a) := by
  refine flat_mono (flat_struct Try.underlying85) ?_
  rintro cs ⟨hl, hf⟩
  rw [show Try.prog.cellsOf 85 = 3 from by kernel_rfl] at hl
  match cs, hl with
  | [c0, c1, c2], _ =>
    obtain ⟨n0, h0, w0⟩ := hf 0 _ _ rfl (flat_int Try.underlying3)
    obtain ⟨n1, h1, w1⟩ := hf 1 _ _ rfl (flat_int Try.underlying23)
    obtain ⟨n2, h2, w2⟩ := hf 2 _ _ rfl (flat_int Try.underlying23)
    have e0 : Try.prog.cellsOf 3 = 1 := by kernel_rfl
    have e1 : Try.prog.cellsOf 23 = 1 := by kernel_rfl
    simp [e0, e1] at h0 h1 h2
    exact ⟨(n0, n1, n2), ⟨wf_u32 w1, wf_u32 w2⟩, by simp [h0, h1, h2]⟩
set_option maxRecDepth 100000 in
theorem flat_op9 : Flat Try.prog 87 (fun cs => ∃ a : Op9, Op9Ok a ∧ cs = Op9.cells a) := by
  refine flat_mono (flat_struct Try.underlying87) ?_
  rintro cs ⟨hl, hf⟩
  rw [show Try.prog.cellsOf 87 = 8 from by kernel_rfl] at hl
  match cs, hl with
  | [c0, c1, c2, c3, c4, c5, c6, c7], _ =>
    obtain ⟨n0, h0, w0⟩ := hf 0 _ _ rfl (flat_int Try.underlying3)
    obtain ⟨n1, h1, w1⟩ := hf 1 _ _ rfl (flat_int Try.underlying3)
    obtain ⟨n2, h2, w2⟩ := hf 2 _ _ rfl (flat_int Try.underlying3)
    obtain ⟨n3, h3, w3⟩ := hf 3 _ _ rfl (flat_int Try.underlying23)
    obtain ⟨n4, h4, w4⟩ := hf 4 _ _ rfl (flat_int Try.underlying23)
    obtain ⟨n5, w5, h5⟩ := hf 5 _ _ rfl flat_until2
    have e0 : Try.prog.cellsOf 3 = 1 := by kernel_rfl
    have e1 : Try.prog.cellsOf 23 = 1 := by kernel_rfl
    have e2 : Try.prog.cellsOf 85 = 3 := by kernel_rfl
    simp [e0, e1, e2, Op9.cells] at h0 h1 h2 h3 h4 h5
    exact ⟨⟨n0, n1, n2, n3, n4, n5.1, n5.2.1, n5.2.2⟩, ⟨⟨wf_u32 w3, wf_u32 w4⟩, w5⟩, by simp [h0, h1, h2, h3, h4, h5, Op9.cells]⟩

set_option maxRecDepth 100000 in
theorem lifted (os : Os) (started : os.Started) (H : Type) (enc : TypeId × Value → H) :
    ReturnsInHanded {} Try.checked os 3 .any (Rows.lineStepsSpec.pre6 enc Try.prog Try.f3 Rows.lineStepsRow.domain false) (Rows.lineStepsSpec.post enc Try.prog Try.f3 false true false false) := by
  refine returnsInHanded_of_change_sized (C := Try.checked) own started (by kernel_rfl) Try.func3
    (ChangeSpec.witness6 (enc := enc) (C := Try.checked) false ⟨#[], #[.slice none 0 0, .int .i64 0, .int .i64 0, .int .i64 0, .agg #[.int .i64 0, .int .i64 0, .int .u32 0, .int .u32 0, .int .i64 0, .bool false, .int .i64 0, .int .i64 0, .bool false, .int .i64 0], .slice none 0 0], []⟩ 8 (by kernel_rfl) (by kernel_rfl) (by kernel_rfl) (by kernel_rfl)) ?_
  intro W base args ds gs before hval0 hW hcnd hsz0 _
  have hval : ∀ (j : Nat) t v, Try.f3.params[j]? = some t → args[j]? = some v → Value.okWide Try.prog W .any base t v := hval0
  have hW' := hW
  obtain ⟨p, q, hA0, hV, rfl, hfz, hnd⟩ := hW
  have hA : DataW.TrodAll enc Try.prog W 0 (fun _ => true) true Try.f3.params.toList args.toList ds p := hA0
  rw [Try.params3] at hA hval
  obtain ⟨v0, vs0, d0, ds0, p0, q0, hargs, rfl, rfl, h0, r0⟩ := trodAll_cons hA
  obtain ⟨v1, vs1, d1, ds1, p1, q1, rfl, rfl, rfl, h1, r1⟩ := trodAll_cons r0
  obtain ⟨v2, vs2, d2, ds2, p2, q2, rfl, rfl, rfl, h2, r2⟩ := trodAll_cons r1
  obtain ⟨v3, vs3, d3, ds3, p3, q3, rfl, rfl, rfl, h3, r3⟩ := trodAll_cons r2
  obtain ⟨v4, vs4, d4, ds4, p4, q4, rfl, rfl, rfl, h4, r4⟩ := trodAll_cons r3
  obtain ⟨v5, vs5, d5, ds5, p5, q5, rfl, rfl, rfl, h5, r5⟩ := trodAll_cons r4
  obtain ⟨rfl, rfl, rfl⟩ := trodAll_nil r5
  obtain rfl : args = #[v0, v1, v2, v3, v4, v5] := by cases args; simp_all
  obtain ⟨rfl, rfl⟩ := trodVars_none hV
  have lt0 : ∀ x ∈ p0, x.block < W.heap.size := by obtain ⟨m, hm⟩ := h0; exact DataW.trod_lt m _ _ _ hm
  obtain ⟨A0, n0, c0, rfl⟩ := okWide_slice Try.underlying22 (hval 0 22 v0 rfl rfl)
  obtain ⟨l0, e0, o0, r100, b0, m0⟩ := open_list (α := Int) (dec := (fun x => [.int .u32 x])) (ok := (fun x => 0 ≤ x ∧ x < 4294967296)) (size := 1) Try.underlying22 (flat_mono (flat_int Try.underlying23) (fun cs ⟨n, h, hw⟩ => ⟨n, wf_u32 hw, h⟩)) (by kernel_rfl) (by decide) (fun _ => rfl) h0 lt0
  have lt1 : ∀ x ∈ p1, x.block < W.heap.size := by obtain ⟨m, hm⟩ := h1; exact DataW.trod_lt m _ _ _ hm
  obtain ⟨a1, rfl, w1⟩ := open_num Try.underlying3 (hval 1 3 v1 rfl rfl) h1
  have lt2 : ∀ x ∈ p2, x.block < W.heap.size := by obtain ⟨m, hm⟩ := h2; exact DataW.trod_lt m _ _ _ hm
  obtain ⟨a2, rfl, w2⟩ := open_num Try.underlying3 (hval 2 3 v2 rfl rfl) h2
  have lt3 : ∀ x ∈ p3, x.block < W.heap.size := by obtain ⟨m, hm⟩ := h3; exact DataW.trod_lt m _ _ _ hm
  obtain ⟨a3, rfl, w3⟩ := open_num Try.underlying3 (hval 3 3 v3 rfl rfl) h3
  have lt4 : ∀ x ∈ p4, x.block < W.heap.size := by obtain ⟨m, hm⟩ := h4; exact DataW.trod_lt m _ _ _ hm
  obtain ⟨a4, o4, rfl⟩ := open_flat (dec := (fun a : Fr => a.cells.toList)) (ok := FrOk) Try.underlying29 flat_frame (hval 4 29 v4 rfl rfl) h4
  have lt5 : ∀ x ∈ p5, x.block < W.heap.size := by obtain ⟨m, hm⟩ := h5; exact DataW.trod_lt m _ _ _ hm
  obtain ⟨A5, n5, c5, rfl⟩ := okWide_slice Try.underlying30 (hval 5 30 v5 rfl rfl)
  obtain ⟨l5, e5, i5, r105⟩ := open_lists (α := Op9) (dec := Op9.cells) (ok := Op9Ok) (size := 8) Try.underlying30 Try.underlying48 (by kernel_rfl) flat_op9 (by kernel_rfl) (by decide) (fun _ => rfl) h5
  refine (lineSteps_any W r100 o0 a1 a2 a3 a4 o4 (wf_i64 w1) r105 e5 i5).mono fun e W' ⟨he, tch⟩ => ?_
  have bel : Below W.heap.size W W' := tch.below (Nat.le_refl _) (by simp)
  subst he
  exact ⟨_, rfl, _, _, _, [], _, [], hW', trodAll_mk1 (shut_bool Try.underlying4 _), (trodAll_cons_mk (Below.trod laidOut (by kernel_rfl) (of_decide_eq_true (by kernel_rfl)) h0 bel lt0) (trodAll_cons_mk (Below.trod laidOut (by kernel_rfl) (of_decide_eq_true (by kernel_rfl)) h1 bel lt1) (trodAll_cons_mk (Below.trod laidOut (by kernel_rfl) (of_decide_eq_true (by kernel_rfl)) h2 bel lt2) (trodAll_cons_mk (Below.trod laidOut (by kernel_rfl) (of_decide_eq_true (by kernel_rfl)) h3 bel lt3) (trodAll_cons_mk (Below.trod laidOut (by kernel_rfl) (of_decide_eq_true (by kernel_rfl)) h4 bel lt4) (trodAll_cons_mk (Below.trod laidOut (by kernel_rfl) (of_decide_eq_true (by kernel_rfl)) h5 bel lt5) trodAll_mk0)))))), rfl, bel.frame _, fun h => by cases h⟩
theorem named : Try.pinned.checked.prog.funcNamed Rows.lineStepsRow.func = some 3 := by kernel_rfl
theorem fLaid : laidOutB Try.pinned.checked.prog = true := laidOut
theorem fMaps : mapsRowed Try.pinned.checked.prog = true := by kernel_rfl
theorem fStops : Try.pinned.checked.prog.stops = [] := by kernel_rfl
theorem fKnobs : Try.pinned.checked.prog.stopKnobs = [] := by kernel_rfl
theorem fPlace : Try.pinned.checked.prog.inPlace 3 = Rows.lineStepsRow.inPlace := by kernel_rfl
theorem fUnf : Try.pinned.checked.prog.unfollowed 3 = Rows.lineStepsRow.unfollowed := by kernel_rfl
theorem fRec : Try.pinned.checked.prog.recurses 3 = Rows.lineStepsRow.recurses := by kernel_rfl
theorem fNamed : Try.pinned.checked.prog.varsNamed 3 = Rows.lineStepsRow.named := by kernel_rfl
theorem fPlain : Try.pinned.checked.prog.plainKeys = Rows.lineStepsRow.plainKeys := by kernel_rfl
theorem fHeard : Try.pinned.checked.prog.stopsHeard = true := by kernel_rfl
theorem fEnter : Try.pinned.checked.prog.mayEnter = true := by kernel_rfl
theorem fLift : Try.pinned.checked.prog.liftsFinal = Rows.lineStepsRow.lifted := by kernel_rfl
theorem fMake : Try.pinned.checked.prog.make = some Rows.lineStepsRow.make := by kernel_rfl
theorem facts : joinedFacts Try.pinned.checked.prog 3 Try.f3 Rows.lineStepsSpec Rows.lineStepsRow = true := by
  unfold joinedFacts
  rw [fLaid, fMaps, fStops, fKnobs, fPlace, fUnf, fRec, fNamed, fPlain, fHeard, fEnter, fLift, fMake]
  kernel_rfl
theorem inst : Try.f3.isInstance Try.pinned.checked.prog Rows.lineStepsRow.origin Rows.lineStepsRow.targs := of_decide_eq_true (by kernel_rfl)
theorem wrap : Try.f3.isWrapper Try.pinned.checked.prog Rows.lineStepsRow.wrapper Rows.lineStepsRow.mainSum := by unfold Func.isWrapper; first | (rw [if_pos (by decide +kernel)]; kernel_rfl) | (rw [if_neg (by decide +kernel)]; exact ⟨rfl, rfl⟩)
theorem over : Rows.lineStepsRow.holds Try.pinned (OpenSpec.ofChange Rows.lineStepsSpec) :=
  OpenClaim.holds_of_wide 3 Try.f3 rfl rfl rfl rfl rfl rfl rfl ⟨rfl, rfl, rfl, rfl, rfl⟩ rfl rfl rfl rfl rfl named Try.func3 facts inst wrap
    (fun os started H enc _ => lifted os started H enc)
end Go.Proofs.Ytlndihdlodempaa.rowLineSteps
namespace Go.Proofs.Ytlndihdlodempaa
/-- The row, for the claim. -/
theorem lineSteps_holds : Rows.LineStepsSaid := rowLineSteps.over
#print axioms lineSteps_holds
end Go.Proofs.Ytlndihdlodempaa
