/- The statement MutexSteps, as its row says it: for every input the law returns true, and each argument reads behind the call as it read before. -/
import Derived.Test.YtlndihdlodempaaRows
import Derived.Test.YtlndihdlodempaaZM04MutexSteps
import Derived.Test.YtlndihdlodempaaZM02MutexSteps
import Derived.WalkKit
import Derived.ProofKit
import Derived.OpenShut
import Derived.ChangeOld
import Derived.Below
import Derived.SizedLaws
set_option linter.unusedVariables false
set_option linter.unusedSimpArgs false
namespace Go.Proofs.Ytlndihdlodempaa.rowMutexSteps
open Go.ChangeShapes Go.WideShapes Go.ChangeAt Go.RowKit Go.Proofs.Ytlndihdlodempaa.Z
theorem own : ownKnob Try.prog.godebug = none := by kernel_rfl
theorem laidOut : laidOutB Try.prog = true := by kernel_rfl
set_option maxRecDepth 100000 in
theorem flat_wait : Flat Try.prog 25 (fun cs => ∃ a, True ∧ cs = (fun a : Int => [Value.int .i64 a]) a) := by
  refine flat_mono (flat_struct Try.underlying25) ?_
  rintro cs ⟨hl, hf⟩
  rw [show Try.prog.cellsOf 25 = 1 from by kernel_rfl] at hl
  match cs, hl with
  | [c0], _ =>
    obtain ⟨n0, h0, w0⟩ := hf 0 _ _ rfl (flat_int Try.underlying3)
    have e3 : Try.prog.cellsOf 3 = 1 := by kernel_rfl
    simp [e3] at h0
    exact ⟨n0, trivial, by simp [h0]⟩
set_option maxRecDepth 100000 in
theorem flat_wake : Flat Try.prog 27 (fun cs => ∃ a : Wk, (fun _ => True) a ∧ cs = (fun a : Wk => a.cells.toList) a) := by
  refine flat_mono (flat_struct Try.underlying27) ?_
  rintro cs ⟨hl, hf⟩
  rw [show Try.prog.cellsOf 27 = 4 from by kernel_rfl] at hl
  match cs, hl with
  | [c0, c1, c2, c3], _ =>
    obtain ⟨n0, h0⟩ := hf 0 _ _ rfl (flat_bool Try.underlying4)
    obtain ⟨n1, h1, w1⟩ := hf 1 _ _ rfl (flat_int Try.underlying3)
    obtain ⟨n2, h2, w2⟩ := hf 2 _ _ rfl (flat_int Try.underlying3)
    obtain ⟨n3, h3⟩ := hf 3 _ _ rfl (flat_bool Try.underlying4)
    have e0 : Try.prog.cellsOf 4 = 1 := by kernel_rfl
    have e1 : Try.prog.cellsOf 3 = 1 := by kernel_rfl
    simp [e0, e1] at h0 h1 h2 h3
    exact ⟨⟨n0, n1, n2, n3⟩, trivial, by simp [h0, h1, h2, h3, Wk.cells]⟩
set_option maxRecDepth 100000 in
theorem flat_frame : Flat Try.prog 29 (fun cs => ∃ a : Fr, FrOk a ∧ cs = (fun a : Fr => a.cells.toList) a) := by
  refine flat_mono (flat_struct Try.underlying29) ?_
  rintro cs ⟨hl, hf⟩
  rw [show Try.prog.cellsOf 29 = 10 from by kernel_rfl] at hl
  match cs, hl with
  | [c0, c1, c2, c3, c4, c5, c6, c7, c8, c9], _ =>
    obtain ⟨n0, h0, w0⟩ := hf 0 _ _ rfl (flat_int Try.underlying3)
    obtain ⟨n1, h1, w1⟩ := hf 1 _ _ rfl (flat_int Try.underlying3)
    obtain ⟨n2, h2, w2⟩ := hf 2 _ _ rfl (flat_int Try.underlying23)
    obtain ⟨n3, h3, w3⟩ := hf 3 _ _ rfl (flat_int Try.underlying23)
    obtain ⟨n4, w4, h4⟩ := hf 4 _ _ rfl flat_wait
    obtain ⟨n5, w5, h5⟩ := hf 5 _ _ rfl flat_wake
    obtain ⟨n6, h6, w6⟩ := hf 6 _ _ rfl (flat_int Try.underlying3)
    have e0 : Try.prog.cellsOf 3 = 1 := by kernel_rfl
    have e1 : Try.prog.cellsOf 23 = 1 := by kernel_rfl
    have e2 : Try.prog.cellsOf 25 = 1 := by kernel_rfl
    have e3 : Try.prog.cellsOf 27 = 4 := by kernel_rfl
    simp [e0, e1, e2, e3, Wk.cells, Fr.cells] at h0 h1 h2 h3 h4 h5 h6
    exact ⟨⟨n0, n1, n2, n3, n4, n5, n6⟩, ⟨wf_u32 w2, wf_u32 w3⟩, by simp [h0, h1, h2, h3, h4, h5, h6, Wk.cells, Fr.cells]⟩

set_option maxRecDepth 100000 in
theorem lifted (os : Os) (started : os.Started) (H : Type) (enc : TypeId × Value → H) :
    ReturnsInHanded {} Try.checked os 4 .any (Rows.mutexStepsSpec.pre6 enc Try.prog Try.f4 Rows.mutexStepsRow.domain false) (Rows.mutexStepsSpec.post enc Try.prog Try.f4 false true false false) := by
  refine returnsInHanded_of_change_sized (C := Try.checked) own started (by kernel_rfl) Try.func4
    (ChangeSpec.witness6 (enc := enc) (C := Try.checked) false ⟨#[], #[.slice none 0 0, .int .i64 0, .int .i64 0, .int .i64 0, .agg #[.int .i64 0, .int .i64 0, .int .u32 0, .int .u32 0, .int .i64 0, .bool false, .int .i64 0, .int .i64 0, .bool false, .int .i64 0], .int .i64 0, .int .i64 0, .int .i64 0, .slice none 0 0], []⟩ 8 (by kernel_rfl) (by kernel_rfl) (by kernel_rfl) (by kernel_rfl)) ?_
  intro W base args ds gs before hval0 hW hcnd hsz0 _
  have hval : ∀ (j : Nat) t v, Try.f4.params[j]? = some t → args[j]? = some v → Value.okWide Try.prog W .any base t v := hval0
  have hW' := hW
  obtain ⟨p, q, hA0, hV, rfl, hfz, hnd⟩ := hW
  have hA : DataW.TrodAll enc Try.prog W 0 (fun _ => true) true Try.f4.params.toList args.toList ds p := hA0
  rw [Try.params4] at hA hval
  obtain ⟨v0, vs0, d0, ds0, p0, q0, hargs, rfl, rfl, h0, r0⟩ := trodAll_cons hA
  obtain ⟨v1, vs1, d1, ds1, p1, q1, rfl, rfl, rfl, h1, r1⟩ := trodAll_cons r0
  obtain ⟨v2, vs2, d2, ds2, p2, q2, rfl, rfl, rfl, h2, r2⟩ := trodAll_cons r1
  obtain ⟨v3, vs3, d3, ds3, p3, q3, rfl, rfl, rfl, h3, r3⟩ := trodAll_cons r2
  obtain ⟨v4, vs4, d4, ds4, p4, q4, rfl, rfl, rfl, h4, r4⟩ := trodAll_cons r3
  obtain ⟨v5, vs5, d5, ds5, p5, q5, rfl, rfl, rfl, h5, r5⟩ := trodAll_cons r4
  obtain ⟨v6, vs6, d6, ds6, p6, q6, rfl, rfl, rfl, h6, r6⟩ := trodAll_cons r5
  obtain ⟨v7, vs7, d7, ds7, p7, q7, rfl, rfl, rfl, h7, r7⟩ := trodAll_cons r6
  obtain ⟨v8, vs8, d8, ds8, p8, q8, rfl, rfl, rfl, h8, r8⟩ := trodAll_cons r7
  obtain ⟨rfl, rfl, rfl⟩ := trodAll_nil r8
  obtain rfl : args = #[v0, v1, v2, v3, v4, v5, v6, v7, v8] := by cases args; simp_all
  obtain ⟨rfl, rfl⟩ := trodVars_none hV
  have lt0 : ∀ x ∈ p0, x.block < W.heap.size := by obtain ⟨m, hm⟩ := h0; exact DataW.trod_lt m _ _ _ hm
  obtain ⟨A0, n0, c0, rfl⟩ := okWide_slice Try.underlying22 (hval 0 22 v0 rfl rfl)
  obtain ⟨l0, e0, o0, r100, b0, m0⟩ := open_list (α := Int) (dec := (fun x => [.int .u32 x])) (ok := (fun x => 0 ≤ x ∧ x < 4294967296)) (size := 1) Try.underlying22 (flat_mono (flat_int Try.underlying23) (fun cs ⟨n, h, hw⟩ => ⟨n, wf_u32 hw, h⟩)) (by kernel_rfl) (by decide) (fun _ => rfl) h0 lt0
  have lt1 : ∀ x ∈ p1, x.block < W.heap.size := by obtain ⟨m, hm⟩ := h1; exact DataW.trod_lt m _ _ _ hm
  obtain ⟨a1, rfl, w1⟩ := open_num Try.underlying3 (hval 1 3 v1 rfl rfl) h1
  have lt2 : ∀ x ∈ p2, x.block < W.heap.size := by obtain ⟨m, hm⟩ := h2; exact DataW.trod_lt m _ _ _ hm
  obtain ⟨a2, rfl, w2⟩ := open_num Try.underlying3 (hval 2 3 v2 rfl rfl) h2
  have lt3 : ∀ x ∈ p3, x.block < W.heap.size := by obtain ⟨m, hm⟩ := h3; exact DataW.trod_lt m _ _ _ hm
  obtain ⟨a3, rfl, w3⟩ := open_num Try.underlying3 (hval 3 3 v3 rfl rfl) h3
  have lt4 : ∀ x ∈ p4, x.block < W.heap.size := by obtain ⟨m, hm⟩ := h4; exact DataW.trod_lt m _ _ _ hm
  obtain ⟨a4, o4, rfl⟩ := open_flat (dec := (fun a : Fr => a.cells.toList)) (ok := FrOk) Try.underlying29 flat_frame (hval 4 29 v4 rfl rfl) h4
  have lt5 : ∀ x ∈ p5, x.block < W.heap.size := by obtain ⟨m, hm⟩ := h5; exact DataW.trod_lt m _ _ _ hm
  obtain ⟨a5, rfl, w5⟩ := open_num Try.underlying3 (hval 5 3 v5 rfl rfl) h5
  have lt6 : ∀ x ∈ p6, x.block < W.heap.size := by obtain ⟨m, hm⟩ := h6; exact DataW.trod_lt m _ _ _ hm
  obtain ⟨a6, rfl, w6⟩ := open_num Try.underlying3 (hval 6 3 v6 rfl rfl) h6
  have lt7 : ∀ x ∈ p7, x.block < W.heap.size := by obtain ⟨m, hm⟩ := h7; exact DataW.trod_lt m _ _ _ hm
  obtain ⟨a7, rfl, w7⟩ := open_num Try.underlying3 (hval 7 3 v7 rfl rfl) h7
  have lt8 : ∀ x ∈ p8, x.block < W.heap.size := by obtain ⟨m, hm⟩ := h8; exact DataW.trod_lt m _ _ _ hm
  obtain ⟨A8, n8, c8, rfl⟩ := okWide_slice Try.underlying59 (hval 8 59 v8 rfl rfl)
  obtain ⟨l8, e8, o8, r108, b8, m8⟩ := open_list (α := Int) (dec := (fun x => [.int .i64 x])) (ok := (fun _ => True)) (size := 1) Try.underlying59 (flat_mono (flat_int Try.underlying3) (fun cs ⟨n, h, hw⟩ => ⟨n, trivial, h⟩)) (by kernel_rfl) (by decide) (fun _ => rfl) h8 lt8
  refine (mutexSteps_any W r100 o0 a1 a2 a3 a4 o4 a5 a6 a7 (wf_i64 w1) r108).mono fun e W' ⟨he, tch⟩ => ?_
  have bel : Below W.heap.size W W' := tch.below (Nat.le_refl _) (by simp)
  subst he
  exact ⟨_, rfl, _, _, _, [], _, [], hW', trodAll_mk1 (shut_bool Try.underlying4 _), (trodAll_cons_mk (Below.trod laidOut (by kernel_rfl) (of_decide_eq_true (by kernel_rfl)) h0 bel lt0) (trodAll_cons_mk (Below.trod laidOut (by kernel_rfl) (of_decide_eq_true (by kernel_rfl)) h1 bel lt1) (trodAll_cons_mk (Below.trod laidOut (by kernel_rfl) (of_decide_eq_true (by kernel_rfl)) h2 bel lt2) (trodAll_cons_mk (Below.trod laidOut (by kernel_rfl) (of_decide_eq_true (by kernel_rfl)) h3 bel lt3) (trodAll_cons_mk (Below.trod laidOut (by kernel_rfl) (of_decide_eq_true (by kernel_rfl)) h4 bel lt4) (trodAll_cons_mk (Below.trod laidOut (by kernel_rfl) (of_decide_eq_true (by kernel_rfl)) h5 bel lt5) (trodAll_cons_mk (Below.trod laidOut (by kernel_rfl) (of_decide_eq_true (by kernel_rfl)) h6 bel lt6) (trodAll_cons_mk (Below.trod laidOut (by kernel_rfl) (of_decide_eq_true (by kernel_rfl)) h7 bel lt7) (trodAll_cons_mk (Below.trod laidOut (by kernel_rfl) (of_decide_eq_true (by kernel_rfl)) h8 bel lt8) trodAll_mk0))))))))), rfl, bel.frame _, fun h => by cases h⟩
theorem named : Try.pinned.checked.prog.funcNamed Rows.mutexStepsRow.func = some 4 := by kernel_rfl
theorem fLaid : laidOutB Try.pinned.checked.prog = true := laidOut
theorem fMaps : mapsRowed Try.pinned.checked.prog = true := by kernel_rfl
theorem fStops : Try.pinned.checked.prog.stops = [] := by kernel_rfl
theorem fKnobs : Try.pinned.checked.prog.stopKnobs = [] := by kernel_rfl
theorem fPlace : Try.pinned.checked.prog.inPlace 4 = Rows.mutexStepsRow.inPlace := by kernel_rfl
theorem fUnf : Try.pinned.checked.prog.unfollowed 4 = Rows.mutexStepsRow.unfollowed := by kernel_rfl
theorem fRec : Try.pinned.checked.prog.recurses 4 = Rows.mutexStepsRow.recurses := by kernel_rfl
theorem fNamed : Try.pinned.checked.prog.varsNamed 4 = Rows.mutexStepsRow.named := by kernel_rfl
theorem fPlain : Try.pinned.checked.prog.plainKeys = Rows.mutexStepsRow.plainKeys := by kernel_rfl
theorem fHeard : Try.pinned.checked.prog.stopsHeard = true := by kernel_rfl
theorem fEnter : Try.pinned.checked.prog.mayEnter = true := by kernel_rfl
theorem fLift : Try.pinned.checked.prog.liftsFinal = Rows.mutexStepsRow.lifted := by kernel_rfl
theorem fMake : Try.pinned.checked.prog.make = some Rows.mutexStepsRow.make := by kernel_rfl
theorem facts : joinedFacts Try.pinned.checked.prog 4 Try.f4 Rows.mutexStepsSpec Rows.mutexStepsRow = true := by
  unfold joinedFacts
  rw [fLaid, fMaps, fStops, fKnobs, fPlace, fUnf, fRec, fNamed, fPlain, fHeard, fEnter, fLift, fMake]
  kernel_rfl
theorem inst : Try.f4.isInstance Try.pinned.checked.prog Rows.mutexStepsRow.origin Rows.mutexStepsRow.targs := of_decide_eq_true (by kernel_rfl)
theorem wrap : Try.f4.isWrapper Try.pinned.checked.prog Rows.mutexStepsRow.wrapper Rows.mutexStepsRow.mainSum := by unfold Func.isWrapper; first | (rw [if_pos (by decide +kernel)]; kernel_rfl) | (rw [if_neg (by decide +kernel)]; exact ⟨rfl, rfl⟩)
theorem over : Rows.mutexStepsRow.holds Try.pinned (OpenSpec.ofChange Rows.mutexStepsSpec) :=
  OpenClaim.holds_of_wide 4 Try.f4 rfl rfl rfl rfl rfl rfl rfl ⟨rfl, rfl, rfl, rfl, rfl⟩ rfl rfl rfl rfl rfl named Try.func4 facts inst wrap
    (fun os started H enc _ => lifted os started H enc)
end Go.Proofs.Ytlndihdlodempaa.rowMutexSteps
namespace Go.Proofs.Ytlndihdlodempaa
/-- The row, for the claim. -/
theorem mutexSteps_holds : Rows.MutexStepsSaid := rowMutexSteps.over
#print axioms mutexSteps_holds
end Go.Proofs.Ytlndihdlodempaa
