/- The statement PqExcludes, as its row says it: for every input the law returns true, and each argument reads behind the call as it read before. -/
import Derived.Test.YtbcppehpfckgoaaRows
import Derived.Test.YtbcppehpfckgoaaZM06PqExcludes
import Derived.Test.YtbcppehpfckgoaaZM03PqExcludes
import Derived.WalkKit
import Derived.ProofKit
import Derived.OpenShut
import Derived.ChangeOld
import Derived.Below
import Derived.SizedLaws
set_option linter.unusedVariables false
set_option linter.unusedSimpArgs false
namespace Go.Proofs.Ytbcppehpfckgoaa.rowPqExcludes
open Go.ChangeShapes Go.WideShapes Go.ChangeAt Go.RowKit Go.Proofs.Ytbcppehpfckgoaa.Z
theorem own : ownKnob Try.prog.godebug = none := by kernel_rfl
theorem laidOut : laidOutB Try.prog = true := by kernel_rfl
set_option maxRecDepth 100000 in
theorem flat_turn : Flat Try.prog 79 (fun cs => ∃ a : Int × Int, ((0 ≤ a.1 ∧ a.1 < 256) ∧ (0 ≤ a.2 ∧ a.2 < 256)) ∧ cs = turnDec a) := by
  refine flat_mono (flat_struct Try.underlying79) ?_
  rintro cs ⟨hl, hf⟩
  rw [show Try.prog.cellsOf 79 = 2 from by kernel_rfl] at hl
  match cs, hl with
  | [c0, c1], _ =>
    obtain ⟨n0, h0, w0⟩ := hf 0 _ _ rfl (flat_int Try.underlying5)
    obtain ⟨n1, h1, w1⟩ := hf 1 _ _ rfl (flat_int Try.underlying5)
    have e3 : Try.prog.cellsOf 5 = 1 := by kernel_rfl
    simp [e3] at h0 h1
    exact ⟨(n0, n1), ⟨wf_u8 w0, wf_u8 w1⟩, by simp [turnDec, h0, h1]⟩

set_option maxRecDepth 100000 in
theorem lifted (os : Os) (started : os.Started) (H : Type) (enc : TypeId × Value → H) :
    ReturnsInHanded {} Try.checked os 10 .any (Rows.pqExcludesSpec.pre6 enc Try.prog Try.f10 Rows.pqExcludesRow.domain false) (Rows.pqExcludesSpec.post enc Try.prog Try.f10 false true false false) := by
  refine returnsInHanded_of_change_sized (C := Try.checked) own started (by kernel_rfl) Try.func10
    (ChangeSpec.witness6 (enc := enc) (C := Try.checked) false ⟨#[], #[.int .u8 0, .int .u8 0, .int .u32 0, .slice none 0 0], []⟩ 8 (by kernel_rfl) (by kernel_rfl) (by kernel_rfl) (by kernel_rfl)) ?_
  intro W base args ds gs before hval0 hW hcnd hsz0 _
  have hval : ∀ (j : Nat) t v, Try.f10.params[j]? = some t → args[j]? = some v → Value.okWide Try.prog W .any base t v := hval0
  have hW' := hW
  obtain ⟨p, q, hA0, hV, rfl, hfz, hnd⟩ := hW
  have hA : DataW.TrodAll enc Try.prog W 0 (fun _ => true) true Try.f10.params.toList args.toList ds p := hA0
  rw [Try.params10] at hA hval
  obtain ⟨v0, vs0, d0, ds0, p0, q0, hargs, rfl, rfl, h0, r0⟩ := trodAll_cons hA
  obtain ⟨v1, vs1, d1, ds1, p1, q1, rfl, rfl, rfl, h1, r1⟩ := trodAll_cons r0
  obtain ⟨v2, vs2, d2, ds2, p2, q2, rfl, rfl, rfl, h2, r2⟩ := trodAll_cons r1
  obtain ⟨v3, vs3, d3, ds3, p3, q3, rfl, rfl, rfl, h3, r3⟩ := trodAll_cons r2
  obtain ⟨rfl, rfl, rfl⟩ := trodAll_nil r3
  obtain rfl : args = #[v0, v1, v2, v3] := by cases args; simp_all
  obtain ⟨rfl, rfl⟩ := trodVars_none hV
  have lt0 : ∀ x ∈ p0, x.block < W.heap.size := by obtain ⟨m, hm⟩ := h0; exact DataW.trod_lt m _ _ _ hm
  obtain ⟨a0, rfl, w0⟩ := open_num Try.underlying5 (hval 0 5 v0 rfl rfl) h0
  have lt1 : ∀ x ∈ p1, x.block < W.heap.size := by obtain ⟨m, hm⟩ := h1; exact DataW.trod_lt m _ _ _ hm
  obtain ⟨a1, rfl, w1⟩ := open_num Try.underlying5 (hval 1 5 v1 rfl rfl) h1
  have lt2 : ∀ x ∈ p2, x.block < W.heap.size := by obtain ⟨m, hm⟩ := h2; exact DataW.trod_lt m _ _ _ hm
  obtain ⟨a2, rfl, w2⟩ := open_num Try.underlying22 (hval 2 22 v2 rfl rfl) h2
  have lt3 : ∀ x ∈ p3, x.block < W.heap.size := by obtain ⟨m, hm⟩ := h3; exact DataW.trod_lt m _ _ _ hm
  obtain ⟨A3, n3, c3, rfl⟩ := okWide_slice Try.underlying76 (hval 3 76 v3 rfl rfl)
  obtain ⟨l3, e3, o3, r103, b3, m3⟩ := open_list (α := (Int × Int)) (dec := turnDec) (ok := (fun x => (0 ≤ x.1 ∧ x.1 < 256) ∧ (0 ≤ x.2 ∧ x.2 < 256))) (size := 2) Try.underlying76 flat_turn (by kernel_rfl) (by decide) (fun _ => rfl) h3 lt3
  refine (pqExcludes_any a0 a1 a2 W (wf_u8 w0) (wf_u8 w1) (wf_u32 w2) r103 o3).mono fun e W' ⟨he, tch⟩ => ?_
  have bel : Below W.heap.size W W' := tch.below (Nat.le_refl _) (by simp)
  subst he
  exact ⟨_, rfl, _, _, _, [], _, [], hW', trodAll_mk1 (shut_bool Try.underlying4 _), (trodAll_cons_mk (Below.trod laidOut (by kernel_rfl) (of_decide_eq_true (by kernel_rfl)) h0 bel lt0) (trodAll_cons_mk (Below.trod laidOut (by kernel_rfl) (of_decide_eq_true (by kernel_rfl)) h1 bel lt1) (trodAll_cons_mk (Below.trod laidOut (by kernel_rfl) (of_decide_eq_true (by kernel_rfl)) h2 bel lt2) (trodAll_cons_mk (Below.trod laidOut (by kernel_rfl) (of_decide_eq_true (by kernel_rfl)) h3 bel lt3) trodAll_mk0)))), rfl, bel.frame _, fun h => by cases h⟩
theorem named : Try.pinned.checked.prog.funcNamed Rows.pqExcludesRow.func = some 10 := by kernel_rfl
theorem fLaid : laidOutB Try.pinned.checked.prog = true := laidOut
theorem fMaps : mapsRowed Try.pinned.checked.prog = true := by kernel_rfl
theorem fStops : Try.pinned.checked.prog.stops = [] := by kernel_rfl
theorem fKnobs : Try.pinned.checked.prog.stopKnobs = [] := by kernel_rfl
theorem fPlace : Try.pinned.checked.prog.inPlace 10 = Rows.pqExcludesRow.inPlace := by kernel_rfl
theorem fUnf : Try.pinned.checked.prog.unfollowed 10 = Rows.pqExcludesRow.unfollowed := by kernel_rfl
theorem fRec : Try.pinned.checked.prog.recurses 10 = Rows.pqExcludesRow.recurses := by kernel_rfl
theorem fNamed : Try.pinned.checked.prog.varsNamed 10 = Rows.pqExcludesRow.named := by kernel_rfl
theorem fPlain : Try.pinned.checked.prog.plainKeys = Rows.pqExcludesRow.plainKeys := by kernel_rfl
theorem fHeard : Try.pinned.checked.prog.stopsHeard = true := by kernel_rfl
theorem fEnter : Try.pinned.checked.prog.mayEnter = true := by kernel_rfl
theorem fLift : Try.pinned.checked.prog.liftsFinal = Rows.pqExcludesRow.lifted := by kernel_rfl
theorem fMake : Try.pinned.checked.prog.make = some Rows.pqExcludesRow.make := by kernel_rfl
theorem facts : joinedFacts Try.pinned.checked.prog 10 Try.f10 Rows.pqExcludesSpec Rows.pqExcludesRow = true := by
  unfold joinedFacts
  rw [fLaid, fMaps, fStops, fKnobs, fPlace, fUnf, fRec, fNamed, fPlain, fHeard, fEnter, fLift, fMake]
  kernel_rfl
theorem inst : Try.f10.isInstance Try.pinned.checked.prog Rows.pqExcludesRow.origin Rows.pqExcludesRow.targs := of_decide_eq_true (by kernel_rfl)
theorem wrap : Try.f10.isWrapper Try.pinned.checked.prog Rows.pqExcludesRow.wrapper Rows.pqExcludesRow.mainSum := by unfold Func.isWrapper; first | (rw [if_pos (by decide +kernel)]; kernel_rfl) | (rw [if_neg (by decide +kernel)]; exact ⟨rfl, rfl⟩)
theorem over : Rows.pqExcludesRow.holds Try.pinned (OpenSpec.ofChange Rows.pqExcludesSpec) :=
  OpenClaim.holds_of_wide 10 Try.f10 rfl rfl rfl rfl rfl rfl rfl ⟨rfl, rfl, rfl, rfl, rfl⟩ rfl rfl rfl rfl rfl named Try.func10 facts inst wrap
    (fun os started H enc _ => lifted os started H enc)
end Go.Proofs.Ytbcppehpfckgoaa.rowPqExcludes
namespace Go.Proofs.Ytbcppehpfckgoaa
/-- The row, for the claim. -/
theorem pqExcludes_holds : Rows.PqExcludesSaid := rowPqExcludes.over
#print axioms pqExcludes_holds
end Go.Proofs.Ytbcppehpfckgoaa
