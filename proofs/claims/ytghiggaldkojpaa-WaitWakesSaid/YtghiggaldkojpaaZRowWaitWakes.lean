/- The statement WaitWakes, as its row says it: for every input the law returns true, and each argument reads behind the call as it read before. -/
import Derived.Test.YtghiggaldkojpaaRows
import Derived.Test.YtghiggaldkojpaaZLawWaitWakes
import Derived.Test.YtghiggaldkojpaaZOpen
import Derived.WalkKit
import Derived.ProofKit
import Derived.OpenShut
import Derived.ChangeOld
import Derived.Below
import Derived.SizedLaws
set_option linter.unusedVariables false
set_option linter.unusedSimpArgs false
namespace Go.Proofs.Ytghiggaldkojpaa.rowWaitWakes
open Go.ChangeShapes Go.WideShapes Go.ChangeAt Go.RowKit Go.Proofs.Ytghiggaldkojpaa.Z
theorem own : ownKnob Try.prog.godebug = none := by kernel_rfl
theorem laidOut : laidOutB Try.prog = true := by kernel_rfl
set_option maxRecDepth 100000 in
theorem flat_op07 : Flat Try.prog 74 (fun cs => ∃ a : (Int × Int), (fun y : Int × Int => 0 ≤ y.2 ∧ y.2 < 4294967296) a ∧ cs = op07Dec a) := by
  refine flat_mono (flat_struct Try.underlying74) ?_
  rintro cs ⟨hl, hf⟩
  rw [show Try.prog.cellsOf 74 = 2 from by kernel_rfl] at hl
  match cs, hl with
  | [c0, c1], _ =>
    obtain ⟨n0, h0, w0⟩ := hf 0 _ _ rfl (flat_int Try.underlying3)
    obtain ⟨n1, h1, w1⟩ := hf 1 _ _ rfl (flat_int Try.underlying25)
    have e0 : Try.prog.cellsOf 3 = 1 := by kernel_rfl
    have e1 : Try.prog.cellsOf 25 = 1 := by kernel_rfl
    simp [e0, e1, op07Dec] at h0 h1
    exact ⟨(n0, n1), wf_u32 w1, by simp [h0, h1, op07Dec]⟩
set_option maxRecDepth 100000 in
theorem flat_until : Flat Try.prog 27 (fun cs => ∃ a, True ∧ cs = (fun a : Int × Int × Int => [Value.int .i64 a.1, .int .u32 a.2.1, .int .u32 a.2.2]) a) := by
  refine flat_mono (flat_struct Try.underlying27) ?_
  rintro cs ⟨hl, hf⟩
  rw [show Try.prog.cellsOf 27 = 3 from by kernel_rfl] at hl
  match cs, hl with
  | [c0, c1, c2], _ =>
    obtain ⟨n0, h0, w0⟩ := hf 0 _ _ rfl (flat_int Try.underlying3)
    obtain ⟨n1, h1, w1⟩ := hf 1 _ _ rfl (flat_int Try.underlying25)
    obtain ⟨n2, h2, w2⟩ := hf 2 _ _ rfl (flat_int Try.underlying25)
    have e3 : Try.prog.cellsOf 3 = 1 := by kernel_rfl
    have e22 : Try.prog.cellsOf 25 = 1 := by kernel_rfl
    simp [e3] at h0
    simp [e22] at h1 h2
    exact ⟨(n0, n1, n2), trivial, by simp [h0, h1, h2]⟩

set_option maxRecDepth 100000 in
theorem lifted (os : Os) (started : os.Started) (H : Type) (enc : TypeId × Value → H) :
    ReturnsInHanded {} Try.checked os 10 .any (Rows.waitWakesSpec.pre6 enc Try.prog Try.f10 Rows.waitWakesRow.domain false) (Rows.waitWakesSpec.post enc Try.prog Try.f10 false true false false) := by
  refine returnsInHanded_of_change_sized (C := Try.checked) own started (by kernel_rfl) Try.func10
    (ChangeSpec.witness6 (enc := enc) (C := Try.checked) false ⟨#[], #[.slice none 0 0, .agg #[.int .i64 0, .int .u32 0, .int .u32 0]], []⟩ 8 (by kernel_rfl) (by kernel_rfl) (by kernel_rfl) (by kernel_rfl)) ?_
  intro W base args ds gs before hval0 hW hcnd hsz0 _
  have hval : ∀ (j : Nat) t v, Try.f10.params[j]? = some t → args[j]? = some v → Value.okWide Try.prog W .any base t v := hval0
  have hW' := hW
  obtain ⟨p, q, hA0, hV, rfl, hfz, hnd⟩ := hW
  have hA : DataW.TrodAll enc Try.prog W 0 (fun _ => true) true Try.f10.params.toList args.toList ds p := hA0
  rw [Try.params10] at hA hval
  obtain ⟨v0, vs0, d0, ds0, p0, q0, hargs, rfl, rfl, h0, r0⟩ := trodAll_cons hA
  obtain ⟨v1, vs1, d1, ds1, p1, q1, rfl, rfl, rfl, h1, r1⟩ := trodAll_cons r0
  obtain ⟨rfl, rfl, rfl⟩ := trodAll_nil r1
  obtain rfl : args = #[v0, v1] := by cases args; simp_all
  obtain ⟨rfl, rfl⟩ := trodVars_none hV
  have lt0 : ∀ x ∈ p0, x.block < W.heap.size := by obtain ⟨m, hm⟩ := h0; exact DataW.trod_lt m _ _ _ hm
  obtain ⟨A0, n0, c0, rfl⟩ := okWide_slice Try.underlying72 (hval 0 72 v0 rfl rfl)
  obtain ⟨l0, e0, o0, r100, b0, m0⟩ := open_list (α := (Int × Int)) (dec := op07Dec) (ok := (fun y : Int × Int => 0 ≤ y.2 ∧ y.2 < 4294967296)) (size := 2) Try.underlying72 flat_op07 (by kernel_rfl) (by decide) (fun _ => rfl) h0 lt0
  have lt1 : ∀ x ∈ p1, x.block < W.heap.size := by obtain ⟨m, hm⟩ := h1; exact DataW.trod_lt m _ _ _ hm
  obtain ⟨a1, o1, rfl⟩ := open_flat (dec := (fun a : Int × Int × Int => [.int .i64 a.1, .int .u32 a.2.1, .int .u32 a.2.2])) (ok := (fun _ => True)) Try.underlying27 flat_until (hval 1 27 v1 rfl rfl) h1
  refine (waitWakes_any W r100 o0 a1.1 a1.2.1 a1.2.2).mono fun e W' ⟨he, tch⟩ => ?_
  have bel : Below W.heap.size W W' := tch.below (Nat.le_refl _) (by simp)
  subst he
  exact ⟨_, rfl, _, _, _, [], _, [], hW', trodAll_mk1 (shut_bool Try.underlying4 _), (trodAll_cons_mk (Below.trod laidOut (by kernel_rfl) (of_decide_eq_true (by kernel_rfl)) h0 bel lt0) (trodAll_cons_mk (Below.trod laidOut (by kernel_rfl) (of_decide_eq_true (by kernel_rfl)) h1 bel lt1) trodAll_mk0)), rfl, bel.frame _, fun h => by cases h⟩
theorem over : Rows.waitWakesRow.holds Try.pinned (OpenSpec.ofChange Rows.waitWakesSpec) :=
  OpenClaim.holds_of_wide 10 Try.f10 rfl rfl rfl rfl rfl rfl rfl ⟨rfl, rfl, rfl, rfl, rfl⟩ rfl rfl rfl rfl rfl (by kernel_rfl) Try.func10 (by kernel_rfl)
    (of_decide_eq_true (by kernel_rfl)) (by unfold Func.isWrapper; first | (rw [if_pos (by decide +kernel)]; kernel_rfl) | (rw [if_neg (by decide +kernel)]; exact ⟨rfl, rfl⟩))
    (fun os started H enc _ => lifted os started H enc)
end Go.Proofs.Ytghiggaldkojpaa.rowWaitWakes
namespace Go.Proofs.Ytghiggaldkojpaa
/-- The row, for the claim. -/
theorem waitWakes_holds : Rows.WaitWakesSaid := rowWaitWakes.over
#print axioms waitWakes_holds
end Go.Proofs.Ytghiggaldkojpaa
