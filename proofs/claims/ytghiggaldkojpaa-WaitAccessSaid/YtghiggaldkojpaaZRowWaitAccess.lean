/- The statement WaitAccess, as its row says it: for every input the law returns true, and each argument reads behind the call as it read before. -/
import Derived.Test.YtghiggaldkojpaaRows
import Derived.Test.YtghiggaldkojpaaZLawWaitAccess
import Derived.Test.YtghiggaldkojpaaZOpen
import Derived.WalkKit
import Derived.ProofKit
import Derived.OpenShut
import Derived.ChangeOld
import Derived.Below
import Derived.SizedLaws
set_option linter.unusedVariables false
set_option linter.unusedSimpArgs false
namespace Go.Proofs.Ytghiggaldkojpaa.rowWaitAccess
open Go.ChangeShapes Go.WideShapes Go.ChangeAt Go.RowKit Go.Proofs.Ytghiggaldkojpaa.Z
theorem own : ownKnob Try.prog.godebug = none := by kernel_rfl
theorem laidOut : laidOutB Try.prog = true := by kernel_rfl
set_option maxRecDepth 100000 in
theorem flat_wait : Flat Try.prog 24 (fun cs => ∃ a, True ∧ cs = (fun a : Int => [Value.int .i64 a]) a) := by
  refine flat_mono (flat_struct Try.underlying24) ?_
  rintro cs ⟨hl, hf⟩
  rw [show Try.prog.cellsOf 24 = 1 from by kernel_rfl] at hl
  match cs, hl with
  | [c0], _ =>
    obtain ⟨n0, h0, w0⟩ := hf 0 _ _ rfl (flat_int Try.underlying3)
    have e3 : Try.prog.cellsOf 3 = 1 := by kernel_rfl
    simp [e3] at h0
    exact ⟨n0, trivial, by simp [h0]⟩
set_option maxRecDepth 100000 in
theorem flat_until : Flat Try.prog 27 (fun cs => ∃ a, True ∧ cs = (fun a : Int × Int × Int => [Value.int .i64 a.1, .int .u32 a.2.1, .int .u32 a.2.2]) a) := by
  refine flat_mono (flat_struct Try.underlying27) ?_
  rintro cs ⟨hl, hf⟩
  rw [show Try.prog.cellsOf 27 = 3 from by kernel_rfl] at hl
  match cs, hl with
  | [c0, c1, c2], _ =>
    obtain ⟨n0, h0, w0⟩ := hf 0 _ _ rfl (flat_int Try.underlying3)
    obtain ⟨n1, h1, w1⟩ := hf 1 _ _ rfl (flat_int Try.underlying25)
    obtain ⟨n2, h2, w2⟩ := hf 2 _ _ rfl (flat_int Try.underlying25)
    have e3 : Try.prog.cellsOf 3 = 1 := by kernel_rfl
    have e22 : Try.prog.cellsOf 25 = 1 := by kernel_rfl
    simp [e3] at h0
    simp [e22] at h1 h2
    exact ⟨(n0, n1, n2), trivial, by simp [h0, h1, h2]⟩

set_option maxRecDepth 100000 in
theorem lifted (os : Os) (started : os.Started) (H : Type) (enc : TypeId × Value → H) :
    ReturnsInHanded {} Try.checked os 3 .any (Rows.waitAccessSpec.pre6 enc Try.prog Try.f3 Rows.waitAccessRow.domain false) (Rows.waitAccessSpec.post enc Try.prog Try.f3 false true false false) := by
  refine returnsInHanded_of_change_sized (C := Try.checked) own started (by kernel_rfl) Try.func3
    (ChangeSpec.witness6 (enc := enc) (C := Try.checked) false ⟨#[], #[.slice none 0 0, .int .u8 0, .int .i64 0, .int .i64 0, .agg #[.int .i64 0], .int .i64 0, .agg #[.int .i64 0, .int .u32 0, .int .u32 0]], []⟩ 8 (by kernel_rfl) (by kernel_rfl) (by kernel_rfl) (by kernel_rfl)) ?_
  intro W base args ds gs before hval0 hW hcnd hsz0 _
  have hval : ∀ (j : Nat) t v, Try.f3.params[j]? = some t → args[j]? = some v → Value.okWide Try.prog W .any base t v := hval0
  have hW' := hW
  obtain ⟨p, q, hA0, hV, rfl, hfz, hnd⟩ := hW
  have hA : DataW.TrodAll enc Try.prog W 0 (fun _ => true) true Try.f3.params.toList args.toList ds p := hA0
  rw [Try.params3] at hA hval
  obtain ⟨v0, vs0, d0, ds0, p0, q0, hargs, rfl, rfl, h0, r0⟩ := trodAll_cons hA
  obtain ⟨v1, vs1, d1, ds1, p1, q1, rfl, rfl, rfl, h1, r1⟩ := trodAll_cons r0
  obtain ⟨v2, vs2, d2, ds2, p2, q2, rfl, rfl, rfl, h2, r2⟩ := trodAll_cons r1
  obtain ⟨v3, vs3, d3, ds3, p3, q3, rfl, rfl, rfl, h3, r3⟩ := trodAll_cons r2
  obtain ⟨v4, vs4, d4, ds4, p4, q4, rfl, rfl, rfl, h4, r4⟩ := trodAll_cons r3
  obtain ⟨v5, vs5, d5, ds5, p5, q5, rfl, rfl, rfl, h5, r5⟩ := trodAll_cons r4
  obtain ⟨v6, vs6, d6, ds6, p6, q6, rfl, rfl, rfl, h6, r6⟩ := trodAll_cons r5
  obtain ⟨rfl, rfl, rfl⟩ := trodAll_nil r6
  obtain rfl : args = #[v0, v1, v2, v3, v4, v5, v6] := by cases args; simp_all
  obtain ⟨rfl, rfl⟩ := trodVars_none hV
  have lt0 : ∀ x ∈ p0, x.block < W.heap.size := by obtain ⟨m, hm⟩ := h0; exact DataW.trod_lt m _ _ _ hm
  obtain ⟨A0, n0, c0, rfl⟩ := okWide_slice Try.underlying22 (hval 0 22 v0 rfl rfl)
  obtain ⟨l0, e0, o0, r100, b0, m0⟩ := open_list (α := Int) (dec := (fun x => [.int .u32 x])) (ok := (fun x => 0 ≤ x ∧ x < 4294967296)) (size := 1) Try.underlying22 (flat_mono (flat_int Try.underlying25) (fun cs ⟨n, h, hw⟩ => ⟨n, wf_u32 hw, h⟩)) (by kernel_rfl) (by decide) (fun _ => rfl) h0 lt0
  have lt1 : ∀ x ∈ p1, x.block < W.heap.size := by obtain ⟨m, hm⟩ := h1; exact DataW.trod_lt m _ _ _ hm
  obtain ⟨a1, rfl, w1⟩ := open_num Try.underlying5 (hval 1 5 v1 rfl rfl) h1
  have lt2 : ∀ x ∈ p2, x.block < W.heap.size := by obtain ⟨m, hm⟩ := h2; exact DataW.trod_lt m _ _ _ hm
  obtain ⟨a2, rfl, w2⟩ := open_num Try.underlying3 (hval 2 3 v2 rfl rfl) h2
  have lt3 : ∀ x ∈ p3, x.block < W.heap.size := by obtain ⟨m, hm⟩ := h3; exact DataW.trod_lt m _ _ _ hm
  obtain ⟨a3, rfl, w3⟩ := open_num Try.underlying3 (hval 3 3 v3 rfl rfl) h3
  have lt4 : ∀ x ∈ p4, x.block < W.heap.size := by obtain ⟨m, hm⟩ := h4; exact DataW.trod_lt m _ _ _ hm
  obtain ⟨a4, o4, rfl⟩ := open_flat (dec := (fun a : Int => [.int .i64 a])) (ok := (fun _ => True)) Try.underlying24 flat_wait (hval 4 24 v4 rfl rfl) h4
  have lt5 : ∀ x ∈ p5, x.block < W.heap.size := by obtain ⟨m, hm⟩ := h5; exact DataW.trod_lt m _ _ _ hm
  obtain ⟨a5, rfl, w5⟩ := open_num Try.underlying3 (hval 5 3 v5 rfl rfl) h5
  have lt6 : ∀ x ∈ p6, x.block < W.heap.size := by obtain ⟨m, hm⟩ := h6; exact DataW.trod_lt m _ _ _ hm
  obtain ⟨a6, o6, rfl⟩ := open_flat (dec := (fun a : Int × Int × Int => [.int .i64 a.1, .int .u32 a.2.1, .int .u32 a.2.2])) (ok := (fun _ => True)) Try.underlying27 flat_until (hval 6 27 v6 rfl rfl) h6
  refine (waitAccess_any W r100 o0 a1 a2 a3 a4 a5 a6.1 a6.2.1 a6.2.2 (wf_u8 w1)).mono fun e W' ⟨he, tch⟩ => ?_
  have bel : Below W.heap.size W W' := tch.below (Nat.le_refl _) (by simp)
  subst he
  exact ⟨_, rfl, _, _, _, [], _, [], hW', trodAll_mk1 (shut_bool Try.underlying4 _), (trodAll_cons_mk (Below.trod laidOut (by kernel_rfl) (of_decide_eq_true (by kernel_rfl)) h0 bel lt0) (trodAll_cons_mk (Below.trod laidOut (by kernel_rfl) (of_decide_eq_true (by kernel_rfl)) h1 bel lt1) (trodAll_cons_mk (Below.trod laidOut (by kernel_rfl) (of_decide_eq_true (by kernel_rfl)) h2 bel lt2) (trodAll_cons_mk (Below.trod laidOut (by kernel_rfl) (of_decide_eq_true (by kernel_rfl)) h3 bel lt3) (trodAll_cons_mk (Below.trod laidOut (by kernel_rfl) (of_decide_eq_true (by kernel_rfl)) h4 bel lt4) (trodAll_cons_mk (Below.trod laidOut (by kernel_rfl) (of_decide_eq_true (by kernel_rfl)) h5 bel lt5) (trodAll_cons_mk (Below.trod laidOut (by kernel_rfl) (of_decide_eq_true (by kernel_rfl)) h6 bel lt6) trodAll_mk0))))))), rfl, bel.frame _, fun h => by cases h⟩
theorem over : Rows.waitAccessRow.holds Try.pinned (OpenSpec.ofChange Rows.waitAccessSpec) :=
  OpenClaim.holds_of_wide 3 Try.f3 rfl rfl rfl rfl rfl rfl rfl ⟨rfl, rfl, rfl, rfl, rfl⟩ rfl rfl rfl rfl rfl (by kernel_rfl) Try.func3 (by kernel_rfl)
    (of_decide_eq_true (by kernel_rfl)) (by unfold Func.isWrapper; first | (rw [if_pos (by decide +kernel)]; kernel_rfl) | (rw [if_neg (by decide +kernel)]; exact ⟨rfl, rfl⟩))
    (fun os started H enc _ => lifted os started H enc)
end Go.Proofs.Ytghiggaldkojpaa.rowWaitAccess
namespace Go.Proofs.Ytghiggaldkojpaa
/-- The row, for the claim. -/
theorem waitAccess_holds : Rows.WaitAccessSaid := rowWaitAccess.over
#print axioms waitAccess_holds
end Go.Proofs.Ytghiggaldkojpaa
