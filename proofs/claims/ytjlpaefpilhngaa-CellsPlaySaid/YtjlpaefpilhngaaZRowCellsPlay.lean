/- The statement CellsPlay, as its row says it: for every input the law returns true, and each argument reads behind the call as it read before. -/
import Derived.Test.YtjlpaefpilhngaaRows
import Derived.Test.YtjlpaefpilhngaaZLawCellsPlay
import Derived.Test.YtjlpaefpilhngaaZOpen
import Derived.WalkKit
import Derived.ProofKit
import Derived.OpenShut
import Derived.ChangeOld
import Derived.Below
import Derived.SizedLaws
set_option linter.unusedVariables false
set_option linter.unusedSimpArgs false
namespace Go.Proofs.Ytjlpaefpilhngaa.rowCellsPlay
open Go.ChangeShapes Go.WideShapes Go.ChangeAt Go.RowKit Go.Proofs.Ytjlpaefpilhngaa.Z
theorem own : ownKnob Try.prog.godebug = none := by kernel_rfl
theorem laidOut : laidOutB Try.prog = true := by kernel_rfl
theorem flat_acc : Flat Try.prog 43 (fun cs => ∃ a, AccOk a ∧ cs = (fun a : Acc => a.cells.toList) a) := by
  refine flat_mono (flat_struct Try.underlying43) ?_
  rintro cs ⟨hl, hf⟩
  rw [show Try.prog.cellsOf 43 = 5 from by kernel_rfl] at hl
  match cs, hl with
  | [c0, c1, c2, c3, c4], _ =>
    obtain ⟨n0, h0, w0⟩ := hf 0 _ _ rfl (flat_int Try.underlying3)
    obtain ⟨n1, h1, w1⟩ := hf 1 _ _ rfl (flat_int Try.underlying3)
    obtain ⟨n2, h2, w2⟩ := hf 2 _ _ rfl (flat_int Try.underlying22)
    obtain ⟨n3, h3, w3⟩ := hf 3 _ _ rfl (flat_int Try.underlying22)
    obtain ⟨n4, h4, w4⟩ := hf 4 _ _ rfl (flat_int Try.underlying22)
    have e3 : Try.prog.cellsOf 3 = 1 := by kernel_rfl
    have e22 : Try.prog.cellsOf 22 = 1 := by kernel_rfl
    simp [e3] at h0 h1
    simp [e22] at h2 h3 h4
    exact ⟨⟨n0, n1, n2, n3, n4⟩, ⟨wf_u32 w2, wf_u32 w3, wf_u32 w4⟩, by simp [Acc.cells, h0, h1, h2, h3, h4]⟩

set_option maxRecDepth 100000 in
theorem lifted (os : Os) (started : os.Started) (H : Type) (enc : TypeId × Value → H) :
    ReturnsInHanded {} Try.checked os 8 .any (Rows.cellsPlaySpec.pre6 enc Try.prog Try.f8 Rows.cellsPlayRow.domain false) (Rows.cellsPlaySpec.post enc Try.prog Try.f8 false true false false) := by
  refine returnsInHanded_of_change_sized (C := Try.checked) own started (by kernel_rfl) Try.func8
    (ChangeSpec.witness6 (enc := enc) (C := Try.checked) false ⟨#[], #[.slice none 0 0, .slice none 0 0], []⟩ 8 (by kernel_rfl) (by kernel_rfl) (by kernel_rfl) (by kernel_rfl)) ?_
  intro W base args ds gs before hval0 hW hcnd hsz0 _
  have hval : ∀ (j : Nat) t v, Try.f8.params[j]? = some t → args[j]? = some v → Value.okWide Try.prog W .any base t v := hval0
  have hW' := hW
  obtain ⟨p, q, hA0, hV, rfl, hfz, hnd⟩ := hW
  have hA : DataW.TrodAll enc Try.prog W 0 (fun _ => true) true Try.f8.params.toList args.toList ds p := hA0
  rw [Try.params8] at hA hval
  obtain ⟨v0, vs0, d0, ds0, p0, q0, hargs, rfl, rfl, h0, r0⟩ := trodAll_cons hA
  obtain ⟨v1, vs1, d1, ds1, p1, q1, rfl, rfl, rfl, h1, r1⟩ := trodAll_cons r0
  obtain ⟨rfl, rfl, rfl⟩ := trodAll_nil r1
  obtain rfl : args = #[v0, v1] := by cases args; simp_all
  obtain ⟨rfl, rfl⟩ := trodVars_none hV
  have lt0 : ∀ x ∈ p0, x.block < W.heap.size := by obtain ⟨m, hm⟩ := h0; exact DataW.trod_lt m _ _ _ hm
  obtain ⟨A0, n0, c0, rfl⟩ := okWide_slice Try.underlying31 (hval 0 31 v0 rfl rfl)
  obtain ⟨l0, e0, o0, r100, b0, m0⟩ := open_list (α := Int) (dec := (fun x => [.int .u32 x])) (ok := (fun x => 0 ≤ x ∧ x < 4294967296)) (size := 1) Try.underlying31 (flat_mono (flat_int Try.underlying22) (fun cs ⟨n, h, hw⟩ => ⟨n, wf_u32 hw, h⟩)) (by kernel_rfl) (by decide) (fun _ => rfl) h0 lt0
  have lt1 : ∀ x ∈ p1, x.block < W.heap.size := by obtain ⟨m, hm⟩ := h1; exact DataW.trod_lt m _ _ _ hm
  obtain ⟨A1, n1, c1, rfl⟩ := okWide_slice Try.underlying35 (hval 1 35 v1 rfl rfl)
  obtain ⟨l1, e1, o1, r101, b1, m1⟩ := open_list (α := Acc) (dec := (fun a => a.cells.toList)) (ok := AccOk) (size := 5) Try.underlying35 flat_acc (by kernel_rfl) (by decide) (fun _ => rfl) h1 lt1
  refine (cellsPlay_any W r100 o0 r101 o1 b0 m0).mono fun e W' ⟨he, tch⟩ => ?_
  have bel : Below W.heap.size W W' := tch.below (Nat.le_refl _) (by simp)
  subst he
  exact ⟨_, rfl, _, _, _, [], _, [], hW', trodAll_mk1 (shut_bool Try.underlying4 _), (trodAll_cons_mk (Below.trod laidOut (by kernel_rfl) (of_decide_eq_true (by kernel_rfl)) h0 bel lt0) (trodAll_cons_mk (Below.trod laidOut (by kernel_rfl) (of_decide_eq_true (by kernel_rfl)) h1 bel lt1) trodAll_mk0)), rfl, bel.frame _, fun h => by cases h⟩
theorem over : Rows.cellsPlayRow.holds Try.pinned (OpenSpec.ofChange Rows.cellsPlaySpec) :=
  OpenClaim.holds_of_wide 8 Try.f8 rfl rfl rfl rfl rfl rfl rfl ⟨rfl, rfl, rfl, rfl, rfl⟩ rfl rfl rfl rfl rfl (by kernel_rfl) Try.func8 (by kernel_rfl)
    (of_decide_eq_true (by kernel_rfl)) (by unfold Func.isWrapper; first | (rw [if_pos (by decide +kernel)]; kernel_rfl) | (rw [if_neg (by decide +kernel)]; exact ⟨rfl, rfl⟩))
    (fun os started H enc _ => lifted os started H enc)
end Go.Proofs.Ytjlpaefpilhngaa.rowCellsPlay
namespace Go.Proofs.Ytjlpaefpilhngaa
/-- The row, for the claim. -/
theorem cellsPlay_holds : Rows.CellsPlaySaid := rowCellsPlay.over
#print axioms cellsPlay_holds
end Go.Proofs.Ytjlpaefpilhngaa
