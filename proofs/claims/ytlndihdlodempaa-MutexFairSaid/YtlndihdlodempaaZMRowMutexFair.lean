/- The statement MutexFair, as its row says it: for every input the law returns true, and each argument reads behind the call as it read before. -/
import Derived.Test.YtlndihdlodempaaRows
import Derived.Test.YtlndihdlodempaaZM05MutexFair
import Derived.WalkKit
import Derived.ProofKit
import Derived.OpenShut
import Derived.ChangeOld
import Derived.Below
import Derived.SizedLaws
set_option linter.unusedVariables false
set_option linter.unusedSimpArgs false
namespace Go.Proofs.Ytlndihdlodempaa.rowMutexFair
open Go.ChangeShapes Go.WideShapes Go.ChangeAt Go.RowKit Go.Proofs.Ytlndihdlodempaa.Z
theorem own : ownKnob Try.prog.godebug = none := by kernel_rfl
theorem laidOut : laidOutB Try.prog = true := by kernel_rfl
set_option maxRecDepth 100000 in
theorem lifted (os : Os) (started : os.Started) (H : Type) (enc : TypeId × Value → H) :
    ReturnsInHanded {} Try.checked os 6 .any (Rows.mutexFairSpec.pre6 enc Try.prog Try.f6 Rows.mutexFairRow.domain false) (Rows.mutexFairSpec.post enc Try.prog Try.f6 false true false false) := by
  refine returnsInHanded_of_change_sized (C := Try.checked) own started (by kernel_rfl) Try.func6
    (ChangeSpec.witness6 (enc := enc) (C := Try.checked) false ⟨#[], #[.int .u8 0, .int .i64 0, .int .u8 0], []⟩ 8 (by kernel_rfl) (by kernel_rfl) (by kernel_rfl) (by kernel_rfl)) ?_
  intro W base args ds gs before hval0 hW hcnd hsz0 _
  have hval : ∀ (j : Nat) t v, Try.f6.params[j]? = some t → args[j]? = some v → Value.okWide Try.prog W .any base t v := hval0
  have hW' := hW
  obtain ⟨p, q, hA0, hV, rfl, hfz, hnd⟩ := hW
  have hA : DataW.TrodAll enc Try.prog W 0 (fun _ => true) true Try.f6.params.toList args.toList ds p := hA0
  rw [Try.params6] at hA hval
  obtain ⟨v0, vs0, d0, ds0, p0, q0, hargs, rfl, rfl, h0, r0⟩ := trodAll_cons hA
  obtain ⟨v1, vs1, d1, ds1, p1, q1, rfl, rfl, rfl, h1, r1⟩ := trodAll_cons r0
  obtain ⟨v2, vs2, d2, ds2, p2, q2, rfl, rfl, rfl, h2, r2⟩ := trodAll_cons r1
  obtain ⟨rfl, rfl, rfl⟩ := trodAll_nil r2
  obtain rfl : args = #[v0, v1, v2] := by cases args; simp_all
  obtain ⟨rfl, rfl⟩ := trodVars_none hV
  have lt0 : ∀ x ∈ p0, x.block < W.heap.size := by obtain ⟨m, hm⟩ := h0; exact DataW.trod_lt m _ _ _ hm
  obtain ⟨a0, rfl, w0⟩ := open_num Try.underlying5 (hval 0 5 v0 rfl rfl) h0
  have lt1 : ∀ x ∈ p1, x.block < W.heap.size := by obtain ⟨m, hm⟩ := h1; exact DataW.trod_lt m _ _ _ hm
  obtain ⟨a1, rfl, w1⟩ := open_num Try.underlying3 (hval 1 3 v1 rfl rfl) h1
  have lt2 : ∀ x ∈ p2, x.block < W.heap.size := by obtain ⟨m, hm⟩ := h2; exact DataW.trod_lt m _ _ _ hm
  obtain ⟨a2, rfl, w2⟩ := open_num Try.underlying5 (hval 2 5 v2 rfl rfl) h2
  refine (mutexFair_any W a0 a1 a2 (wf_u8 w0) (wf_u8 w2)).mono fun e W' ⟨he, tch⟩ => ?_
  have bel : Below W.heap.size W W' := tch.below (Nat.le_refl _) (by simp)
  subst he
  exact ⟨_, rfl, _, _, _, [], _, [], hW', trodAll_mk1 (shut_bool Try.underlying4 _), (trodAll_cons_mk (Below.trod laidOut (by kernel_rfl) (of_decide_eq_true (by kernel_rfl)) h0 bel lt0) (trodAll_cons_mk (Below.trod laidOut (by kernel_rfl) (of_decide_eq_true (by kernel_rfl)) h1 bel lt1) (trodAll_cons_mk (Below.trod laidOut (by kernel_rfl) (of_decide_eq_true (by kernel_rfl)) h2 bel lt2) trodAll_mk0))), rfl, bel.frame _, fun h => by cases h⟩
theorem named : Try.pinned.checked.prog.funcNamed Rows.mutexFairRow.func = some 6 := by kernel_rfl
theorem fLaid : laidOutB Try.pinned.checked.prog = true := laidOut
theorem fMaps : mapsRowed Try.pinned.checked.prog = true := by kernel_rfl
theorem fStops : Try.pinned.checked.prog.stops = [] := by kernel_rfl
theorem fKnobs : Try.pinned.checked.prog.stopKnobs = [] := by kernel_rfl
theorem fPlace : Try.pinned.checked.prog.inPlace 6 = Rows.mutexFairRow.inPlace := by kernel_rfl
theorem fUnf : Try.pinned.checked.prog.unfollowed 6 = Rows.mutexFairRow.unfollowed := by kernel_rfl
theorem fRec : Try.pinned.checked.prog.recurses 6 = Rows.mutexFairRow.recurses := by kernel_rfl
theorem fNamed : Try.pinned.checked.prog.varsNamed 6 = Rows.mutexFairRow.named := by kernel_rfl
theorem fPlain : Try.pinned.checked.prog.plainKeys = Rows.mutexFairRow.plainKeys := by kernel_rfl
theorem fHeard : Try.pinned.checked.prog.stopsHeard = true := by kernel_rfl
theorem fEnter : Try.pinned.checked.prog.mayEnter = true := by kernel_rfl
theorem fLift : Try.pinned.checked.prog.liftsFinal = Rows.mutexFairRow.lifted := by kernel_rfl
theorem fMake : Try.pinned.checked.prog.make = some Rows.mutexFairRow.make := by kernel_rfl
theorem facts : joinedFacts Try.pinned.checked.prog 6 Try.f6 Rows.mutexFairSpec Rows.mutexFairRow = true := by
  unfold joinedFacts
  rw [fLaid, fMaps, fStops, fKnobs, fPlace, fUnf, fRec, fNamed, fPlain, fHeard, fEnter, fLift, fMake]
  kernel_rfl
theorem inst : Try.f6.isInstance Try.pinned.checked.prog Rows.mutexFairRow.origin Rows.mutexFairRow.targs := of_decide_eq_true (by kernel_rfl)
theorem wrap : Try.f6.isWrapper Try.pinned.checked.prog Rows.mutexFairRow.wrapper Rows.mutexFairRow.mainSum := by unfold Func.isWrapper; first | (rw [if_pos (by decide +kernel)]; kernel_rfl) | (rw [if_neg (by decide +kernel)]; exact ⟨rfl, rfl⟩)
theorem over : Rows.mutexFairRow.holds Try.pinned (OpenSpec.ofChange Rows.mutexFairSpec) :=
  OpenClaim.holds_of_wide 6 Try.f6 rfl rfl rfl rfl rfl rfl rfl ⟨rfl, rfl, rfl, rfl, rfl⟩ rfl rfl rfl rfl rfl named Try.func6 facts inst wrap
    (fun os started H enc _ => lifted os started H enc)
end Go.Proofs.Ytlndihdlodempaa.rowMutexFair
namespace Go.Proofs.Ytlndihdlodempaa
/-- The row, for the claim. -/
theorem mutexFair_holds : Rows.MutexFairSaid := rowMutexFair.over
#print axioms mutexFair_holds
end Go.Proofs.Ytlndihdlodempaa
