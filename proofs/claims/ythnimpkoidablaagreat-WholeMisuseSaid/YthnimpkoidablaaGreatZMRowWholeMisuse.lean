/- The statement WholeMisuse, as its row says it: for every input the law returns true, and each argument reads behind the call as it read before. -/
import Derived.Test.YthnimpkoidablaaGreatRows
import Derived.Test.YthnimpkoidablaaGreatZB24
import Derived.Test.YthnimpkoidablaaGreatZB23
import Derived.WalkKit
import Derived.ProofKit
import Derived.OpenShut
import Derived.ChangeOld
import Derived.Below
import Derived.SizedLaws
set_option linter.unusedVariables false
set_option linter.unusedSimpArgs false
namespace Go.Proofs.YthnimpkoidablaaGreat.rowWholeMisuse
open Go.ChangeShapes Go.WideShapes Go.ChangeAt Go.RowKit Go.Proofs.YthnimpkoidablaaGreat.Z
theorem own : ownKnob Tryz.prog.godebug = none := by kernel_rfl
theorem laidOut : laidOutB Tryz.prog = true := by kernel_rfl
set_option maxRecDepth 100000 in
theorem flat_lock : Flat Tryz.prog 24 (fun cs => ∃ a : Lk, LkOk a ∧ cs = Lk.cells a) := by
  refine flat_mono (flat_struct Tryz.underlying24) ?_
  rintro cs ⟨hl, hf⟩
  rw [show Tryz.prog.cellsOf 24 = 4 from by kernel_rfl] at hl
  match cs, hl with
  | [c0, c1, c2, c3], _ =>
    obtain ⟨n0, h0, w0⟩ := hf 0 _ _ rfl (flat_int Tryz.underlying5)
    obtain ⟨n1, h1, w1⟩ := hf 1 _ _ rfl (flat_int Tryz.underlying5)
    obtain ⟨n2, h2, w2⟩ := hf 2 _ _ rfl (flat_int Tryz.underlying5)
    obtain ⟨n3, h3, w3⟩ := hf 3 _ _ rfl (flat_int Tryz.underlying22)
    have e0 : Tryz.prog.cellsOf 5 = 1 := by kernel_rfl
    have e1 : Tryz.prog.cellsOf 22 = 1 := by kernel_rfl
    simp [e0, e1, Lk.cells] at h0 h1 h2 h3
    exact ⟨⟨n0, n1, n2, n3⟩, ⟨⟨wf_u8 w0, wf_u8 w1⟩, wf_u8 w2, wf_u32 w3⟩, by simp [h0, h1, h2, h3, Lk.cells]⟩
set_option maxRecDepth 100000 in
theorem flat_pick : Flat Tryz.prog 38 (fun cs => ∃ a : (Int × Int), (fun _ => True) a ∧ cs = pkCells a) := by
  refine flat_mono (flat_struct Tryz.underlying38) ?_
  rintro cs ⟨hl, hf⟩
  rw [show Tryz.prog.cellsOf 38 = 2 from by kernel_rfl] at hl
  match cs, hl with
  | [c0, c1], _ =>
    obtain ⟨n0, h0, w0⟩ := hf 0 _ _ rfl (flat_int Tryz.underlying3)
    obtain ⟨n1, h1, w1⟩ := hf 1 _ _ rfl (flat_int Tryz.underlying3)
    have e0 : Tryz.prog.cellsOf 3 = 1 := by kernel_rfl
    simp [e0, pkCells] at h0 h1
    exact ⟨(n0, n1), trivial, by simp [h0, h1, pkCells]⟩
set_option maxRecDepth 100000 in
theorem lifted (os : Os) (started : os.Started) (H : Type) (enc : TypeId × Value → H) :
    ReturnsInHanded {} Tryz.checked os 8 .any (Rows.wholeMisuseSpec.pre6 enc Tryz.prog Tryz.f8 Rows.wholeMisuseRow.domain false) (Rows.wholeMisuseSpec.post enc Tryz.prog Tryz.f8 false true false false) := by
  refine returnsInHanded_of_change_sized (C := Tryz.checked) own started (by kernel_rfl) Tryz.func8
    (ChangeSpec.witness6 (enc := enc) (C := Tryz.checked) false ⟨#[], #[.agg #[.int .u8 0, .int .u8 0, .int .u8 0, .int .u32 0], .slice none 0 0, .int .u8 0, .int .u8 0], []⟩ 8 (by kernel_rfl) (by kernel_rfl) (by kernel_rfl) (by kernel_rfl)) ?_
  intro W base args ds gs before hval0 hW hcnd hsz0 _
  have hval : ∀ (j : Nat) t v, Tryz.f8.params[j]? = some t → args[j]? = some v → Value.okWide Tryz.prog W .any base t v := hval0
  have hW' := hW
  obtain ⟨p, q, hA0, hV, rfl, hfz, hnd⟩ := hW
  have hA : DataW.TrodAll enc Tryz.prog W 0 (fun _ => true) true Tryz.f8.params.toList args.toList ds p := hA0
  rw [Tryz.params8] at hA hval
  obtain ⟨v0, vs0, d0, ds0, p0, q0, hargs, rfl, rfl, h0, r0⟩ := trodAll_cons hA
  obtain ⟨v1, vs1, d1, ds1, p1, q1, rfl, rfl, rfl, h1, r1⟩ := trodAll_cons r0
  obtain ⟨v2, vs2, d2, ds2, p2, q2, rfl, rfl, rfl, h2, r2⟩ := trodAll_cons r1
  obtain ⟨v3, vs3, d3, ds3, p3, q3, rfl, rfl, rfl, h3, r3⟩ := trodAll_cons r2
  obtain ⟨rfl, rfl, rfl⟩ := trodAll_nil r3
  obtain rfl : args = #[v0, v1, v2, v3] := by cases args; simp_all
  obtain ⟨rfl, rfl⟩ := trodVars_none hV
  have lt0 : ∀ x ∈ p0, x.block < W.heap.size := by obtain ⟨m, hm⟩ := h0; exact DataW.trod_lt m _ _ _ hm
  obtain ⟨a0, o0, rfl⟩ := open_flat (dec := Lk.cells) (ok := LkOk) Tryz.underlying24 flat_lock (hval 0 24 v0 rfl rfl) h0
  have lt1 : ∀ x ∈ p1, x.block < W.heap.size := by obtain ⟨m, hm⟩ := h1; exact DataW.trod_lt m _ _ _ hm
  obtain ⟨A1, n1, c1, rfl⟩ := okWide_slice Tryz.underlying25 (hval 1 25 v1 rfl rfl)
  obtain ⟨l1, e1, o1, r101, b1, m1⟩ := open_list (α := (Int × Int)) (dec := pkCells) (ok := (fun _ => True)) (size := 2) Tryz.underlying25 flat_pick (by kernel_rfl) (by decide) (fun _ => rfl) h1 lt1
  have lt2 : ∀ x ∈ p2, x.block < W.heap.size := by obtain ⟨m, hm⟩ := h2; exact DataW.trod_lt m _ _ _ hm
  obtain ⟨a2, rfl, w2⟩ := open_num Tryz.underlying5 (hval 2 5 v2 rfl rfl) h2
  have lt3 : ∀ x ∈ p3, x.block < W.heap.size := by obtain ⟨m, hm⟩ := h3; exact DataW.trod_lt m _ _ _ hm
  obtain ⟨a3, rfl, w3⟩ := open_num Tryz.underlying5 (hval 3 5 v3 rfl rfl) h3
  refine (wholeMisuse_any W a0 o0 r101 a2 a3 (wf_u8 w2) (wf_u8 w3)).mono fun e W' ⟨he, tch⟩ => ?_
  have bel : Below W.heap.size W W' := tch.below (Nat.le_refl _) (by simp)
  subst he
  exact ⟨_, rfl, _, _, _, [], _, [], hW', trodAll_mk1 (shut_bool Tryz.underlying4 _), (trodAll_cons_mk (Below.trod laidOut (by kernel_rfl) (of_decide_eq_true (by kernel_rfl)) h0 bel lt0) (trodAll_cons_mk (Below.trod laidOut (by kernel_rfl) (of_decide_eq_true (by kernel_rfl)) h1 bel lt1) (trodAll_cons_mk (Below.trod laidOut (by kernel_rfl) (of_decide_eq_true (by kernel_rfl)) h2 bel lt2) (trodAll_cons_mk (Below.trod laidOut (by kernel_rfl) (of_decide_eq_true (by kernel_rfl)) h3 bel lt3) trodAll_mk0)))), rfl, bel.frame _, fun h => by cases h⟩
theorem named : Tryz.pinned.checked.prog.funcNamed Rows.wholeMisuseRow.func = some 8 := by kernel_rfl
theorem fLaid : laidOutB Tryz.pinned.checked.prog = true := laidOut
theorem fMaps : mapsRowed Tryz.pinned.checked.prog = true := by kernel_rfl
theorem fStops : Tryz.pinned.checked.prog.stops = [] := by kernel_rfl
theorem fKnobs : Tryz.pinned.checked.prog.stopKnobs = [] := by kernel_rfl
theorem fPlace : Tryz.pinned.checked.prog.inPlace 8 = Rows.wholeMisuseRow.inPlace := by kernel_rfl
theorem fUnf : Tryz.pinned.checked.prog.unfollowed 8 = Rows.wholeMisuseRow.unfollowed := by kernel_rfl
theorem fRec : Tryz.pinned.checked.prog.recurses 8 = Rows.wholeMisuseRow.recurses := by kernel_rfl
theorem fNamed : Tryz.pinned.checked.prog.varsNamed 8 = Rows.wholeMisuseRow.named := by kernel_rfl
theorem fPlain : Tryz.pinned.checked.prog.plainKeys = Rows.wholeMisuseRow.plainKeys := by kernel_rfl
theorem fHeard : Tryz.pinned.checked.prog.stopsHeard = true := by kernel_rfl
theorem fEnter : Tryz.pinned.checked.prog.mayEnter = true := by kernel_rfl
theorem fLift : Tryz.pinned.checked.prog.liftsFinal = Rows.wholeMisuseRow.lifted := by kernel_rfl
theorem fMake : Tryz.pinned.checked.prog.make = some Rows.wholeMisuseRow.make := by kernel_rfl
theorem facts : joinedFacts Tryz.pinned.checked.prog 8 Tryz.f8 Rows.wholeMisuseSpec Rows.wholeMisuseRow = true := by
  unfold joinedFacts
  rw [fLaid, fMaps, fStops, fKnobs, fPlace, fUnf, fRec, fNamed, fPlain, fHeard, fEnter, fLift, fMake]
  kernel_rfl
theorem inst : Tryz.f8.isInstance Tryz.pinned.checked.prog Rows.wholeMisuseRow.origin Rows.wholeMisuseRow.targs := of_decide_eq_true (by kernel_rfl)
theorem wrap : Tryz.f8.isWrapper Tryz.pinned.checked.prog Rows.wholeMisuseRow.wrapper Rows.wholeMisuseRow.mainSum := by unfold Func.isWrapper; first | (rw [if_pos (by decide +kernel)]; kernel_rfl) | (rw [if_neg (by decide +kernel)]; exact ⟨rfl, rfl⟩)
theorem over : Rows.wholeMisuseRow.holds Tryz.pinned (OpenSpec.ofChange Rows.wholeMisuseSpec) :=
  OpenClaim.holds_of_wide 8 Tryz.f8 rfl rfl rfl rfl rfl rfl rfl ⟨rfl, rfl, rfl, rfl, rfl⟩ rfl rfl rfl rfl rfl named Tryz.func8 facts inst wrap
    (fun os started H enc _ => lifted os started H enc)
end Go.Proofs.YthnimpkoidablaaGreat.rowWholeMisuse
namespace Go.Proofs.YthnimpkoidablaaGreat
theorem wholeMisuse_holds : Rows.WholeMisuseSaid := rowWholeMisuse.over
#print axioms wholeMisuse_holds
end Go.Proofs.YthnimpkoidablaaGreat
