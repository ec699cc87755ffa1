/- Law 15: the document's example. Written by genlaw.py. -/
import Derived.Test.YtdffdppkdbbdoaaZRfStep
import Derived.Test.YtdffdppkdbbdoaaZHas3
set_option linter.unusedVariables false
set_option linter.unusedSimpArgs false
namespace Go.Proofs.Ytdffdppkdbbdoaa.Z
open Go.RowKit

theorem rf_awake_pure : (aloneA rfA 1 (start 1 1 1 (own5 5 ++ List.replicate ((8 + 4 * (1 : Int)).toNat - 1) 0))).1 = 2 ∧ ldA (aloneA rfA 1 (start 1 1 1 (own5 5 ++ List.replicate ((8 + 4 * (1 : Int)).toNat - 1) 0))).2.L 0 = 1 := by
  decide +kernel

set_option maxHeartbeats 1600000 in
theorem rf_awake (w : World) : Calls Try.prog 17 #[] w fun e w' => e = .returned (.bool true) ∧ Touch [] w w' := by
  have hp := rf_awake_pure
  have hf := fun W => first5 1 5 W (by decide) (by decide)
  generalize hL : own5 5 ++ List.replicate ((8 + 4 * (1 : Int)).toNat - 1) 0 = L at hf hp
  have HF := Lib.hid hf
  clear hf hL
  go_enter Try.func17, Try.ntmps17
  go_wp2_with fail
  refine (HF.out _).mono ?_
  rintro e w1 h1
  obtain ⟨p, g, cap, rfl, H1⟩ := has_newwords (Has.start [] w) h1
  clear h1
  go_wp2_with fail
  refine (fromRow_has H1 rfl).mono ?_
  rintro e w2 ⟨m, a, rfl, H2⟩
  clear H1
  go_wp2_with fail
  refine (rf_alone H2 1 1 1 (by unfold I64; decide) 1 (by decide)).mono ?_
  rintro e w3 ⟨v, he, H3⟩
  generalize aloneA rfA 1 (start 1 1 1 L) = R at hp he H3
  obtain ⟨r1, s3⟩ := R
  obtain ⟨rfl, hp2⟩ := hp
  simp only at he H3 hp2
  subst he
  clear H2
  have hld := fun W (H : Has [] w W (.mem m a s3.L :: .row p g cap L :: [])) => load_has H 0
  rw [hp2] at hld
  have HLD := Lib.hid hld
  clear hld hp2
  go_wp2_with fail
  refine (HLD.out _ H3).mono ?_
  rintro e w4 ⟨rfl, H4⟩
  go_wp2_with fail
  go_ret
  exact ⟨by simp, H4.touch⟩

end Go.Proofs.Ytdffdppkdbbdoaa.Z
