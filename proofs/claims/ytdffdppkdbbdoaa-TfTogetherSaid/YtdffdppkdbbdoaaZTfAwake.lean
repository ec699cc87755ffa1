/- Law 10: the document's example. Written by genlaw.py. -/
import Derived.Test.YtdffdppkdbbdoaaZTfStep
import Derived.Test.YtdffdppkdbbdoaaZHas3
set_option linter.unusedVariables false
set_option linter.unusedSimpArgs false
namespace Go.Proofs.Ytdffdppkdbbdoaa.Z
open Go.RowKit

theorem tf_awake_pure : (aloneA tfA 3 (start 1 1 1 (own1 0 ++ List.replicate ((8 + 4 * (1 : Int)).toNat - 3) 0))).1 = 2 ∧ (ldA (aloneA tfA 3 (start 1 1 1 (own1 0 ++ List.replicate ((8 + 4 * (1 : Int)).toNat - 3) 0))).2.L 0 = 1 ∧ ldA (aloneA tfA 3 (start 1 1 1 (own1 0 ++ List.replicate ((8 + 4 * (1 : Int)).toNat - 3) 0))).2.L 1 = 1 ∧ ldA (aloneA tfA 3 (start 1 1 1 (own1 0 ++ List.replicate ((8 + 4 * (1 : Int)).toNat - 3) 0))).2.L 2 = 0) := by
  decide +kernel

set_option maxHeartbeats 1600000 in
theorem tf_awake (w : World) : Calls Try.prog 32 #[] w fun e w' => e = .returned (.bool true) ∧ Touch [] w w' := by
  have hp := tf_awake_pure
  have hf := fun W => first1 1 0 W (by decide) (by decide)
  generalize hL : own1 0 ++ List.replicate ((8 + 4 * (1 : Int)).toNat - 3) 0 = L at hf hp
  have HF := Lib.hid hf
  clear hf hL
  go_enter Try.func32, Try.ntmps32
  go_wp2_with fail
  refine (HF.out _).mono ?_
  rintro e w1 h1
  obtain ⟨p, g, cap, rfl, H1⟩ := has_newwords (Has.start [] w) h1
  clear h1
  go_wp2_with fail
  refine (fromRow_has H1 rfl).mono ?_
  rintro e w2 ⟨m, a, rfl, H2⟩
  clear H1
  go_wp2_with fail
  refine (tf_alone H2 1 1 1 (by unfold I64; decide) 3 (by decide)).mono ?_
  rintro e w3 ⟨v, he, H3⟩
  generalize aloneA tfA 3 (start 1 1 1 L) = R at hp he H3
  obtain ⟨r1, s3⟩ := R
  obtain ⟨rfl, hp2⟩ := hp
  simp only at he H3 hp2
  subst he
  clear H2
  have hld := fun (c : Int) W (H : Has [] w W (.mem m a s3.L :: .row p g cap L :: [])) => load_has H c
  have hl0 := hld 0
  have hl1 := hld 1
  have hl2 := hld 2
  rw [hp2.1] at hl0
  rw [hp2.2.1] at hl1
  rw [hp2.2.2] at hl2
  have HL0 := Lib.hid hl0
  have HL1 := Lib.hid hl1
  have HL2 := Lib.hid hl2
  clear hld hl0 hl1 hl2 hp2
  go_wp2_with fail
  refine (HL0.out _ H3).mono ?_
  rintro e w4 ⟨rfl, G4⟩
  go_wp2_with fail
  refine (HL1.out _ G4).mono ?_
  rintro e w5 ⟨rfl, G5⟩
  go_wp2_with fail
  refine (HL2.out _ G5).mono ?_
  rintro e w6 ⟨rfl, H4⟩
  go_wp2_with fail
  go_ret
  exact ⟨by simp, H4.touch⟩

end Go.Proofs.Ytdffdppkdbbdoaa.Z
