/- 2 texts of this claim, joined: what each shows stands at its own head. -/
import Derived.Test.YtdffdppkdbbdoaaZM24RfTogether
import Derived.Test.YtdffdppkdbbdoaaZM20RfTogether
import Derived.Test.YtdffdppkdbbdoaaZM21RfTogether
import Derived.Test.YtdffdppkdbbdoaaZM08RfTogether
/- Package rf: a line leaves whose run it is. Written by genmat.py. -/
set_option linter.unusedVariables false
set_option linter.unusedSimpArgs false
namespace Go.Proofs.Ytdffdppkdbbdoaa.Z
open Go.RowKit

def SmRf (s s' : Rn) : Prop := s'.n = s.n ∧ s'.mode = s.mode ∧ s'.task = s.task
theorem rf10_same (s : Rn) : SmRf s (rf10 s) := by
  unfold rf10
  try unfold Rn.chosen
  try unfold Rn.swapped
  (try dsimp only)
  (repeat' split) <;> exact ⟨rfl, rfl, rfl⟩
theorem rf11_same (s : Rn) : SmRf s (rf11 s) := by
  unfold rf11
  try unfold Rn.chosen
  try unfold Rn.swapped
  (try dsimp only)
  (repeat' split) <;> exact ⟨rfl, rfl, rfl⟩
theorem rf20_same (s : Rn) : SmRf s (rf20 s) := by
  unfold rf20
  try unfold Rn.chosen
  try unfold Rn.swapped
  (try dsimp only)
  (repeat' split) <;> exact ⟨rfl, rfl, rfl⟩
theorem rf30_same (s : Rn) : SmRf s (rf30 s) := by
  unfold rf30
  try unfold Rn.chosen
  try unfold Rn.swapped
  (try dsimp only)
  (repeat' split) <;> exact ⟨rfl, rfl, rfl⟩
theorem rf31_same (s : Rn) : SmRf s (rf31 s) := by
  unfold rf31
  try unfold Rn.chosen
  try unfold Rn.swapped
  (try dsimp only)
  (repeat' split) <;> exact ⟨rfl, rfl, rfl⟩
theorem rf32_same (s : Rn) : SmRf s (rf32 s) := by
  unfold rf32
  try unfold Rn.chosen
  try unfold Rn.swapped
  (try dsimp only)
  (repeat' split) <;> exact ⟨rfl, rfl, rfl⟩
theorem rf40_same (s : Rn) : SmRf s (rf40 s) := by
  unfold rf40
  try unfold Rn.chosen
  try unfold Rn.swapped
  (try dsimp only)
  (repeat' split) <;> exact ⟨rfl, rfl, rfl⟩
theorem rf80_same (s : Rn) : SmRf s (rf80 s) := by
  unfold rf80
  try unfold Rn.chosen
  try unfold Rn.swapped
  (try dsimp only)
  (repeat' split) <;> exact ⟨rfl, rfl, rfl⟩
theorem rf50_same (s : Rn) : SmRf s (rf50 s) := by
  unfold rf50
  try unfold Rn.chosen
  try unfold Rn.swapped
  (try dsimp only)
  (repeat' split) <;> exact ⟨rfl, rfl, rfl⟩
theorem rf60_same (s : Rn) : SmRf s (rf60 s) := by
  unfold rf60
  try unfold Rn.chosen
  try unfold Rn.swapped
  (try dsimp only)
  (repeat' split) <;> exact ⟨rfl, rfl, rfl⟩
theorem rf70_same (s : Rn) : SmRf s (rf70 s) := by
  unfold rf70
  try unfold Rn.chosen
  try unfold Rn.swapped
  (try dsimp only)
  (repeat' split) <;> exact ⟨rfl, rfl, rfl⟩
theorem rf51_same (s : Rn) : SmRf s (rf51 s) := by
  unfold rf51
  try unfold Rn.chosen
  try unfold Rn.swapped
  (try dsimp only)
  (repeat' split) <;> exact ⟨rfl, rfl, rfl⟩
theorem rf61_same (s : Rn) : SmRf s (rf61 s) := by
  unfold rf61
  try unfold Rn.chosen
  try unfold Rn.swapped
  (try dsimp only)
  (repeat' split) <;> exact ⟨rfl, rfl, rfl⟩
theorem rf71_same (s : Rn) : SmRf s (rf71 s) := by
  unfold rf71
  try unfold Rn.chosen
  try unfold Rn.swapped
  (try dsimp only)
  (repeat' split) <;> exact ⟨rfl, rfl, rfl⟩
theorem rfA_same (s : Rn) : SmRf s (rfA s) := by
  unfold rfA
  by_cases h0 : s.f.op = 1 ∧ s.f.line = 0
  · rw [if_pos h0]; exact rf10_same s
  rw [if_neg h0]
  by_cases h1 : s.f.op = 1 ∧ s.f.line = 1
  · rw [if_pos h1]; exact rf11_same s
  rw [if_neg h1]
  by_cases h2 : s.f.op = 2 ∧ s.f.line = 0
  · rw [if_pos h2]; exact rf20_same s
  rw [if_neg h2]
  by_cases h3 : s.f.op = 3 ∧ s.f.line = 0
  · rw [if_pos h3]; exact rf30_same s
  rw [if_neg h3]
  by_cases h4 : s.f.op = 3 ∧ s.f.line = 1
  · rw [if_pos h4]; exact rf31_same s
  rw [if_neg h4]
  by_cases h5 : s.f.op = 3 ∧ s.f.line = 2
  · rw [if_pos h5]; exact rf32_same s
  rw [if_neg h5]
  by_cases h6 : s.f.op = 4 ∧ s.f.line = 0
  · rw [if_pos h6]; exact rf40_same s
  rw [if_neg h6]
  by_cases h7 : s.f.op = 8 ∧ s.f.line = 0
  · rw [if_pos h7]; exact rf80_same s
  rw [if_neg h7]
  by_cases h8 : s.f.op = 5 ∧ s.f.line = 0
  · rw [if_pos h8]; exact rf50_same s
  rw [if_neg h8]
  by_cases h9 : s.f.op = 6 ∧ s.f.line = 0
  · rw [if_pos h9]; exact rf60_same s
  rw [if_neg h9]
  by_cases h10 : s.f.op = 7 ∧ s.f.line = 0
  · rw [if_pos h10]; exact rf70_same s
  rw [if_neg h10]
  by_cases h11 : s.f.op = 5 ∧ s.f.line = 1
  · rw [if_pos h11]; exact rf51_same s
  rw [if_neg h11]
  by_cases h12 : s.f.op = 6 ∧ s.f.line = 1
  · rw [if_pos h12]; exact rf61_same s
  rw [if_neg h12]
  by_cases h13 : s.f.op = 7 ∧ s.f.line = 1
  · rw [if_pos h13]; exact rf71_same s
  rw [if_neg h13]
  exact ⟨rfl, rfl, rfl⟩
theorem rf_step_same (s : Rn) : (stepR rfA s).n = s.n ∧ (stepR rfA s).mode = s.mode ∧ (stepR rfA s).task = s.task := by
  unfold stepR
  split
  · exact ⟨rfl, rfl, rfl⟩
  · exact rfA_same s.fresh

end Go.Proofs.Ytdffdppkdbbdoaa.Z

/- Law 15: may, from, behind. Written by genmatch.py. -/
set_option linter.unusedVariables false
set_option linter.unusedSimpArgs false
namespace Go.Proofs.Ytdffdppkdbbdoaa.Z
open Go.RowKit

theorem rf_may (op hold : Int) (w : World) : Calls Try.prog 66 #[.int .i64 op, .int .i64 hold] w fun e w' => e = .returned (.bool (mayB op hold)) ∧ w = w' := by
  by_cases h0 : hold = 0
  · subst h0
    by_cases h1 : op = 1
    · subst h1
      go_enter Try.func66, Try.ntmps66
      go_wp2
      go_ret
      exact ⟨rfl, rfl⟩
    have e1 : (op == 1) = false := by simpa using h1
    by_cases h3 : op = 3
    · subst h3
      go_enter Try.func66, Try.ntmps66
      go_wp2
      go_ret
      exact ⟨rfl, rfl⟩
    have e3 : (op == 3) = false := by simpa using h3
    by_cases h5 : op = 5
    · subst h5
      go_enter Try.func66, Try.ntmps66
      go_wp2
      go_ret
      exact ⟨rfl, rfl⟩
    have e5 : (op == 5) = false := by simpa using h5
    by_cases h6 : op = 6
    · subst h6
      go_enter Try.func66, Try.ntmps66
      go_wp2
      go_ret
      exact ⟨rfl, rfl⟩
    have e6 : (op == 6) = false := by simpa using h6
    go_enter Try.func66, Try.ntmps66
    go_wp2
    go_ret
    exact ⟨by simp [mayB, e1, e3, e5, e6], rfl⟩
  by_cases k1 : hold = 1
  · subst k1
    by_cases h2 : op = 2
    · subst h2
      go_enter Try.func66, Try.ntmps66
      go_wp2
      go_ret
      exact ⟨rfl, rfl⟩
    have e2 : (op == 2) = false := by simpa using h2
    by_cases h7 : op = 7
    · subst h7
      go_enter Try.func66, Try.ntmps66
      go_wp2
      go_ret
      exact ⟨rfl, rfl⟩
    have e7 : (op == 7) = false := by simpa using h7
    go_enter Try.func66, Try.ntmps66
    go_wp2
    go_ret
    exact ⟨by simp [mayB, e2, e7], rfl⟩
  have f0 : (hold == 0) = false := by simpa using h0
  have f1 : (hold == 1) = false := by simpa using k1
  by_cases h4 : op = 4
  · subst h4
    go_enter Try.func66, Try.ntmps66
    go_wp2
    go_ret
    exact ⟨by simp [mayB, h0, k1], rfl⟩
  have e4 : (op == 4) = false := by simpa using h4
  by_cases h8 : op = 8
  · subst h8
    go_enter Try.func66, Try.ntmps66
    go_wp2
    go_ret
    exact ⟨by simp [mayB, h0, k1], rfl⟩
  have e8 : (op == 8) = false := by simpa using h8
  go_enter Try.func66, Try.ntmps66
  go_wp2
  go_ret
  exact ⟨by simp [mayB, h0, k1, e4, e8], rfl⟩
theorem rf_from (op hold : Int) (w : World) : Calls Try.prog 67 #[.int .i64 op, .int .i64 hold] w fun e w' => e = .returned (.int .i64 (fromA op hold)) ∧ w = w' := by
  by_cases h2 : op = 2
  · subst h2
    go_enter Try.func67, Try.ntmps67
    go_wp2
    go_ret
    exact ⟨by simp [fromA], rfl⟩
  have e2 : (op == 2) = false := by simpa using h2
  by_cases h4 : op = 4
  · subst h4
    go_enter Try.func67, Try.ntmps67
    go_wp2
    go_ret
    exact ⟨by simp [fromA], rfl⟩
  have e4 : (op == 4) = false := by simpa using h4
  by_cases h8 : op = 8
  · subst h8
    go_enter Try.func67, Try.ntmps67
    go_wp2
    go_ret
    exact ⟨by simp [fromA], rfl⟩
  have e8 : (op == 8) = false := by simpa using h8
  go_enter Try.func67, Try.ntmps67
  go_wp2
  go_ret
  exact ⟨by simp [fromA, h2, h4, h8], rfl⟩
theorem rf_behind (op ret hold : Int) (w : World) : Calls Try.prog 69 #[.int .i64 op, .int .i64 ret, .int .i64 hold] w fun e w' => e = .returned (.int .i64 (behindA op ret hold)) ∧ w = w' := by
  by_cases hr : ret = 2
  · subst hr
    by_cases h1 : op = 1
    · subst h1
      go_enter Try.func69, Try.ntmps69
      go_wp2
      go_ret
      exact ⟨by simp [behindA], rfl⟩
    have e1 : (op == 1) = false := by simpa using h1
    by_cases h5 : op = 5
    · subst h5
      go_enter Try.func69, Try.ntmps69
      go_wp2
      go_ret
      exact ⟨by simp [behindA], rfl⟩
    have e5 : (op == 5) = false := by simpa using h5
    by_cases h3 : op = 3
    · subst h3
      go_enter Try.func69, Try.ntmps69
      go_wp2
      go_ret
      exact ⟨by simp [behindA], rfl⟩
    have e3 : (op == 3) = false := by simpa using h3
    by_cases h6 : op = 6
    · subst h6
      go_enter Try.func69, Try.ntmps69
      go_wp2
      go_ret
      exact ⟨by simp [behindA], rfl⟩
    have e6 : (op == 6) = false := by simpa using h6
    by_cases h7 : op = 7
    · subst h7
      go_enter Try.func69, Try.ntmps69
      go_wp2
      go_ret
      exact ⟨by simp [behindA], rfl⟩
    have e7 : (op == 7) = false := by simpa using h7
    go_enter Try.func69, Try.ntmps69
    go_wp2
    go_ret
    exact ⟨by simp [behindA, h1, h5, h3, h6, h7], rfl⟩
  have er : (ret != 2) = true := by simpa using hr
  go_enter Try.func69, Try.ntmps69
  go_wp2
  go_ret
  exact ⟨by simp [behindA, hr], rfl⟩

end Go.Proofs.Ytdffdppkdbbdoaa.Z
