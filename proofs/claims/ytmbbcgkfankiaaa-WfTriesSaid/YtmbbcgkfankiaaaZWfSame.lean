/- Package wf: a line leaves whose run it is. Written by genmat.py. -/
import Derived.Test.YtmbbcgkfankiaaaZWfAll
import Derived.Test.YtmbbcgkfankiaaaZAlone
set_option linter.unusedVariables false
set_option linter.unusedSimpArgs false
namespace Go.Proofs.Ytmbbcgkfankiaaa.Z
open Go.RowKit

def SmWf (s s' : Rn) : Prop := s'.n = s.n ∧ s'.mode = s.mode ∧ s'.task = s.task
theorem wf10_same (s : Rn) : SmWf s (wf10 s) := by
  unfold wf10
  try unfold Rn.wchosen
  try unfold Rn.wswapped
  try unfold wfCalmly
  try unfold Rn.keep
  (try dsimp only)
  (repeat' split) <;> exact ⟨rfl, rfl, rfl⟩
theorem wf11_same (s : Rn) : SmWf s (wf11 s) := by
  unfold wf11
  try unfold Rn.wchosen
  try unfold Rn.wswapped
  try unfold wfCalmly
  try unfold Rn.keep
  (try dsimp only)
  (repeat' split) <;> exact ⟨rfl, rfl, rfl⟩
theorem wf12_same (s : Rn) : SmWf s (wf12 s) := by
  unfold wf12
  try unfold Rn.wchosen
  try unfold Rn.wswapped
  try unfold wfCalmly
  try unfold Rn.keep
  (try dsimp only)
  (repeat' split) <;> exact ⟨rfl, rfl, rfl⟩
theorem wf13_same (s : Rn) : SmWf s (wf13 s) := by
  unfold wf13
  try unfold Rn.wchosen
  try unfold Rn.wswapped
  try unfold wfCalmly
  try unfold Rn.keep
  (try dsimp only)
  (repeat' split) <;> exact ⟨rfl, rfl, rfl⟩
theorem wf20_same (s : Rn) : SmWf s (wf20 s) := by
  unfold wf20
  try unfold Rn.wchosen
  try unfold Rn.wswapped
  try unfold wfCalmly
  try unfold Rn.keep
  (try dsimp only)
  (repeat' split) <;> exact ⟨rfl, rfl, rfl⟩
theorem wf30_same (s : Rn) : SmWf s (wf30 s) := by
  unfold wf30
  try unfold Rn.wchosen
  try unfold Rn.wswapped
  try unfold wfCalmly
  try unfold Rn.keep
  (try dsimp only)
  (repeat' split) <;> exact ⟨rfl, rfl, rfl⟩
theorem wf31_same (s : Rn) : SmWf s (wf31 s) := by
  unfold wf31
  try unfold Rn.wchosen
  try unfold Rn.wswapped
  try unfold wfCalmly
  try unfold Rn.keep
  (try dsimp only)
  (repeat' split) <;> exact ⟨rfl, rfl, rfl⟩
theorem wf40_same (s : Rn) : SmWf s (wf40 s) := by
  unfold wf40
  try unfold Rn.wchosen
  try unfold Rn.wswapped
  try unfold wfCalmly
  try unfold Rn.keep
  (try dsimp only)
  (repeat' split) <;> exact ⟨rfl, rfl, rfl⟩
theorem wf80_same (s : Rn) : SmWf s (wf80 s) := by
  unfold wf80
  try unfold Rn.wchosen
  try unfold Rn.wswapped
  try unfold wfCalmly
  try unfold Rn.keep
  (try dsimp only)
  (repeat' split) <;> exact ⟨rfl, rfl, rfl⟩
theorem wf41_same (s : Rn) : SmWf s (wf41 s) := by
  unfold wf41
  try unfold Rn.wchosen
  try unfold Rn.wswapped
  try unfold wfCalmly
  try unfold Rn.keep
  (try dsimp only)
  (repeat' split) <;> exact ⟨rfl, rfl, rfl⟩
theorem wf81_same (s : Rn) : SmWf s (wf81 s) := by
  unfold wf81
  try unfold Rn.wchosen
  try unfold Rn.wswapped
  try unfold wfCalmly
  try unfold Rn.keep
  (try dsimp only)
  (repeat' split) <;> exact ⟨rfl, rfl, rfl⟩
theorem wf50_same (s : Rn) : SmWf s (wf50 s) := by
  unfold wf50
  try unfold Rn.wchosen
  try unfold Rn.wswapped
  try unfold wfCalmly
  try unfold Rn.keep
  (try dsimp only)
  (repeat' split) <;> exact ⟨rfl, rfl, rfl⟩
theorem wf60_same (s : Rn) : SmWf s (wf60 s) := by
  unfold wf60
  try unfold Rn.wchosen
  try unfold Rn.wswapped
  try unfold wfCalmly
  try unfold Rn.keep
  (try dsimp only)
  (repeat' split) <;> exact ⟨rfl, rfl, rfl⟩
theorem wf70_same (s : Rn) : SmWf s (wf70 s) := by
  unfold wf70
  try unfold Rn.wchosen
  try unfold Rn.wswapped
  try unfold wfCalmly
  try unfold Rn.keep
  (try dsimp only)
  (repeat' split) <;> exact ⟨rfl, rfl, rfl⟩
theorem wf51_same (s : Rn) : SmWf s (wf51 s) := by
  unfold wf51
  try unfold Rn.wchosen
  try unfold Rn.wswapped
  try unfold wfCalmly
  try unfold Rn.keep
  (try dsimp only)
  (repeat' split) <;> exact ⟨rfl, rfl, rfl⟩
theorem wf61_same (s : Rn) : SmWf s (wf61 s) := by
  unfold wf61
  try unfold Rn.wchosen
  try unfold Rn.wswapped
  try unfold wfCalmly
  try unfold Rn.keep
  (try dsimp only)
  (repeat' split) <;> exact ⟨rfl, rfl, rfl⟩
theorem wf71_same (s : Rn) : SmWf s (wf71 s) := by
  unfold wf71
  try unfold Rn.wchosen
  try unfold Rn.wswapped
  try unfold wfCalmly
  try unfold Rn.keep
  (try dsimp only)
  (repeat' split) <;> exact ⟨rfl, rfl, rfl⟩
theorem wfA_same (s : Rn) : SmWf s (wfA s) := by
  unfold wfA
  by_cases h0 : s.f.op = 1 ∧ s.f.line = 0
  · rw [if_pos h0]; exact wf10_same s
  rw [if_neg h0]
  by_cases h1 : s.f.op = 1 ∧ s.f.line = 1
  · rw [if_pos h1]; exact wf11_same s
  rw [if_neg h1]
  by_cases h2 : s.f.op = 1 ∧ s.f.line = 2
  · rw [if_pos h2]; exact wf12_same s
  rw [if_neg h2]
  by_cases h3 : s.f.op = 1 ∧ s.f.line = 3
  · rw [if_pos h3]; exact wf13_same s
  rw [if_neg h3]
  by_cases h4 : s.f.op = 2 ∧ s.f.line = 0
  · rw [if_pos h4]; exact wf20_same s
  rw [if_neg h4]
  by_cases h5 : s.f.op = 3 ∧ s.f.line = 0
  · rw [if_pos h5]; exact wf30_same s
  rw [if_neg h5]
  by_cases h6 : s.f.op = 3 ∧ s.f.line = 1
  · rw [if_pos h6]; exact wf31_same s
  rw [if_neg h6]
  by_cases h7 : s.f.op = 4 ∧ s.f.line = 0
  · rw [if_pos h7]; exact wf40_same s
  rw [if_neg h7]
  by_cases h8 : s.f.op = 8 ∧ s.f.line = 0
  · rw [if_pos h8]; exact wf80_same s
  rw [if_neg h8]
  by_cases h9 : s.f.op = 4 ∧ s.f.line = 1
  · rw [if_pos h9]; exact wf41_same s
  rw [if_neg h9]
  by_cases h10 : s.f.op = 8 ∧ s.f.line = 1
  · rw [if_pos h10]; exact wf81_same s
  rw [if_neg h10]
  by_cases h11 : s.f.op = 5 ∧ s.f.line = 0
  · rw [if_pos h11]; exact wf50_same s
  rw [if_neg h11]
  by_cases h12 : s.f.op = 6 ∧ s.f.line = 0
  · rw [if_pos h12]; exact wf60_same s
  rw [if_neg h12]
  by_cases h13 : s.f.op = 7 ∧ s.f.line = 0
  · rw [if_pos h13]; exact wf70_same s
  rw [if_neg h13]
  by_cases h14 : s.f.op = 5 ∧ s.f.line = 1
  · rw [if_pos h14]; exact wf51_same s
  rw [if_neg h14]
  by_cases h15 : s.f.op = 6 ∧ s.f.line = 1
  · rw [if_pos h15]; exact wf61_same s
  rw [if_neg h15]
  by_cases h16 : s.f.op = 7 ∧ s.f.line = 1
  · rw [if_pos h16]; exact wf71_same s
  rw [if_neg h16]
  exact ⟨rfl, rfl, rfl⟩
theorem wf_step_same (s : Rn) : (stepR wfA s).n = s.n ∧ (stepR wfA s).mode = s.mode ∧ (stepR wfA s).task = s.task := by
  unfold stepR
  split
  · exact ⟨rfl, rfl, rfl⟩
  · exact wfA_same s.fresh

end Go.Proofs.Ytmbbcgkfankiaaa.Z
