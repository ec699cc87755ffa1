/- Package wf: whatever the line. Written by genwf2.py. -/
import Derived.Test.YtmbbcgkfankiaaaZWfLines
import Derived.Test.YtmbbcgkfankiaaaZWfTries
import Derived.Test.YtmbbcgkfankiaaaZAlone
set_option linter.unusedVariables false
set_option linter.unusedSimpArgs false
namespace Go.Proofs.Ytmbbcgkfankiaaa.Z
open Go.RowKit

set_option maxHeartbeats 3200000 in
theorem wf_default {S0 : List Nat} {w0 w : World} {m a r : Nat} {rs : List Res} {s s2 : Rn} (H : RunHas S0 w0 m a r rs s w) {o l : Int} (hop : s.f.op = o) (hl : s.f.line = l)
    (h0 : ¬ (o = 1 ∧ l = 0)) (h1 : ¬ (o = 1 ∧ l = 1)) (h2 : ¬ (o = 1 ∧ l = 2)) (h3 : ¬ (o = 1 ∧ l = 3)) (h4 : ¬ (o = 2 ∧ l = 0)) (h5 : ¬ (o = 3 ∧ l = 0)) (h6 : ¬ (o = 3 ∧ l = 1))
    (ht : ∀ rs W, RunHas S0 w0 m a r rs s W → Calls Try.prog 56 #[.pointer (some ⟨r, 0, none⟩)] W fun e w' => e = .returned (.tuple #[]) ∧ RunHas S0 w0 m a r rs s2 w') :
    Calls Try.prog 19 #[.pointer (some ⟨r, 0, none⟩)] w fun e w' => e = .returned (.tuple #[]) ∧ RunHas S0 w0 m a r rs s2 w' := by
  have HT := Lib.hid ht
  obtain ⟨z0, z2, z4, z5, z6, z7⟩ := H.facts hop hl rfl rfl
  have HH := Lib.hid (H.box rfl #[.pointer (some ⟨r, 4, none⟩)] 96)
  clear H ht
  go_enter Try.func19, Try.ntmps19
  go_wp2_with fail
  go_quiet (fail)
  have HW := HH.out.drewN nq
  clear z0 z2 z4 z5 z6 z7
  generalize w.heap.size = tb at HW ⊢
  generalize (World.drewN _ nq) = W at HW ⊢
  obtain ⟨z0, z2, z4, z5, z6, z7⟩ := HW.facts hop hl rfl rfl
  obtain ⟨u0, u1, u2⟩ := HW.first.own
  go_wp2_with fail
  all_goals
    refine (HT.out _ _ HW).mono ?_
    rintro e w1 ⟨rfl, H1⟩
    go_wp2_with fail
    go_end0
    exact ⟨rfl, H1.unbox⟩

set_option maxHeartbeats 3200000 in
theorem wf_none {S0 : List Nat} {w0 w : World} {m a r : Nat} {rs : List Res} {s : Rn} (H : RunHas S0 w0 m a r rs s w) {o l : Int} (hop : s.f.op = o) (hl : s.f.line = l) (h0 : ¬ (o = 4 ∧ l = 0)) (h1 : ¬ (o = 8 ∧ l = 0)) (h2 : ¬ (o = 4 ∧ l = 1)) (h3 : ¬ (o = 8 ∧ l = 1)) (h4 : ¬ (o = 5 ∧ l = 0)) (h5 : ¬ (o = 6 ∧ l = 0)) (h6 : ¬ (o = 7 ∧ l = 0)) (h7 : ¬ (o = 5 ∧ l = 1)) (h8 : ¬ (o = 6 ∧ l = 1)) (h9 : ¬ (o = 7 ∧ l = 1)) :
    Calls Try.prog 56 #[.pointer (some ⟨r, 0, none⟩)] w fun e w' => e = .returned (.tuple #[]) ∧ RunHas S0 w0 m a r rs s w' := by
  obtain ⟨z0, z2, z4, z5, z6, z7⟩ := H.facts hop hl rfl rfl
  have HH := Lib.hid H
  clear H
  go_enter Try.func56, Try.ntmps56
  go_wp2_with fail
  go_quiet (fail)
  have HW := HH.out.drewN nq
  clear z0 z2 z4 z5 z6 z7
  generalize w.drewN nq = W at HW ⊢
  obtain ⟨z0, z2, z4, z5, z6, z7⟩ := HW.facts hop hl rfl rfl
  go_wp2_with fail
  all_goals
    go_end0
    exact ⟨rfl, HW⟩

/-- A step's lines of the lock in which writers go first. -/
def wfA (s : Rn) : Rn := if s.f.op = 1 ∧ s.f.line = 0 then wf10 s else if s.f.op = 1 ∧ s.f.line = 1 then wf11 s else if s.f.op = 1 ∧ s.f.line = 2 then wf12 s else if s.f.op = 1 ∧ s.f.line = 3 then wf13 s else if s.f.op = 2 ∧ s.f.line = 0 then wf20 s else if s.f.op = 3 ∧ s.f.line = 0 then wf30 s else if s.f.op = 3 ∧ s.f.line = 1 then wf31 s else if s.f.op = 4 ∧ s.f.line = 0 then wf40 s else if s.f.op = 8 ∧ s.f.line = 0 then wf80 s else if s.f.op = 4 ∧ s.f.line = 1 then wf41 s else if s.f.op = 8 ∧ s.f.line = 1 then wf81 s else if s.f.op = 5 ∧ s.f.line = 0 then wf50 s else if s.f.op = 6 ∧ s.f.line = 0 then wf60 s else if s.f.op = 7 ∧ s.f.line = 0 then wf70 s else if s.f.op = 5 ∧ s.f.line = 1 then wf51 s else if s.f.op = 6 ∧ s.f.line = 1 then wf61 s else if s.f.op = 7 ∧ s.f.line = 1 then wf71 s else s

theorem wf_lines {S0 : List Nat} {w0 w : World} {m a r : Nat} {rs : List Res} {s : Rn} (H : RunHas S0 w0 m a r rs s w) (hn : I64 s.n) (ha : 0 ≤ s.f.a ∧ s.f.a < 4294967296) (hc : s.notes.length ≤ 900) :
    Calls Try.prog 19 #[.pointer (some ⟨r, 0, none⟩)] w fun e w' => e = .returned (.tuple #[]) ∧ RunHas S0 w0 m a r rs (wfA s) w' := by
  unfold wfA
  by_cases h10 : s.f.op = 1 ∧ s.f.line = 0
  · rw [if_pos h10]; exact wf_10 H h10.1 h10.2 hn ha hc
  rw [if_neg h10]
  by_cases h11 : s.f.op = 1 ∧ s.f.line = 1
  · rw [if_pos h11]; exact wf_11 H h11.1 h11.2 hn ha hc
  rw [if_neg h11]
  by_cases h12 : s.f.op = 1 ∧ s.f.line = 2
  · rw [if_pos h12]; exact wf_12 H h12.1 h12.2 hn ha hc
  rw [if_neg h12]
  by_cases h13 : s.f.op = 1 ∧ s.f.line = 3
  · rw [if_pos h13]; exact wf_13 H h13.1 h13.2 hn ha hc
  rw [if_neg h13]
  by_cases h20 : s.f.op = 2 ∧ s.f.line = 0
  · rw [if_pos h20]; exact wf_20 H h20.1 h20.2 hn ha hc
  rw [if_neg h20]
  by_cases h30 : s.f.op = 3 ∧ s.f.line = 0
  · rw [if_pos h30]; exact wf_30 H h30.1 h30.2 hn ha hc
  rw [if_neg h30]
  by_cases h31 : s.f.op = 3 ∧ s.f.line = 1
  · rw [if_pos h31]; exact wf_31 H h31.1 h31.2 hn ha hc
  rw [if_neg h31]
  refine wf_default H rfl rfl h10 h11 h12 h13 h20 h30 h31 (fun rs W HW => ?_)
  by_cases h40 : s.f.op = 4 ∧ s.f.line = 0
  · rw [if_pos h40]; exact wf_40 HW h40.1 h40.2 hn ha hc
  rw [if_neg h40]
  by_cases h80 : s.f.op = 8 ∧ s.f.line = 0
  · rw [if_pos h80]; exact wf_80 HW h80.1 h80.2 hn ha hc
  rw [if_neg h80]
  by_cases h41 : s.f.op = 4 ∧ s.f.line = 1
  · rw [if_pos h41]; exact wf_41 HW h41.1 h41.2 hn ha hc
  rw [if_neg h41]
  by_cases h81 : s.f.op = 8 ∧ s.f.line = 1
  · rw [if_pos h81]; exact wf_81 HW h81.1 h81.2 hn ha hc
  rw [if_neg h81]
  by_cases h50 : s.f.op = 5 ∧ s.f.line = 0
  · rw [if_pos h50]; exact wf_50 HW h50.1 h50.2 hn ha hc
  rw [if_neg h50]
  by_cases h60 : s.f.op = 6 ∧ s.f.line = 0
  · rw [if_pos h60]; exact wf_60 HW h60.1 h60.2 hn ha hc
  rw [if_neg h60]
  by_cases h70 : s.f.op = 7 ∧ s.f.line = 0
  · rw [if_pos h70]; exact wf_70 HW h70.1 h70.2 hn ha hc
  rw [if_neg h70]
  by_cases h51 : s.f.op = 5 ∧ s.f.line = 1
  · rw [if_pos h51]; exact wf_51 HW h51.1 h51.2 hn ha hc
  rw [if_neg h51]
  by_cases h61 : s.f.op = 6 ∧ s.f.line = 1
  · rw [if_pos h61]; exact wf_61 HW h61.1 h61.2 hn ha hc
  rw [if_neg h61]
  by_cases h71 : s.f.op = 7 ∧ s.f.line = 1
  · rw [if_pos h71]; exact wf_71 HW h71.1 h71.2 hn ha hc
  rw [if_neg h71]
  exact wf_none HW rfl rfl h40 h80 h41 h81 h50 h60 h70 h51 h61 h71

theorem wf_lines_nil (w : World) : Calls Try.prog 19 #[.pointer none] w fun e w' => e = .returned (.tuple #[]) ∧ Touch [] w w' := by
  go_enter Try.func19, Try.ntmps19
  go_wp2
  refine bodyPost_ret (v := .tuple #[]) (by simp [results, Try.results19, go_sem]) rfl ⟨rfl, Touch.refl _ _⟩

end Go.Proofs.Ytmbbcgkfankiaaa.Z
