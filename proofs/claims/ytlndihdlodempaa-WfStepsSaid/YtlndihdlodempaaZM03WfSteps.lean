/- 5 texts of this claim, joined: what each shows stands at its own head. -/
import Derived.Test.YtlndihdlodempaaZM02WfSteps
import Derived.Deep.RegionWith
import Derived.Test.YtlndihdlodempaaZM01WfSteps
import Derived.Test.YtlndihdlodempaaZHas3
import Derived.Test.YtlndihdlodempaaZM00WfSteps
/- The document's lines of the lock in which writers go first, all. Written by genxwf.py. -/
set_option linter.unusedVariables false
set_option linter.unusedSimpArgs false
namespace Go.Proofs.Ytlndihdlodempaa.Z
open Go.RowKit

set_option maxHeartbeats 1600000 in
set_option maxRecDepth 100000 in
theorem xwf_off {S0 : List Nat} {w0 w : World} {p : Option Addr} {g cap x : Nat} {rs : List Res} {s : Rn} (H : XHas S0 w0 p g cap x rs s w) {o l : Int} (hop : s.f.op = o) (hl : s.f.line = l) (h : (o = 2 ∧ l = 1) ∨ (o = 2 ∧ l = 2) ∨ (o = 2 ∧ l = 3) ∨ (o = 3 ∧ l = 2) ∨ (o = 3 ∧ l = 3) ∨ (o = 4 ∧ l = 2) ∨ (o = 4 ∧ l = 3) ∨ (o = 5 ∧ l = 2) ∨ (o = 5 ∧ l = 3) ∨ (o = 6 ∧ l = 2) ∨ (o = 6 ∧ l = 3) ∨ (o = 7 ∧ l = 2) ∨ (o = 7 ∧ l = 3) ∨ (o = 8 ∧ l = 2) ∨ (o = 8 ∧ l = 3)) :
    Calls Try.prog 41 #[.pointer (some ⟨x, 0, none⟩)] w fun e w' => e = .returned (.tuple #[]) ∧ XHas S0 w0 p g cap x rs s w' := by
  rcases h with ⟨rfl, rfl⟩ | ⟨rfl, rfl⟩ | ⟨rfl, rfl⟩ | ⟨rfl, rfl⟩ | ⟨rfl, rfl⟩ | ⟨rfl, rfl⟩ | ⟨rfl, rfl⟩ | ⟨rfl, rfl⟩ | ⟨rfl, rfl⟩ | ⟨rfl, rfl⟩ | ⟨rfl, rfl⟩ | ⟨rfl, rfl⟩ | ⟨rfl, rfl⟩ | ⟨rfl, rfl⟩ | ⟨rfl, rfl⟩
  all_goals
    obtain ⟨z0, z2, z4, z5, z6, z7⟩ := H.facts hop hl rfl rfl
    have HH := Lib.hid H
    clear H
    go_enter Try.func41, Try.ntmps41
    go_wp2_with fail
    go_quiet (fail)
    have HW := HH.out.drewN nq
    clear z0 z2 z4 z5 z6 z7
    generalize w.drewN nq = W at HW ⊢
    obtain ⟨z0, z2, z4, z5, z6, z7⟩ := HW.facts hop hl rfl rfl
    go_wp2_with fail
    go_end0
    exact ⟨rfl, HW⟩

set_option maxHeartbeats 1600000 in
set_option maxRecDepth 100000 in
theorem xwf_out {S0 : List Nat} {w0 w : World} {p : Option Addr} {g cap x : Nat} {rs : List Res} {s : Rn} (H : XHas S0 w0 p g cap x rs s w) {o l : Int} (hop : s.f.op = o) (hl : s.f.line = l) (h : l < 0 ∨ 3 < l ∨ o < 1 ∨ 8 < o) :
    Calls Try.prog 41 #[.pointer (some ⟨x, 0, none⟩)] w fun e w' => e = .returned (.tuple #[]) ∧ XHas S0 w0 p g cap x rs s w' := by
  have e1 : decide (l < 0) = true ∨ (decide (l < 0) = false ∧ (decide (3 < l) = true ∨ (decide (3 < l) = false ∧ (decide (o < 1) = true ∨ (decide (o < 1) = false ∧ decide (8 < o) = true))))) := by
    simp only [decide_eq_true_eq, decide_eq_false_iff_not]
    omega
  obtain ⟨z0, z2, z4, z5, z6, z7⟩ := H.facts hop hl rfl rfl
  have HH := Lib.hid H
  clear H h
  rcases e1 with e1 | ⟨e1, e2 | ⟨e2, e3 | ⟨e3, e4⟩⟩⟩
  all_goals
    go_enter Try.func41, Try.ntmps41
    go_wp2_with fail
    (try simp only [Exit.inBlock, Exit.then]); refine bodyPost_ret (results_none rfl _ _ _) rfl ?_
    exact ⟨rfl, HH.out⟩

theorem xwf_rest {o l : Int} (hr : ¬ (l < 0 ∨ 3 < l ∨ o < 1 ∨ 8 < o)) : ¬ (o = 1 ∧ l = 0) → ¬ (o = 1 ∧ l = 1) → ¬ (o = 1 ∧ l = 2) → ¬ (o = 1 ∧ l = 3) → ¬ (o = 2 ∧ l = 0) → ¬ (o = 3 ∧ l = 0) → ¬ (o = 3 ∧ l = 1) → ¬ (o = 4 ∧ l = 0) → ¬ (o = 8 ∧ l = 0) → ¬ (o = 4 ∧ l = 1) → ¬ (o = 8 ∧ l = 1) → ¬ (o = 5 ∧ l = 0) → ¬ (o = 6 ∧ l = 0) → ¬ (o = 7 ∧ l = 0) → ¬ (o = 5 ∧ l = 1) → ¬ (o = 6 ∧ l = 1) → ¬ (o = 7 ∧ l = 1) → ((o = 2 ∧ l = 1) ∨ (o = 2 ∧ l = 2) ∨ (o = 2 ∧ l = 3) ∨ (o = 3 ∧ l = 2) ∨ (o = 3 ∧ l = 3) ∨ (o = 4 ∧ l = 2) ∨ (o = 4 ∧ l = 3) ∨ (o = 5 ∧ l = 2) ∨ (o = 5 ∧ l = 3) ∨ (o = 6 ∧ l = 2) ∨ (o = 6 ∧ l = 3) ∨ (o = 7 ∧ l = 2) ∨ (o = 7 ∧ l = 3) ∨ (o = 8 ∧ l = 2) ∨ (o = 8 ∧ l = 3)) := by
  have ho : o = 1 ∨ o = 2 ∨ o = 3 ∨ o = 4 ∨ o = 5 ∨ o = 6 ∨ o = 7 ∨ o = 8 := by omega
  have hl : l = 0 ∨ l = 1 ∨ l = 2 ∨ l = 3 := by omega
  clear hr
  rcases ho with rfl | rfl | rfl | rfl | rfl | rfl | rfl | rfl <;> rcases hl with rfl | rfl | rfl | rfl <;> simp

/-- The document's lines are the program's. -/
theorem xwf_lines {S0 : List Nat} {w0 w : World} {p : Option Addr} {g cap x : Nat} {rs : List Res} {s : Rn} (H : XHas S0 w0 p g cap x rs s w) (hn : I64 s.n) (ha : 0 ≤ s.f.a ∧ s.f.a < 4294967296) (hc : s.notes.length ≤ 900) :
    Calls Try.prog 41 #[.pointer (some ⟨x, 0, none⟩)] w fun e w' => e = .returned (.tuple #[]) ∧ XHas S0 w0 p g cap x rs (wfA s) w' := by
  unfold wfA
  by_cases h10 : s.f.op = 1 ∧ s.f.line = 0
  · rw [if_pos h10]; exact xwf_10 H h10.1 h10.2 ha hc
  rw [if_neg h10]
  by_cases h11 : s.f.op = 1 ∧ s.f.line = 1
  · rw [if_pos h11]; exact xwf_11 H h11.1 h11.2 ha hc
  rw [if_neg h11]
  by_cases h12 : s.f.op = 1 ∧ s.f.line = 2
  · rw [if_pos h12]; exact xwf_12 H h12.1 h12.2 ha hc
  rw [if_neg h12]
  by_cases h13 : s.f.op = 1 ∧ s.f.line = 3
  · rw [if_pos h13]; exact xwf_13 H h13.1 h13.2 ha hc
  rw [if_neg h13]
  by_cases h20 : s.f.op = 2 ∧ s.f.line = 0
  · rw [if_pos h20]; exact xwf_20 H h20.1 h20.2 ha hc
  rw [if_neg h20]
  by_cases h30 : s.f.op = 3 ∧ s.f.line = 0
  · rw [if_pos h30]; exact xwf_30 H h30.1 h30.2 ha hc
  rw [if_neg h30]
  by_cases h31 : s.f.op = 3 ∧ s.f.line = 1
  · rw [if_pos h31]; exact xwf_31 H h31.1 h31.2 ha hc
  rw [if_neg h31]
  by_cases h40 : s.f.op = 4 ∧ s.f.line = 0
  · rw [if_pos h40]; exact xwf_40 H h40.1 h40.2 ha hc
  rw [if_neg h40]
  by_cases h80 : s.f.op = 8 ∧ s.f.line = 0
  · rw [if_pos h80]; exact xwf_80 H h80.1 h80.2 ha hc
  rw [if_neg h80]
  by_cases h41 : s.f.op = 4 ∧ s.f.line = 1
  · rw [if_pos h41]; exact xwf_41 H h41.1 h41.2 ha hc
  rw [if_neg h41]
  by_cases h81 : s.f.op = 8 ∧ s.f.line = 1
  · rw [if_pos h81]; exact xwf_81 H h81.1 h81.2 ha hc
  rw [if_neg h81]
  by_cases h50 : s.f.op = 5 ∧ s.f.line = 0
  · rw [if_pos h50]; exact xwf_50 H h50.1 h50.2 ha hc
  rw [if_neg h50]
  by_cases h60 : s.f.op = 6 ∧ s.f.line = 0
  · rw [if_pos h60]; exact xwf_60 H h60.1 h60.2 ha hc
  rw [if_neg h60]
  by_cases h70 : s.f.op = 7 ∧ s.f.line = 0
  · rw [if_pos h70]; exact xwf_70 H h70.1 h70.2 ha hc
  rw [if_neg h70]
  by_cases h51 : s.f.op = 5 ∧ s.f.line = 1
  · rw [if_pos h51]; exact xwf_51 H h51.1 h51.2 ha hc
  rw [if_neg h51]
  by_cases h61 : s.f.op = 6 ∧ s.f.line = 1
  · rw [if_pos h61]; exact xwf_61 H h61.1 h61.2 ha hc
  rw [if_neg h61]
  by_cases h71 : s.f.op = 7 ∧ s.f.line = 1
  · rw [if_pos h71]; exact xwf_71 H h71.1 h71.2 ha hc
  rw [if_neg h71]
  by_cases hr : s.f.line < 0 ∨ 3 < s.f.line ∨ s.f.op < 1 ∨ 8 < s.f.op
  · exact xwf_out H rfl rfl hr
  · exact xwf_off H rfl rfl (xwf_rest hr h10 h11 h12 h13 h20 h30 h31 h40 h80 h41 h81 h50 h60 h70 h51 h61 h71)

end Go.Proofs.Ytlndihdlodempaa.Z

/- Package wf: what a line keeps. Written by genwf2.py. -/
set_option linter.unusedVariables false
set_option linter.unusedSimpArgs false
namespace Go.Proofs.Ytlndihdlodempaa.Z
open Go.RowKit

theorem keep_fine {s : Rn} (hw : Words s.L) {n mode task st c : Int} {p : Int → Bool} (h2 : 0 ≤ s.f.a ∧ s.f.a < 4294967296) : 0 ≤ (s.keep (waitA s.L n mode task st c p)).f.a ∧ (s.keep (waitA s.L n mode task st c p)).f.a < 4294967296 := by
  unfold Rn.keep
  split
  · rcases stageA_is mode st with e | e | e | e | e
    · rw [waitA0 e]; exact doA_old s.L hw _
    · rw [waitA1 e]; exact doA_old s.L hw _
    · rw [waitA2 e]; exact doA_old s.L hw _
    · rename_i h; rw [waitA3 e] at h; cases h
    · rw [waitA4 e]; exact doA_old s.L hw _
  · exact h2
theorem keep_rest (s : Rn) (R : WaitR) : (s.keep R).n = s.n ∧ (s.keep R).f.b = s.f.b ∧ (s.keep R).notes = s.notes := by
  unfold Rn.keep
  split <;> exact ⟨rfl, rfl, rfl⟩

set_option maxHeartbeats 800000 in
theorem wf10_fine (s : Rn) (hw : Words s.L) (h : I64 s.n ∧ (0 ≤ s.f.a ∧ s.f.a < 4294967296) ∧ (0 ≤ s.f.b ∧ s.f.b < 4294967296)) : Fine s (wf10 s) := by
  have hold := fun b => doA_old s.L hw b
  obtain ⟨h1, h2, h3⟩ := h
  unfold wf10 wfCalmly
  (try dsimp only)
  (repeat' split) <;> first
    | exact fine_mk ⟨⟨h1, h2, h3⟩, by simp [Rn.wends, wfCalmly, Rn.keep, Rn.noted, Rn.did, Rn.setA, Rn.setB, Rn.note, Rn.goto, Rn.fin, Rn.wake, Rn.waited]⟩
    | exact fine_mk ⟨⟨h1, hold _, h3⟩, by simp [Rn.wends, wfCalmly, Rn.keep, Rn.noted, Rn.did, Rn.setA, Rn.setB, Rn.note, Rn.goto, Rn.fin, Rn.wake, Rn.waited]⟩
    | exact fine_mk ⟨⟨h1, h2, hold _⟩, by simp [Rn.wends, wfCalmly, Rn.keep, Rn.noted, Rn.did, Rn.setA, Rn.setB, Rn.note, Rn.goto, Rn.fin, Rn.wake, Rn.waited]⟩

set_option maxHeartbeats 800000 in
theorem wf11_fine (s : Rn) (hw : Words s.L) (h : I64 s.n ∧ (0 ≤ s.f.a ∧ s.f.a < 4294967296) ∧ (0 ≤ s.f.b ∧ s.f.b < 4294967296)) : Fine s (wf11 s) := by
  have hold := fun b => doA_old s.L hw b
  obtain ⟨h1, h2, h3⟩ := h
  unfold wf11
  (try dsimp only)
  (repeat' split) <;> first
    | exact fine_mk ⟨⟨h1, h2, h3⟩, by simp [Rn.wends, wfCalmly, Rn.keep, Rn.noted, Rn.did, Rn.setA, Rn.setB, Rn.note, Rn.goto, Rn.fin, Rn.wake, Rn.waited]⟩
    | exact fine_mk ⟨⟨h1, hold _, h3⟩, by simp [Rn.wends, wfCalmly, Rn.keep, Rn.noted, Rn.did, Rn.setA, Rn.setB, Rn.note, Rn.goto, Rn.fin, Rn.wake, Rn.waited]⟩
    | exact fine_mk ⟨⟨h1, h2, hold _⟩, by simp [Rn.wends, wfCalmly, Rn.keep, Rn.noted, Rn.did, Rn.setA, Rn.setB, Rn.note, Rn.goto, Rn.fin, Rn.wake, Rn.waited]⟩

theorem wf12_fine (s : Rn) (hw : Words s.L) (h : I64 s.n ∧ (0 ≤ s.f.a ∧ s.f.a < 4294967296) ∧ (0 ≤ s.f.b ∧ s.f.b < 4294967296)) : Fine s (wf12 s) := by
  obtain ⟨h1, h2, h3⟩ := h
  have hk := keep_fine (n := s.n) (mode := s.mode) (task := s.task) (st := s.f.st) (c := 0) (p := wfCalm) hw h2
  unfold wf12
  dsimp only
  obtain ⟨e1, e2, e3⟩ := keep_rest s (waitA s.L s.n s.mode s.task s.f.st 0 wfCalm)
  generalize s.keep (waitA s.L s.n s.mode s.task s.f.st 0 wfCalm) = s1 at hk e1 e2 e3 ⊢
  have hb : I64 s1.n ∧ (0 ≤ s1.f.a ∧ s1.f.a < 4294967296) ∧ (0 ≤ s1.f.b ∧ s1.f.b < 4294967296) := ⟨by rw [e1]; exact h1, hk, by rw [e2]; exact h3⟩
  split
  · exact fine_mk ⟨hb, by show s1.notes.length ≤ _; rw [e3]; omega⟩
  · exact fine_mk ⟨hb, by show s1.notes.length ≤ _; rw [e3]; omega⟩

set_option maxHeartbeats 800000 in
theorem wf13_fine (s : Rn) (hw : Words s.L) (h : I64 s.n ∧ (0 ≤ s.f.a ∧ s.f.a < 4294967296) ∧ (0 ≤ s.f.b ∧ s.f.b < 4294967296)) : Fine s (wf13 s) := by
  have hold := fun b => doA_old s.L hw b
  obtain ⟨h1, h2, h3⟩ := h
  unfold wf13 wfCalmly
  (try dsimp only)
  (repeat' split) <;> first
    | exact fine_mk ⟨⟨h1, h2, h3⟩, by simp [Rn.wends, wfCalmly, Rn.keep, Rn.noted, Rn.did, Rn.setA, Rn.setB, Rn.note, Rn.goto, Rn.fin, Rn.wake, Rn.waited]⟩
    | exact fine_mk ⟨⟨h1, hold _, h3⟩, by simp [Rn.wends, wfCalmly, Rn.keep, Rn.noted, Rn.did, Rn.setA, Rn.setB, Rn.note, Rn.goto, Rn.fin, Rn.wake, Rn.waited]⟩
    | exact fine_mk ⟨⟨h1, h2, hold _⟩, by simp [Rn.wends, wfCalmly, Rn.keep, Rn.noted, Rn.did, Rn.setA, Rn.setB, Rn.note, Rn.goto, Rn.fin, Rn.wake, Rn.waited]⟩

set_option maxHeartbeats 800000 in
theorem wf20_fine (s : Rn) (hw : Words s.L) (h : I64 s.n ∧ (0 ≤ s.f.a ∧ s.f.a < 4294967296) ∧ (0 ≤ s.f.b ∧ s.f.b < 4294967296)) : Fine s (wf20 s) := by
  have hold := fun b => doA_old s.L hw b
  obtain ⟨h1, h2, h3⟩ := h
  unfold wf20
  (try dsimp only)
  (repeat' split) <;> first
    | exact fine_mk ⟨⟨h1, h2, h3⟩, by simp [Rn.wends, wfCalmly, Rn.keep, Rn.noted, Rn.did, Rn.setA, Rn.setB, Rn.note, Rn.goto, Rn.fin, Rn.wake, Rn.waited]⟩
    | exact fine_mk ⟨⟨h1, hold _, h3⟩, by simp [Rn.wends, wfCalmly, Rn.keep, Rn.noted, Rn.did, Rn.setA, Rn.setB, Rn.note, Rn.goto, Rn.fin, Rn.wake, Rn.waited]⟩
    | exact fine_mk ⟨⟨h1, h2, hold _⟩, by simp [Rn.wends, wfCalmly, Rn.keep, Rn.noted, Rn.did, Rn.setA, Rn.setB, Rn.note, Rn.goto, Rn.fin, Rn.wake, Rn.waited]⟩

set_option maxHeartbeats 800000 in
theorem wf30_fine (s : Rn) (hw : Words s.L) (h : I64 s.n ∧ (0 ≤ s.f.a ∧ s.f.a < 4294967296) ∧ (0 ≤ s.f.b ∧ s.f.b < 4294967296)) : Fine s (wf30 s) := by
  have hold := fun b => doA_old s.L hw b
  obtain ⟨h1, h2, h3⟩ := h
  unfold wf30
  (try dsimp only)
  (repeat' split) <;> first
    | exact fine_mk ⟨⟨h1, h2, h3⟩, by simp [Rn.wends, wfCalmly, Rn.keep, Rn.noted, Rn.did, Rn.setA, Rn.setB, Rn.note, Rn.goto, Rn.fin, Rn.wake, Rn.waited]⟩
    | exact fine_mk ⟨⟨h1, hold _, h3⟩, by simp [Rn.wends, wfCalmly, Rn.keep, Rn.noted, Rn.did, Rn.setA, Rn.setB, Rn.note, Rn.goto, Rn.fin, Rn.wake, Rn.waited]⟩
    | exact fine_mk ⟨⟨h1, h2, hold _⟩, by simp [Rn.wends, wfCalmly, Rn.keep, Rn.noted, Rn.did, Rn.setA, Rn.setB, Rn.note, Rn.goto, Rn.fin, Rn.wake, Rn.waited]⟩

set_option maxHeartbeats 800000 in
theorem wf31_fine (s : Rn) (hw : Words s.L) (h : I64 s.n ∧ (0 ≤ s.f.a ∧ s.f.a < 4294967296) ∧ (0 ≤ s.f.b ∧ s.f.b < 4294967296)) : Fine s (wf31 s) := by
  have hold := fun b => doA_old s.L hw b
  obtain ⟨h1, h2, h3⟩ := h
  unfold wf31
  (try dsimp only)
  (repeat' split) <;> first
    | exact fine_mk ⟨⟨h1, h2, h3⟩, by simp [Rn.wends, wfCalmly, Rn.keep, Rn.noted, Rn.did, Rn.setA, Rn.setB, Rn.note, Rn.goto, Rn.fin, Rn.wake, Rn.waited]⟩
    | exact fine_mk ⟨⟨h1, hold _, h3⟩, by simp [Rn.wends, wfCalmly, Rn.keep, Rn.noted, Rn.did, Rn.setA, Rn.setB, Rn.note, Rn.goto, Rn.fin, Rn.wake, Rn.waited]⟩
    | exact fine_mk ⟨⟨h1, h2, hold _⟩, by simp [Rn.wends, wfCalmly, Rn.keep, Rn.noted, Rn.did, Rn.setA, Rn.setB, Rn.note, Rn.goto, Rn.fin, Rn.wake, Rn.waited]⟩

set_option maxHeartbeats 800000 in
theorem wf40_fine (s : Rn) (hw : Words s.L) (h : I64 s.n ∧ (0 ≤ s.f.a ∧ s.f.a < 4294967296) ∧ (0 ≤ s.f.b ∧ s.f.b < 4294967296)) : Fine s (wf40 s) := by
  have hold := fun b => doA_old s.L hw b
  obtain ⟨h1, h2, h3⟩ := h
  unfold wf40
  (try dsimp only)
  (repeat' split) <;> first
    | exact fine_mk ⟨⟨h1, h2, h3⟩, by simp [Rn.wends, wfCalmly, Rn.keep, Rn.noted, Rn.did, Rn.setA, Rn.setB, Rn.note, Rn.goto, Rn.fin, Rn.wake, Rn.waited]⟩
    | exact fine_mk ⟨⟨h1, hold _, h3⟩, by simp [Rn.wends, wfCalmly, Rn.keep, Rn.noted, Rn.did, Rn.setA, Rn.setB, Rn.note, Rn.goto, Rn.fin, Rn.wake, Rn.waited]⟩
    | exact fine_mk ⟨⟨h1, h2, hold _⟩, by simp [Rn.wends, wfCalmly, Rn.keep, Rn.noted, Rn.did, Rn.setA, Rn.setB, Rn.note, Rn.goto, Rn.fin, Rn.wake, Rn.waited]⟩

set_option maxHeartbeats 800000 in
theorem wf80_fine (s : Rn) (hw : Words s.L) (h : I64 s.n ∧ (0 ≤ s.f.a ∧ s.f.a < 4294967296) ∧ (0 ≤ s.f.b ∧ s.f.b < 4294967296)) : Fine s (wf80 s) := by
  have hold := fun b => doA_old s.L hw b
  obtain ⟨h1, h2, h3⟩ := h
  unfold wf80
  (try dsimp only)
  (repeat' split) <;> first
    | exact fine_mk ⟨⟨h1, h2, h3⟩, by simp [Rn.wends, wfCalmly, Rn.keep, Rn.noted, Rn.did, Rn.setA, Rn.setB, Rn.note, Rn.goto, Rn.fin, Rn.wake, Rn.waited]⟩
    | exact fine_mk ⟨⟨h1, hold _, h3⟩, by simp [Rn.wends, wfCalmly, Rn.keep, Rn.noted, Rn.did, Rn.setA, Rn.setB, Rn.note, Rn.goto, Rn.fin, Rn.wake, Rn.waited]⟩
    | exact fine_mk ⟨⟨h1, h2, hold _⟩, by simp [Rn.wends, wfCalmly, Rn.keep, Rn.noted, Rn.did, Rn.setA, Rn.setB, Rn.note, Rn.goto, Rn.fin, Rn.wake, Rn.waited]⟩

set_option maxHeartbeats 800000 in
theorem wf41_fine (s : Rn) (hw : Words s.L) (h : I64 s.n ∧ (0 ≤ s.f.a ∧ s.f.a < 4294967296) ∧ (0 ≤ s.f.b ∧ s.f.b < 4294967296)) : Fine s (wf41 s) := by
  have hold := fun b => doA_old s.L hw b
  obtain ⟨h1, h2, h3⟩ := h
  unfold wf41
  (try dsimp only)
  (repeat' split) <;> first
    | exact fine_mk ⟨⟨h1, h2, h3⟩, by simp [Rn.wends, wfCalmly, Rn.keep, Rn.noted, Rn.did, Rn.setA, Rn.setB, Rn.note, Rn.goto, Rn.fin, Rn.wake, Rn.waited]⟩
    | exact fine_mk ⟨⟨h1, hold _, h3⟩, by simp [Rn.wends, wfCalmly, Rn.keep, Rn.noted, Rn.did, Rn.setA, Rn.setB, Rn.note, Rn.goto, Rn.fin, Rn.wake, Rn.waited]⟩
    | exact fine_mk ⟨⟨h1, h2, hold _⟩, by simp [Rn.wends, wfCalmly, Rn.keep, Rn.noted, Rn.did, Rn.setA, Rn.setB, Rn.note, Rn.goto, Rn.fin, Rn.wake, Rn.waited]⟩

set_option maxHeartbeats 800000 in
theorem wf81_fine (s : Rn) (hw : Words s.L) (h : I64 s.n ∧ (0 ≤ s.f.a ∧ s.f.a < 4294967296) ∧ (0 ≤ s.f.b ∧ s.f.b < 4294967296)) : Fine s (wf81 s) := by
  have hold := fun b => doA_old s.L hw b
  obtain ⟨h1, h2, h3⟩ := h
  unfold wf81
  (try dsimp only)
  (repeat' split) <;> first
    | exact fine_mk ⟨⟨h1, h2, h3⟩, by simp [Rn.wends, wfCalmly, Rn.keep, Rn.noted, Rn.did, Rn.setA, Rn.setB, Rn.note, Rn.goto, Rn.fin, Rn.wake, Rn.waited]⟩
    | exact fine_mk ⟨⟨h1, hold _, h3⟩, by simp [Rn.wends, wfCalmly, Rn.keep, Rn.noted, Rn.did, Rn.setA, Rn.setB, Rn.note, Rn.goto, Rn.fin, Rn.wake, Rn.waited]⟩
    | exact fine_mk ⟨⟨h1, h2, hold _⟩, by simp [Rn.wends, wfCalmly, Rn.keep, Rn.noted, Rn.did, Rn.setA, Rn.setB, Rn.note, Rn.goto, Rn.fin, Rn.wake, Rn.waited]⟩

set_option maxHeartbeats 800000 in
theorem wf50_fine (s : Rn) (hw : Words s.L) (h : I64 s.n ∧ (0 ≤ s.f.a ∧ s.f.a < 4294967296) ∧ (0 ≤ s.f.b ∧ s.f.b < 4294967296)) : Fine s (wf50 s) := by
  have hold := fun b => doA_old s.L hw b
  obtain ⟨h1, h2, h3⟩ := h
  unfold wf50 Rn.wchosen
  (try dsimp only)
  (repeat' split) <;> first
    | exact fine_mk ⟨⟨h1, h2, h3⟩, by simp [Rn.wends, wfCalmly, Rn.keep, Rn.noted, Rn.did, Rn.setA, Rn.setB, Rn.note, Rn.goto, Rn.fin, Rn.wake, Rn.waited]⟩
    | exact fine_mk ⟨⟨h1, hold _, h3⟩, by simp [Rn.wends, wfCalmly, Rn.keep, Rn.noted, Rn.did, Rn.setA, Rn.setB, Rn.note, Rn.goto, Rn.fin, Rn.wake, Rn.waited]⟩
    | exact fine_mk ⟨⟨h1, h2, hold _⟩, by simp [Rn.wends, wfCalmly, Rn.keep, Rn.noted, Rn.did, Rn.setA, Rn.setB, Rn.note, Rn.goto, Rn.fin, Rn.wake, Rn.waited]⟩

set_option maxHeartbeats 800000 in
theorem wf60_fine (s : Rn) (hw : Words s.L) (h : I64 s.n ∧ (0 ≤ s.f.a ∧ s.f.a < 4294967296) ∧ (0 ≤ s.f.b ∧ s.f.b < 4294967296)) : Fine s (wf60 s) := by
  have hold := fun b => doA_old s.L hw b
  obtain ⟨h1, h2, h3⟩ := h
  unfold wf60 Rn.wchosen
  (try dsimp only)
  (repeat' split) <;> first
    | exact fine_mk ⟨⟨h1, h2, h3⟩, by simp [Rn.wends, wfCalmly, Rn.keep, Rn.noted, Rn.did, Rn.setA, Rn.setB, Rn.note, Rn.goto, Rn.fin, Rn.wake, Rn.waited]⟩
    | exact fine_mk ⟨⟨h1, hold _, h3⟩, by simp [Rn.wends, wfCalmly, Rn.keep, Rn.noted, Rn.did, Rn.setA, Rn.setB, Rn.note, Rn.goto, Rn.fin, Rn.wake, Rn.waited]⟩
    | exact fine_mk ⟨⟨h1, h2, hold _⟩, by simp [Rn.wends, wfCalmly, Rn.keep, Rn.noted, Rn.did, Rn.setA, Rn.setB, Rn.note, Rn.goto, Rn.fin, Rn.wake, Rn.waited]⟩

set_option maxHeartbeats 800000 in
theorem wf70_fine (s : Rn) (hw : Words s.L) (h : I64 s.n ∧ (0 ≤ s.f.a ∧ s.f.a < 4294967296) ∧ (0 ≤ s.f.b ∧ s.f.b < 4294967296)) : Fine s (wf70 s) := by
  have hold := fun b => doA_old s.L hw b
  obtain ⟨h1, h2, h3⟩ := h
  unfold wf70 Rn.wchosen
  (try dsimp only)
  (repeat' split) <;> first
    | exact fine_mk ⟨⟨h1, h2, h3⟩, by simp [Rn.wends, wfCalmly, Rn.keep, Rn.noted, Rn.did, Rn.setA, Rn.setB, Rn.note, Rn.goto, Rn.fin, Rn.wake, Rn.waited]⟩
    | exact fine_mk ⟨⟨h1, hold _, h3⟩, by simp [Rn.wends, wfCalmly, Rn.keep, Rn.noted, Rn.did, Rn.setA, Rn.setB, Rn.note, Rn.goto, Rn.fin, Rn.wake, Rn.waited]⟩
    | exact fine_mk ⟨⟨h1, h2, hold _⟩, by simp [Rn.wends, wfCalmly, Rn.keep, Rn.noted, Rn.did, Rn.setA, Rn.setB, Rn.note, Rn.goto, Rn.fin, Rn.wake, Rn.waited]⟩

set_option maxHeartbeats 800000 in
theorem wf51_fine (s : Rn) (hw : Words s.L) (h : I64 s.n ∧ (0 ≤ s.f.a ∧ s.f.a < 4294967296) ∧ (0 ≤ s.f.b ∧ s.f.b < 4294967296)) : Fine s (wf51 s) := by
  have hold := fun b => doA_old s.L hw b
  obtain ⟨h1, h2, h3⟩ := h
  unfold wf51 Rn.wswapped
  (try dsimp only)
  (repeat' split) <;> first
    | exact fine_mk ⟨⟨h1, h2, h3⟩, by simp [Rn.wends, wfCalmly, Rn.keep, Rn.noted, Rn.did, Rn.setA, Rn.setB, Rn.note, Rn.goto, Rn.fin, Rn.wake, Rn.waited]⟩
    | exact fine_mk ⟨⟨h1, hold _, h3⟩, by simp [Rn.wends, wfCalmly, Rn.keep, Rn.noted, Rn.did, Rn.setA, Rn.setB, Rn.note, Rn.goto, Rn.fin, Rn.wake, Rn.waited]⟩
    | exact fine_mk ⟨⟨h1, h2, hold _⟩, by simp [Rn.wends, wfCalmly, Rn.keep, Rn.noted, Rn.did, Rn.setA, Rn.setB, Rn.note, Rn.goto, Rn.fin, Rn.wake, Rn.waited]⟩

set_option maxHeartbeats 800000 in
theorem wf61_fine (s : Rn) (hw : Words s.L) (h : I64 s.n ∧ (0 ≤ s.f.a ∧ s.f.a < 4294967296) ∧ (0 ≤ s.f.b ∧ s.f.b < 4294967296)) : Fine s (wf61 s) := by
  have hold := fun b => doA_old s.L hw b
  obtain ⟨h1, h2, h3⟩ := h
  unfold wf61 Rn.wswapped
  (try dsimp only)
  (repeat' split) <;> first
    | exact fine_mk ⟨⟨h1, h2, h3⟩, by simp [Rn.wends, wfCalmly, Rn.keep, Rn.noted, Rn.did, Rn.setA, Rn.setB, Rn.note, Rn.goto, Rn.fin, Rn.wake, Rn.waited]⟩
    | exact fine_mk ⟨⟨h1, hold _, h3⟩, by simp [Rn.wends, wfCalmly, Rn.keep, Rn.noted, Rn.did, Rn.setA, Rn.setB, Rn.note, Rn.goto, Rn.fin, Rn.wake, Rn.waited]⟩
    | exact fine_mk ⟨⟨h1, h2, hold _⟩, by simp [Rn.wends, wfCalmly, Rn.keep, Rn.noted, Rn.did, Rn.setA, Rn.setB, Rn.note, Rn.goto, Rn.fin, Rn.wake, Rn.waited]⟩

set_option maxHeartbeats 800000 in
theorem wf71_fine (s : Rn) (hw : Words s.L) (h : I64 s.n ∧ (0 ≤ s.f.a ∧ s.f.a < 4294967296) ∧ (0 ≤ s.f.b ∧ s.f.b < 4294967296)) : Fine s (wf71 s) := by
  have hold := fun b => doA_old s.L hw b
  obtain ⟨h1, h2, h3⟩ := h
  unfold wf71 Rn.wswapped
  (try dsimp only)
  (repeat' split) <;> first
    | exact fine_mk ⟨⟨h1, h2, h3⟩, by simp [Rn.wends, wfCalmly, Rn.keep, Rn.noted, Rn.did, Rn.setA, Rn.setB, Rn.note, Rn.goto, Rn.fin, Rn.wake, Rn.waited]⟩
    | exact fine_mk ⟨⟨h1, hold _, h3⟩, by simp [Rn.wends, wfCalmly, Rn.keep, Rn.noted, Rn.did, Rn.setA, Rn.setB, Rn.note, Rn.goto, Rn.fin, Rn.wake, Rn.waited]⟩
    | exact fine_mk ⟨⟨h1, h2, hold _⟩, by simp [Rn.wends, wfCalmly, Rn.keep, Rn.noted, Rn.did, Rn.setA, Rn.setB, Rn.note, Rn.goto, Rn.fin, Rn.wake, Rn.waited]⟩

/-- What is kept stays words; few notes come. -/
theorem wfA_fine (s : Rn) (hw : Words s.L) (h : I64 s.n ∧ (0 ≤ s.f.a ∧ s.f.a < 4294967296) ∧ (0 ≤ s.f.b ∧ s.f.b < 4294967296)) : (I64 (wfA s).n ∧ (0 ≤ (wfA s).f.a ∧ (wfA s).f.a < 4294967296) ∧ (0 ≤ (wfA s).f.b ∧ (wfA s).f.b < 4294967296)) ∧ (wfA s).notes.length ≤ s.notes.length + 10 := by
  suffices h0 : Fine s (wfA s) from h0
  unfold wfA
  by_cases h10 : s.f.op = 1 ∧ s.f.line = 0
  · rw [if_pos h10]; exact wf10_fine s hw h
  rw [if_neg h10]
  by_cases h11 : s.f.op = 1 ∧ s.f.line = 1
  · rw [if_pos h11]; exact wf11_fine s hw h
  rw [if_neg h11]
  by_cases h12 : s.f.op = 1 ∧ s.f.line = 2
  · rw [if_pos h12]; exact wf12_fine s hw h
  rw [if_neg h12]
  by_cases h13 : s.f.op = 1 ∧ s.f.line = 3
  · rw [if_pos h13]; exact wf13_fine s hw h
  rw [if_neg h13]
  by_cases h20 : s.f.op = 2 ∧ s.f.line = 0
  · rw [if_pos h20]; exact wf20_fine s hw h
  rw [if_neg h20]
  by_cases h30 : s.f.op = 3 ∧ s.f.line = 0
  · rw [if_pos h30]; exact wf30_fine s hw h
  rw [if_neg h30]
  by_cases h31 : s.f.op = 3 ∧ s.f.line = 1
  · rw [if_pos h31]; exact wf31_fine s hw h
  rw [if_neg h31]
  by_cases h40 : s.f.op = 4 ∧ s.f.line = 0
  · rw [if_pos h40]; exact wf40_fine s hw h
  rw [if_neg h40]
  by_cases h80 : s.f.op = 8 ∧ s.f.line = 0
  · rw [if_pos h80]; exact wf80_fine s hw h
  rw [if_neg h80]
  by_cases h41 : s.f.op = 4 ∧ s.f.line = 1
  · rw [if_pos h41]; exact wf41_fine s hw h
  rw [if_neg h41]
  by_cases h81 : s.f.op = 8 ∧ s.f.line = 1
  · rw [if_pos h81]; exact wf81_fine s hw h
  rw [if_neg h81]
  by_cases h50 : s.f.op = 5 ∧ s.f.line = 0
  · rw [if_pos h50]; exact wf50_fine s hw h
  rw [if_neg h50]
  by_cases h60 : s.f.op = 6 ∧ s.f.line = 0
  · rw [if_pos h60]; exact wf60_fine s hw h
  rw [if_neg h60]
  by_cases h70 : s.f.op = 7 ∧ s.f.line = 0
  · rw [if_pos h70]; exact wf70_fine s hw h
  rw [if_neg h70]
  by_cases h51 : s.f.op = 5 ∧ s.f.line = 1
  · rw [if_pos h51]; exact wf51_fine s hw h
  rw [if_neg h51]
  by_cases h61 : s.f.op = 6 ∧ s.f.line = 1
  · rw [if_pos h61]; exact wf61_fine s hw h
  rw [if_neg h61]
  by_cases h71 : s.f.op = 7 ∧ s.f.line = 1
  · rw [if_pos h71]; exact wf71_fine s hw h
  rw [if_neg h71]
  exact fine_mk ⟨h, by simp⟩

end Go.Proofs.Ytlndihdlodempaa.Z

/- Law 16: a step; an operation by itself. Written by genlaw.py. -/
set_option linter.unusedVariables false
set_option linter.unusedSimpArgs false
namespace Go.Proofs.Ytlndihdlodempaa.Z
open Go.RowKit

theorem wf_stepR {S0 : List Nat} {w0 w : World} {m a r : Nat} {rs : List Res} {s : Rn} (H : RunHas S0 w0 m a r rs s w) (hok : s.ok) :
    Calls Try.prog 14 #[.pointer (some ⟨r, 0, none⟩), .func (.func 40) #[] #[]] w fun e w' => e = .returned (.bool (stepR wfA s).over) ∧ RunHas S0 w0 m a r rs (stepR wfA s) w' := by
  cases hw : s.f.wk.on with
  | true =>
    have e : stepR wfA s = s.woke := by unfold stepR; rw [hw]; rfl
    rw [e]
    exact run_step_wake H hw hok.1 _
  | false =>
    have e : stepR wfA s = wfA s.fresh := by unfold stepR; rw [hw]; rfl
    rw [e]
    exact run_step_lines H hw 40 #[] #[] (enters_of Try.func40 (by kernel_rfl) rfl) (fun W HW => wf_lines HW hok.1 hok.2.1 (by simp [Rn.fresh]))

theorem wf_stepok {s : Rn} (hw : Words s.L) (h : s.ok) : (stepR wfA s).ok ∧ (stepR wfA s).notes.length ≤ 10 := by
  unfold stepR
  split
  · exact ⟨woke_ok h, by simp [Rn.woke]⟩
  · have := wfA_fine s.fresh hw (fresh_ok h)
    exact ⟨this.1, by simpa [Rn.fresh] using this.2⟩

set_option maxHeartbeats 3200000 in
set_option maxRecDepth 100000 in
theorem wf_alone {S0 : List Nat} {w0 w : World} {m a : Nat} {L : List Int} {rs : List Res} (H : Has S0 w0 w (.mem m a L :: rs)) (n mode op : Int) (hn : I64 n) (most : Nat) (hm : most ≤ 2000) :
    Calls Try.prog 99 #[.pointer (some ⟨m, 0, none⟩), .int .i64 n, .int .i64 mode, .int .i64 op, .int .i64 most] w
      (AloneEnd S0 w0 m a rs (aloneA wfA most (start n mode op L))) := by
  have hnew := RunHas.fresh_ (rs := .own 98 4 (.slice none 0 0) 0 [] :: rs) (start n mode op L) (H.ownNil 98 4).swap rfl 43
  obtain ⟨i0, hi0, hz0, hz1, hz2⟩ := info_parts note_info
  have HI := Lib.hid (show _ ∧ _ ∧ _ ∧ _ from ⟨hi0, hz0, hz1, hz2⟩)
  have hok0 := start_ok hn mode op L
  generalize hR : aloneA wfA most (start n mode op L) = R
  have HN := Lib.hid hnew
  have HR := Lib.hid hR
  have HOK := Lib.hid hok0
  clear H hnew hi0 hz0 hz1 hz2 hR hok0 hn
  go_enter Try.func99, Try.ntmps99
  go_wp2_with fail
  refine wp_from (Facts := fun W => RunHas S0 w0 m a w.heap.size (.own 98 4 (.slice none 0 0) 0 [] :: rs) (start n mode op L) W) ?_ HN.out
  intro W HW
  clear HN
  generalize w.heap.size = B at HW ⊢
  have HV := Lib.hid HW
  clear HW
  go_loopw [13, 14] (fun nt i wr => ∃ (k : Nat) (s : Rn) (nn : Nat) (xs : List Value), k ≤ most ∧ i = .int .i64 k ∧ RunHas S0 w0 m a B (.own 98 4 nt nn xs :: rs) s wr ∧ s.ok ∧ nn ≤ 10 * k ∧ aloneA wfA (most - k) s = R) (fun _ i _ => most - (intOf i).toNat)
  case atStart => exact ⟨0, _, 0, [], Nat.zero_le _, rfl, HV.out, HOK.out, by simp, HR.out⟩
  case round =>
    obtain ⟨k, s, nn, xs, hk, rfl, hH, hok, hnn, hal⟩ := hrel
    clear HV HR HOK
    by_cases hlt : k < most
    · obtain ⟨q, hq⟩ : ∃ q, most - k = q + 1 := ⟨most - k - 1, by omega⟩
      rw [hq] at hal
      have hal2 : (if (stepR wfA s).over then ((stepR wfA s).f.ret, stepR wfA s) else aloneA wfA q (stepR wfA s)) = R := hal
      have hso := wf_stepok hH.words hok
      have hst := wf_stepR hH hok
      cases hov : (stepR wfA s).over with
      | true =>
        rw [hov] at hst hal2
        simp only [if_true] at hal2
        subst hal2
        generalize stepR wfA s = s2 at hst hso
        have HST := Lib.hid hst
        have HSO := Lib.hid hso
        have HNN := Lib.hid hnn
        clear hst hso hH hok hnn hal hov
        have hi : (k : Int) < (most : Int) := by omega
        go_wp2_with fail
        refine HST.out.mono ?_
        rintro e w1 ⟨rfl, nv, H3⟩
        obtain ⟨pn, cn, rfl⟩ := owns_slice H3.own3
        have c19 : w1.cell? ⟨B, 19, none⟩ = some (.slice pn s2.notes.length cn) := H3.blk1.cell 19
        go_wp2_with (at_builtin; refine wpList_append_rd (P := Try.prog) _ rfl (.tmp 31) (.tmp 35) _ rfl 0 98 i0 _ 4 32 Try.underlying41 HI.out.1 HI.out.2.1 HI.out.2.2.1 HI.out.2.2.2 rfl (by omega) _ nn xs rfl (Has.ownAt H3 3 rfl) pn s2.notes.length cn (nts s2.notes) rfl (Rd.own H3.own3) (nts_one _) (by have h1 := HSO.out.2; have h2 := HNN.out; simp only [maxLen]; omega) (by have h1 := HSO.out.2; have h2 := HNN.out; omega) (by omega) ?_; intro v' w' hown hg hat; have H4 := H3.grown4 hown hg hat; clear H3 hown hg hat c19; have c13 : w'.cell? ⟨B, 13, none⟩ = some (.int .i64 s2.f.ret) := H4.blk1.cell 13)
        go_wp2
        go_ret2
        exact ⟨_, rfl, H4.cut3⟩
      | false =>
        rw [hov] at hst hal2
        simp only [Bool.false_eq_true, if_false] at hal2
        generalize stepR wfA s = s2 at hst hso hal2
        have HST := Lib.hid hst
        have HSO := Lib.hid hso
        have HNN := Lib.hid hnn
        have HAL := Lib.hid hal2
        clear hst hso hH hok hnn hal hov hal2
        have hi : (k : Int) < (most : Int) := by omega
        go_wp2_with fail
        refine HST.out.mono ?_
        rintro e w1 ⟨rfl, nv, H3⟩
        obtain ⟨pn, cn, rfl⟩ := owns_slice H3.own3
        have c19 : w1.cell? ⟨B, 19, none⟩ = some (.slice pn s2.notes.length cn) := H3.blk1.cell 19
        go_wp2_with (at_builtin; refine wpList_append_rd (P := Try.prog) _ rfl (.tmp 31) (.tmp 35) _ rfl 0 98 i0 _ 4 32 Try.underlying41 HI.out.1 HI.out.2.1 HI.out.2.2.1 HI.out.2.2.2 rfl (by omega) _ nn xs rfl (Has.ownAt H3 3 rfl) pn s2.notes.length cn (nts s2.notes) rfl (Rd.own H3.own3) (nts_one _) (by have h1 := HSO.out.2; have h2 := HNN.out; simp only [maxLen]; omega) (by have h1 := HSO.out.2; have h2 := HNN.out; omega) (by omega) ?_; intro v' w' hown hg hat; have H4 := H3.grown4 hown hg hat; clear H3 hown hg hat c19)
        go_wp2
        go_roundw
        case rel => exact ⟨k + 1, s2, nn + s2.notes.length, xs ++ nts s2.notes, by omega, by go_num, ⟨_, H4⟩, HSO.out.1, by have h1 := HSO.out.2; have h2 := HNN.out; omega, by rw [show most - (k + 1) = q from by omega]; exact HAL.out⟩
        case measure => simp [intOf]; omega
    · have hkm : k = most := by omega
      subst hkm
      rw [Nat.sub_self] at hal
      have hal2 : ((0 : Int), s) = R := hal
      subst hal2
      have HH := Lib.hid hH
      clear hH hok hnn hal hk hlt
      have hi : (k : Int) ≤ (k : Int) := Int.le_refl _
      go_wp2_with fail
      go_ret2
      obtain ⟨nv, H4⟩ := HH.out
      exact ⟨_, rfl, H4.cut3⟩

end Go.Proofs.Ytlndihdlodempaa.Z

/- Law 16: the document's example. Written by genlaw.py. -/
set_option linter.unusedVariables false
set_option linter.unusedSimpArgs false
namespace Go.Proofs.Ytlndihdlodempaa.Z
open Go.RowKit

theorem wf_awake_pure : (aloneA wfA 2 (start 1 1 3 (own6 255 ++ List.replicate ((8 + 4 * (1 : Int)).toNat - 1) 0))).1 = 2 ∧ ldA (aloneA wfA 2 (start 1 1 3 (own6 255 ++ List.replicate ((8 + 4 * (1 : Int)).toNat - 1) 0))).2.L 0 = 16842496 := by
  decide +kernel

set_option maxHeartbeats 1600000 in
theorem wf_awake (w : World) : Calls Try.prog 39 #[] w fun e w' => e = .returned (.bool true) ∧ Touch [] w w' := by
  have hp := wf_awake_pure
  have hf := fun W => first6 1 255 W (by decide) (by decide)
  generalize hL : own6 255 ++ List.replicate ((8 + 4 * (1 : Int)).toNat - 1) 0 = L at hf hp
  have HF := Lib.hid hf
  clear hf hL
  go_enter Try.func39, Try.ntmps39
  go_wp2_with fail
  refine (HF.out _).mono ?_
  rintro e w1 h1
  obtain ⟨p, g, cap, rfl, H1⟩ := has_newwords (Has.start [] w) h1
  clear h1
  go_wp2_with fail
  refine (fromRow_has H1 rfl).mono ?_
  rintro e w2 ⟨m, a, rfl, H2⟩
  clear H1
  go_wp2_with fail
  refine (wf_alone H2 1 1 3 (by unfold I64; decide) 2 (by decide)).mono ?_
  rintro e w3 ⟨v, he, H3⟩
  generalize aloneA wfA 2 (start 1 1 3 L) = R at hp he H3
  obtain ⟨r1, s3⟩ := R
  obtain ⟨rfl, hp2⟩ := hp
  simp only at he H3 hp2
  subst he
  clear H2
  have hld := fun W (H : Has [] w W (.mem m a s3.L :: .row p g cap L :: [])) => load_has H 0
  rw [hp2] at hld
  have HLD := Lib.hid hld
  clear hld hp2
  go_wp2_with fail
  refine (HLD.out _ H3).mono ?_
  rintro e w4 ⟨rfl, H4⟩
  go_wp2_with fail
  go_ret
  exact ⟨by simp, H4.touch⟩

end Go.Proofs.Ytlndihdlodempaa.Z

/- Law 16: the statement WfSteps: its walk. Written by gensteps.py. -/
set_option linter.unusedVariables false
set_option linter.unusedSimpArgs false
namespace Go.Proofs.Ytlndihdlodempaa.Z
open Go.RowKit
attribute [local go_sem ↓] Go.wp_at_zero Go.wp_at_succ

set_option maxHeartbeats 3200000 in
set_option maxRecDepth 100000 in
theorem wfSteps_some {A : Option Addr} {ln cp : Nat} {L : List Int} (w : World) (hr : Rd w 1 A ln (u32s L)) (hw : Words L) (n mode task : Int) (f : Fr) (hn : I64 n) (ha : 0 ≤ f.a ∧ f.a < 4294967296) (hb : 0 ≤ f.b ∧ f.b < 4294967296) :
    Calls Try.prog 9 #[.slice A ln cp, .int .i64 n, .int .i64 mode, .int .i64 task, .agg (Fr.cells f)] w fun e w' => e = .returned (.bool true) ∧ Touch [] w w' := by
  have hl := len_of_rd hr
  subst hl
  have h1024 := hw.1
  have i1 : ¬ ((1024 : Int) < (L.length : Int)) := by omega
  obtain ⟨op, line, fa, fb, st, ⟨on, wc, wi, hit⟩, ret⟩ := f
  simp only [Fr.cells] at *
  have HW := Lib.hid hw
  have HN := Lib.hid hn
  have HA := Lib.hid ha
  have HB := Lib.hid hb
  clear hw hn ha hb
  go_enter Try.func9, Try.ntmps9
  go_wp2_with fail
  refine (from_has ((Has.start [] w).new1) (hr.touch ((Touch.refl [] _).alloc _) (by simp)) HW.out).mono ?_
  rintro e w1 ⟨m, a, rfl, H1⟩
  obtain ⟨k0, k1, k2⟩ := H1.blk1.own
  go_wp2_with fail
  refine wp_from (Facts := fun W => RunHas [] w m a w1.heap.size (.blk w.heap.size #[.int .i64 op, .int .i64 line, .int .u32 fa, .int .u32 fb, .int .i64 st, .bool on, .int .i64 wc, .int .i64 wi, .bool hit, .int .i64 ret] :: []) (stepStart n mode task ⟨op, line, fa, fb, st, ⟨on, wc, wi, hit⟩, ret⟩ L) W) ?_ (RunHas.fresh_ (stepStart n mode task ⟨op, line, fa, fb, st, ⟨on, wc, wi, hit⟩, ret⟩ L) H1 rfl 43)
  clear k0 k1 k2 H1
  intro W HR
  generalize w.heap.size = b0 at HR ⊢
  generalize w1.heap.size = r at HR ⊢
  obtain ⟨nv, HR⟩ := HR
  have HR : Has [] w W (.mem m a L :: .blk r (rcells m (stepStart n mode task ⟨op, line, fa, fb, st, ⟨on, wc, wi, hit⟩, ret⟩ L) nv) :: .own 98 4 nv 0 [] :: .blk b0 #[.int .i64 op, .int .i64 line, .int .u32 fa, .int .u32 fb, .int .i64 st, .bool on, .int .i64 wc, .int .i64 wi, .bool hit, .int .i64 ret] :: []) := HR
  have HRD := Lib.hid hr
  clear hr
  have hk : ∀ w', Has [] w w' (.mem m a L :: .blk r (rcells m (stepStart n mode task ⟨op, line, fa, fb, st, ⟨on, wc, wi, hit⟩, ret⟩ L) nv) :: .own 98 4 nv 0 [] :: .blk b0 #[.int .i64 op, .int .i64 line, .int .u32 fa, .int .u32 fb, .int .i64 st, .bool on, .int .i64 wc, .int .i64 wi, .bool hit, .int .i64 ret] :: []) → Has [] w w' (.mem m a L :: .blk r (rcells m (stepStart n mode task ⟨op, line, fa, fb, st, ⟨on, wc, wi, hit⟩, ret⟩ L) nv) :: .own 98 4 nv 0 [] :: .blk b0 #[.int .i64 op, .int .i64 line, .int .u32 fa, .int .u32 fb, .int .i64 st, .bool on, .int .i64 wc, .int .i64 wi, .bool hit, .int .i64 ret] :: []) ∧ (∀ i, w'.cell? ⟨b0, i, none⟩ = #[.int .i64 op, .int .i64 line, .int .u32 fa, .int .u32 fb, .int .i64 st, .bool on, .int .i64 wc, .int .i64 wi, .bool hit, .int .i64 ret][i]?) := fun w' h => ⟨h, (Has.at_ h 3 rfl).cell⟩
  have hcopy : ∀ w', Has [] w w' (.mem m a L :: .blk r (rcells m (stepStart n mode task ⟨op, line, fa, fb, st, ⟨on, wc, wi, hit⟩, ret⟩ L) nv) :: .own 98 4 nv 0 [] :: .blk b0 #[.int .i64 op, .int .i64 line, .int .u32 fa, .int .u32 fb, .int .i64 st, .bool on, .int .i64 wc, .int .i64 wi, .bool hit, .int .i64 ret] :: []) → Calls Try.prog 13 #[.slice A L.length cp] w' (HasRow [] w L (.mem m a L :: .blk r (rcells m (stepStart n mode task ⟨op, line, fa, fb, st, ⟨on, wc, wi, hit⟩, ret⟩ L) nv) :: .own 98 4 nv 0 [] :: .blk b0 #[.int .i64 op, .int .i64 line, .int .u32 fa, .int .u32 fb, .int .i64 st, .bool on, .int .i64 wc, .int .i64 wi, .bool hit, .int .i64 ret] :: [])) := fun w' h => copy_has h (HRD.out.touch h.touch (by simp)) HW.out
  go_region_held3 (fun w' => Has [] w w' (.mem m a L :: .blk r (rcells m (stepStart n mode task ⟨op, line, fa, fb, st, ⟨on, wc, wi, hit⟩, ret⟩ L) nv) :: .own 98 4 nv 0 [] :: .blk b0 #[.int .i64 op, .int .i64 line, .int .u32 fa, .int .u32 fb, .int .i64 st, .bool on, .int .i64 wc, .int .i64 wi, .bool hit, .int .i64 ret] :: []) ∧ (∀ i, w'.cell? ⟨b0, i, none⟩ = #[.int .i64 op, .int .i64 line, .int .u32 fa, .int .u32 fb, .int .i64 st, .bool on, .int .i64 wc, .int .i64 wi, .bool hit, .int .i64 ret][i]?))
    (first | (go_split_ands; refine hk _ ?_; first | assumption | exact HR.drew | exact Has.tail (by assumption) | exact (Has.tail (by assumption)).grow ((Touch.refl [] _).alloc _)))
    (first | (go_at_call 13; refine (hcopy _ (by go_split_ands; first | assumption | exact HR.drew)).mono ?_; rintro e w2 ⟨p, g, cap, rfl, H2⟩))
  all_goals
    go_wp2_with fail
    refine calls_from (Facts := fun W => RunHas [] w m a r (.row p g cap L :: .blk w2.heap.size (xcells p cap (stepStart n mode task ⟨op, line, fa, fb, st, ⟨on, wc, wi, hit⟩, ret⟩ L) (.slice none 0 0)) :: .own 98 4 (.slice none 0 0) 0 [] :: .blk b0 #[.int .i64 op, .int .i64 line, .int .u32 fa, .int .u32 fb, .int .i64 st, .bool on, .int .i64 wc, .int .i64 wi, .bool hit, .int .i64 ret] :: []) (stepStart n mode task ⟨op, line, fa, fb, st, ⟨on, wc, wi, hit⟩, ret⟩ L) W) ?_ ⟨nv, six (H2.al1.own_nil _ _)⟩
    clear H2 hk hcopy HR
    intro W2 H4
    generalize w2.heap.size = x at H4 ⊢
    refine (wf_stepR H4 ⟨HN.out, HA.out, HB.out⟩).mono ?_
    rintro e w3 ⟨rfl, nv2, H5⟩
    have H6 : XHas [] w p g cap x _ (stepStart n mode task ⟨op, line, fa, fb, st, ⟨on, wc, wi, hit⟩, ret⟩ L) w3 := ⟨_, six H5⟩
    clear H5 H4
    go_wp2_with fail
    cases on with
    | true =>
      have e1 : stepR wfA (stepStart n mode task ⟨op, line, fa, fb, st, ⟨true, wc, wi, hit⟩, ret⟩ L) = (stepStart n mode task ⟨op, line, fa, fb, st, ⟨true, wc, wi, hit⟩, ret⟩ L).woke := by unfold stepR; rfl
      refine (xn_waking_on H6 rfl).mono ?_
      rw [← e1]
      rintro e w4 ⟨rfl, H7⟩
      clear H6 e1
      go_wp2_with fail
      refine (wf_lines_nil _).mono ?_
      rintro e w6 ⟨rfl, t6⟩
      obtain ⟨nx2, H9⟩ := H7.grow t6
      clear H7 t6
      have hso := (wf_stepok (s := (stepStart n mode task ⟨op, line, fa, fb, st, ⟨true, wc, wi, hit⟩, ret⟩ L)) HW.out ⟨HN.out, HA.out, HB.out⟩).2
      generalize stepR wfA (stepStart n mode task ⟨op, line, fa, fb, st, ⟨true, wc, wi, hit⟩, ret⟩ L) = s1 at H9 hso ⊢
      go_wp2_with fail
      refine wp_from (Facts := fun W => RSKeep w m a r p g cap x s1 nv2 nx2 W) ?_ (drop7 H9)
      clear H9
      intro W3 H9
      obtain ⟨pn, cn, rfl⟩ := owns_slice (Has.ownAt H9 5 rfl)
      obtain ⟨qn, dn, rfl⟩ := owns_slice (Has.ownAt H9 2 rfl)
      obtain ⟨ob, hob⟩ : ∃ ob, s1.over = ob := ⟨_, rfl⟩
      rw [hob]
      obtain ⟨n', mode', task', ⟨op', line', fa', fb', st', ⟨on', wc', wi', hit'⟩, ret'⟩, ⟨ak, ac, ax, ay, ao⟩, notes', L'⟩ := s1
      have HSO := Lib.hid hso
      have HOB := Lib.hid hob
      clear hso hob
      refine region_moved 39 4 rfl (by kernel_rfl) (by kernel_rfl) ?_
      simp only [List.take_succ_cons, List.take_zero, List.drop_succ_cons, List.drop_zero, List.cons_append, List.nil_append]
      have HK := Lib.hid H9.drew
      obtain ⟨⟨zr0, (zr1 : ∀ i, World.cell? _ ⟨r, i, none⟩ = (#[.pointer (some ⟨m, 0, none⟩), .int .i64 n', .int .i64 mode', .int .i64 task', .int .i64 op', .int .i64 line', .int .u32 fa', .int .u32 fb', .int .i64 st', .bool on', .int .i64 wc', .int .i64 wi', .bool hit', .int .i64 ret', .int .i64 ak, .int .i64 ac, .int .u32 ax, .int .u32 ay, .int .u32 ao, (.slice pn notes'.length cn)] : Array Value)[i]?)⟩, zx0, (zx1 : ∀ i, World.cell? _ ⟨x, i, none⟩ = (#[.slice p L'.length cap, .int .i64 n', .int .i64 mode', .int .i64 task', .int .i64 op', .int .i64 line', .int .u32 fa', .int .u32 fb', .int .i64 st', .bool on', .int .i64 wc', .int .i64 wi', .bool hit', .int .i64 ret', .int .i64 ak, .int .i64 ac, .int .u32 ax, .int .u32 ay, .int .u32 ao, (.slice qn notes'.length dn)] : Array Value)[i]?)⟩ := rskeep H9.drew
      clear H9
      go_wp2_with fail
      refine (rsover HK.out).mono ?_
      rintro e w10 ⟨rfl, H10⟩
      obtain ⟨⟨ar0, (ar1 : ∀ i, World.cell? _ ⟨r, i, none⟩ = (#[.pointer (some ⟨m, 0, none⟩), .int .i64 n', .int .i64 mode', .int .i64 task', .int .i64 op', .int .i64 line', .int .u32 fa', .int .u32 fb', .int .i64 st', .bool on', .int .i64 wc', .int .i64 wi', .bool hit', .int .i64 ret', .int .i64 ak, .int .i64 ac, .int .u32 ax, .int .u32 ay, .int .u32 ao, (.slice pn notes'.length cn)] : Array Value)[i]?)⟩, ax0, (ax1 : ∀ i, World.cell? _ ⟨x, i, none⟩ = (#[.slice p L'.length cap, .int .i64 n', .int .i64 mode', .int .i64 task', .int .i64 op', .int .i64 line', .int .u32 fa', .int .u32 fb', .int .i64 st', .bool on', .int .i64 wc', .int .i64 wi', .bool hit', .int .i64 ret', .int .i64 ak, .int .i64 ac, .int .u32 ax, .int .u32 ay, .int .u32 ao, (.slice qn notes'.length dn)] : Array Value)[i]?)⟩ := rskeep H10
      have HK2 := Lib.hid H10
      clear H10
      rw [HOB.out]
      cases ob <;>
        (go_wp2_with fail
         refine (rsnotes HK2.out (by have := HSO.out; simp only at this ⊢; omega)).mono ?_
         rintro e w11 ⟨rfl, H11⟩
         obtain ⟨⟨br0, (br1 : ∀ i, World.cell? _ ⟨r, i, none⟩ = (#[.pointer (some ⟨m, 0, none⟩), .int .i64 n', .int .i64 mode', .int .i64 task', .int .i64 op', .int .i64 line', .int .u32 fa', .int .u32 fb', .int .i64 st', .bool on', .int .i64 wc', .int .i64 wi', .bool hit', .int .i64 ret', .int .i64 ak, .int .i64 ac, .int .u32 ax, .int .u32 ay, .int .u32 ao, (.slice pn notes'.length cn)] : Array Value)[i]?)⟩, bx0, (bx1 : ∀ i, World.cell? _ ⟨x, i, none⟩ = (#[.slice p L'.length cap, .int .i64 n', .int .i64 mode', .int .i64 task', .int .i64 op', .int .i64 line', .int .u32 fa', .int .u32 fb', .int .i64 st', .bool on', .int .i64 wc', .int .i64 wi', .bool hit', .int .i64 ret', .int .i64 ak, .int .i64 ac, .int .u32 ax, .int .u32 ay, .int .u32 ao, (.slice qn notes'.length dn)] : Array Value)[i]?)⟩ := rskeep H11
         have HK3 := Lib.hid H11
         clear H11
         go_wp2_with fail
         rw [only_normal]
         refine callK_static rfl rfl (enters_of Try.func23 (by kernel_rfl) rfl) (by simp [Act.eval]) (fun W tW => (rsall (HK3.out.grow tW)).mono ?_)
         rintro e w12 ⟨p', cap', rfl, H12, hrd12, t12⟩
         refine ⟨_, rfl, t12, ?_⟩
         obtain ⟨⟨cr0, (cr1 : ∀ i, World.cell? _ ⟨r, i, none⟩ = (#[.pointer (some ⟨m, 0, none⟩), .int .i64 n', .int .i64 mode', .int .i64 task', .int .i64 op', .int .i64 line', .int .u32 fa', .int .u32 fb', .int .i64 st', .bool on', .int .i64 wc', .int .i64 wi', .bool hit', .int .i64 ret', .int .i64 ak, .int .i64 ac, .int .u32 ax, .int .u32 ay, .int .u32 ao, (.slice pn notes'.length cn)] : Array Value)[i]?)⟩, cx0, (cx1 : ∀ i, World.cell? _ ⟨x, i, none⟩ = (#[.slice p L'.length cap, .int .i64 n', .int .i64 mode', .int .i64 task', .int .i64 op', .int .i64 line', .int .u32 fa', .int .u32 fb', .int .i64 st', .bool on', .int .i64 wc', .int .i64 wi', .bool hit', .int .i64 ret', .int .i64 ak, .int .i64 ac, .int .u32 ax, .int .u32 ay, .int .u32 ao, (.slice qn notes'.length dn)] : Array Value)[i]?)⟩ := rskeep H12
         have HK4 := Lib.hid H12
         have HRD4 := Lib.hid hrd12
         clear H12 hrd12
         go_wp2_with fail
         refine (rssame HK4.out HRD4.out).mono ?_
         rintro e w13 ⟨rfl, H13⟩
         have HK5 := Lib.hid H13
         clear H13
         go_wp2_with fail
         refine (wf_awake w13).mono ?_
         rintro e w14 ⟨rfl, t14⟩
         go_wp2_with fail
         rw [only_normal]
         go_wp2_with fail
         go_ret
         exact ⟨rfl, Has.touch (HK5.out.grow t14)⟩)
    | false =>
      have e1 : stepR wfA (stepStart n mode task ⟨op, line, fa, fb, st, ⟨false, wc, wi, hit⟩, ret⟩ L) = wfA (stepStart n mode task ⟨op, line, fa, fb, st, ⟨false, wc, wi, hit⟩, ret⟩ L).fresh := by unfold stepR; rfl
      refine (xn_waking_off H6 rfl).mono ?_
      rintro e w4 ⟨rfl, H7⟩
      clear H6
      go_wp2_with fail
      refine (xwf_lines H7 HN.out HA.out (by simp [Rn.fresh])).mono ?_
      rw [← e1]
      rintro e w5 ⟨rfl, H8⟩
      clear H7 e1
      go_wp2_with fail
      refine (wf_lines_nil _).mono ?_
      rintro e w6 ⟨rfl, t6⟩
      obtain ⟨nx2, H9⟩ := H8.grow t6
      clear H8 t6
      have hso := (wf_stepok (s := (stepStart n mode task ⟨op, line, fa, fb, st, ⟨false, wc, wi, hit⟩, ret⟩ L)) HW.out ⟨HN.out, HA.out, HB.out⟩).2
      generalize stepR wfA (stepStart n mode task ⟨op, line, fa, fb, st, ⟨false, wc, wi, hit⟩, ret⟩ L) = s1 at H9 hso ⊢
      go_wp2_with fail
      refine wp_from (Facts := fun W => RSKeep w m a r p g cap x s1 nv2 nx2 W) ?_ (drop7 H9)
      clear H9
      intro W3 H9
      obtain ⟨pn, cn, rfl⟩ := owns_slice (Has.ownAt H9 5 rfl)
      obtain ⟨qn, dn, rfl⟩ := owns_slice (Has.ownAt H9 2 rfl)
      obtain ⟨ob, hob⟩ : ∃ ob, s1.over = ob := ⟨_, rfl⟩
      rw [hob]
      obtain ⟨n', mode', task', ⟨op', line', fa', fb', st', ⟨on', wc', wi', hit'⟩, ret'⟩, ⟨ak, ac, ax, ay, ao⟩, notes', L'⟩ := s1
      have HSO := Lib.hid hso
      have HOB := Lib.hid hob
      clear hso hob
      refine region_moved 39 4 rfl (by kernel_rfl) (by kernel_rfl) ?_
      simp only [List.take_succ_cons, List.take_zero, List.drop_succ_cons, List.drop_zero, List.cons_append, List.nil_append]
      have HK := Lib.hid H9.drew
      obtain ⟨⟨zr0, (zr1 : ∀ i, World.cell? _ ⟨r, i, none⟩ = (#[.pointer (some ⟨m, 0, none⟩), .int .i64 n', .int .i64 mode', .int .i64 task', .int .i64 op', .int .i64 line', .int .u32 fa', .int .u32 fb', .int .i64 st', .bool on', .int .i64 wc', .int .i64 wi', .bool hit', .int .i64 ret', .int .i64 ak, .int .i64 ac, .int .u32 ax, .int .u32 ay, .int .u32 ao, (.slice pn notes'.length cn)] : Array Value)[i]?)⟩, zx0, (zx1 : ∀ i, World.cell? _ ⟨x, i, none⟩ = (#[.slice p L'.length cap, .int .i64 n', .int .i64 mode', .int .i64 task', .int .i64 op', .int .i64 line', .int .u32 fa', .int .u32 fb', .int .i64 st', .bool on', .int .i64 wc', .int .i64 wi', .bool hit', .int .i64 ret', .int .i64 ak, .int .i64 ac, .int .u32 ax, .int .u32 ay, .int .u32 ao, (.slice qn notes'.length dn)] : Array Value)[i]?)⟩ := rskeep H9.drew
      clear H9
      go_wp2_with fail
      refine (rsover HK.out).mono ?_
      rintro e w10 ⟨rfl, H10⟩
      obtain ⟨⟨ar0, (ar1 : ∀ i, World.cell? _ ⟨r, i, none⟩ = (#[.pointer (some ⟨m, 0, none⟩), .int .i64 n', .int .i64 mode', .int .i64 task', .int .i64 op', .int .i64 line', .int .u32 fa', .int .u32 fb', .int .i64 st', .bool on', .int .i64 wc', .int .i64 wi', .bool hit', .int .i64 ret', .int .i64 ak, .int .i64 ac, .int .u32 ax, .int .u32 ay, .int .u32 ao, (.slice pn notes'.length cn)] : Array Value)[i]?)⟩, ax0, (ax1 : ∀ i, World.cell? _ ⟨x, i, none⟩ = (#[.slice p L'.length cap, .int .i64 n', .int .i64 mode', .int .i64 task', .int .i64 op', .int .i64 line', .int .u32 fa', .int .u32 fb', .int .i64 st', .bool on', .int .i64 wc', .int .i64 wi', .bool hit', .int .i64 ret', .int .i64 ak, .int .i64 ac, .int .u32 ax, .int .u32 ay, .int .u32 ao, (.slice qn notes'.length dn)] : Array Value)[i]?)⟩ := rskeep H10
      have HK2 := Lib.hid H10
      clear H10
      rw [HOB.out]
      cases ob <;>
        (go_wp2_with fail
         refine (rsnotes HK2.out (by have := HSO.out; simp only at this ⊢; omega)).mono ?_
         rintro e w11 ⟨rfl, H11⟩
         obtain ⟨⟨br0, (br1 : ∀ i, World.cell? _ ⟨r, i, none⟩ = (#[.pointer (some ⟨m, 0, none⟩), .int .i64 n', .int .i64 mode', .int .i64 task', .int .i64 op', .int .i64 line', .int .u32 fa', .int .u32 fb', .int .i64 st', .bool on', .int .i64 wc', .int .i64 wi', .bool hit', .int .i64 ret', .int .i64 ak, .int .i64 ac, .int .u32 ax, .int .u32 ay, .int .u32 ao, (.slice pn notes'.length cn)] : Array Value)[i]?)⟩, bx0, (bx1 : ∀ i, World.cell? _ ⟨x, i, none⟩ = (#[.slice p L'.length cap, .int .i64 n', .int .i64 mode', .int .i64 task', .int .i64 op', .int .i64 line', .int .u32 fa', .int .u32 fb', .int .i64 st', .bool on', .int .i64 wc', .int .i64 wi', .bool hit', .int .i64 ret', .int .i64 ak, .int .i64 ac, .int .u32 ax, .int .u32 ay, .int .u32 ao, (.slice qn notes'.length dn)] : Array Value)[i]?)⟩ := rskeep H11
         have HK3 := Lib.hid H11
         clear H11
         go_wp2_with fail
         rw [only_normal]
         refine callK_static rfl rfl (enters_of Try.func23 (by kernel_rfl) rfl) (by simp [Act.eval]) (fun W tW => (rsall (HK3.out.grow tW)).mono ?_)
         rintro e w12 ⟨p', cap', rfl, H12, hrd12, t12⟩
         refine ⟨_, rfl, t12, ?_⟩
         obtain ⟨⟨cr0, (cr1 : ∀ i, World.cell? _ ⟨r, i, none⟩ = (#[.pointer (some ⟨m, 0, none⟩), .int .i64 n', .int .i64 mode', .int .i64 task', .int .i64 op', .int .i64 line', .int .u32 fa', .int .u32 fb', .int .i64 st', .bool on', .int .i64 wc', .int .i64 wi', .bool hit', .int .i64 ret', .int .i64 ak, .int .i64 ac, .int .u32 ax, .int .u32 ay, .int .u32 ao, (.slice pn notes'.length cn)] : Array Value)[i]?)⟩, cx0, (cx1 : ∀ i, World.cell? _ ⟨x, i, none⟩ = (#[.slice p L'.length cap, .int .i64 n', .int .i64 mode', .int .i64 task', .int .i64 op', .int .i64 line', .int .u32 fa', .int .u32 fb', .int .i64 st', .bool on', .int .i64 wc', .int .i64 wi', .bool hit', .int .i64 ret', .int .i64 ak, .int .i64 ac, .int .u32 ax, .int .u32 ay, .int .u32 ao, (.slice qn notes'.length dn)] : Array Value)[i]?)⟩ := rskeep H12
         have HK4 := Lib.hid H12
         have HRD4 := Lib.hid hrd12
         clear H12 hrd12
         go_wp2_with fail
         refine (rssame HK4.out HRD4.out).mono ?_
         rintro e w13 ⟨rfl, H13⟩
         have HK5 := Lib.hid H13
         clear H13
         go_wp2_with fail
         refine (wf_awake w13).mono ?_
         rintro e w14 ⟨rfl, t14⟩
         go_wp2_with fail
         rw [only_normal]
         go_wp2_with fail
         go_ret
         exact ⟨rfl, Has.touch (HK5.out.grow t14)⟩)
theorem wfSteps_long {A : Option Addr} {ln cp : Nat} (w : World) (n mode task : Int) (f : Fr) (hl : 1024 < ln) :
    Calls Try.prog 9 #[.slice A ln cp, .int .i64 n, .int .i64 mode, .int .i64 task, .agg (Fr.cells f)] w fun e w' => e = .returned (.bool true) ∧ Touch [] w w' := by
  have i1 : ((1024 : Int) < (ln : Int)) := by omega
  obtain ⟨op, line, fa, fb, st, ⟨on, wc, wi, hit⟩, ret⟩ := f
  simp only [Fr.cells]
  go_enter Try.func9, Try.ntmps9
  go_wp2_with (go_at_call 39; refine (wf_awake _).mono ?_; rintro e w9 ⟨rfl, t9⟩)
  go_ret
  exact ⟨rfl, ((Touch.refl [] w).alloc _).trans t9⟩

/-- WHATEVER THE INPUT. -/
theorem wfSteps_any {A : Option Addr} {ln cp : Nat} {L : List Int} (w : World) (hr : Rd w 1 A ln (L.flatMap fun x => [Value.int .u32 x])) (hL : ∀ x, x ∈ L → 0 ≤ x ∧ x < 4294967296) (n mode task : Int) (f : Fr) (hf : FrOk f) (hn : I64 n) :
    Calls Try.prog 9 #[.slice A ln cp, .int .i64 n, .int .i64 mode, .int .i64 task, .agg (Fr.cells f)] w fun e w' => e = .returned (.bool true) ∧ Touch [] w w' := by
  have hr' : Rd w 1 A ln (u32s L) := by
    rw [← u32s_flatMap]
    exact hr
  by_cases hl : ln ≤ 1024
  · exact wfSteps_some w hr' ⟨by have := len_of_rd hr'; omega, hL⟩ n mode task f hn hf.1 hf.2
  · exact wfSteps_long w n mode task f (by omega)

end Go.Proofs.Ytlndihdlodempaa.Z
