/- Package rf: whatever the line. Written by genrf4.py. -/
import Derived.Test.YtdffdppkdbbdoaaZRfLines
import Derived.Test.YtdffdppkdbbdoaaZRfTries
set_option linter.unusedVariables false
set_option linter.unusedSimpArgs false
namespace Go.Proofs.Ytdffdppkdbbdoaa.Z
open Go.RowKit

set_option maxHeartbeats 1600000 in
theorem rf_default {S0 : List Nat} {w0 w : World} {m a r : Nat} {rs rs2 : List Res} {s s2 : Rn} (H : RunHas S0 w0 m a r rs s w) {o l : Int} (hop : s.f.op = o) (hl : s.f.line = l)
    (h0 : ¬ (o = 1 ∧ l = 0)) (h1 : ¬ (o = 1 ∧ l = 1)) (h2 : ¬ (o = 2 ∧ l = 0)) (h3 : ¬ (o = 3 ∧ l = 0)) (h4 : ¬ (o = 3 ∧ l = 1)) (h5 : ¬ (o = 3 ∧ l = 2)) (h6 : ¬ (o = 4 ∧ l = 0)) (h7 : ¬ (o = 8 ∧ l = 0))
    (ht : ∀ W, RunHas S0 w0 m a r rs s W → Calls Try.prog 57 #[.pointer (some ⟨r, 0, none⟩)] W fun e w' => e = .returned (.tuple #[]) ∧ RunHas S0 w0 m a r rs2 s2 w') :
    Calls Try.prog 20 #[.pointer (some ⟨r, 0, none⟩)] w fun e w' => e = .returned (.tuple #[]) ∧ RunHas S0 w0 m a r rs2 s2 w' := by
  have HT := Lib.hid ht
  obtain ⟨z0, z2, z4, z5, z6, z7⟩ := H.facts hop hl rfl rfl
  have HH := Lib.hid H
  clear H ht
  go_enter Try.func20, Try.ntmps20
  go_wp2_with fail
  go_quiet (fail)
  have HW := HH.out.drewN nq
  clear z0 z2 z4 z5 z6 z7
  generalize w.drewN nq = W at HW ⊢
  obtain ⟨z0, z2, z4, z5, z6, z7⟩ := HW.facts hop hl rfl rfl
  go_wp2_with fail
  all_goals
    refine (HT.out _ HW).mono ?_
    rintro e w1 ⟨rfl, H1⟩
    go_wp2_with fail
    go_end0
    exact ⟨rfl, H1⟩

set_option maxHeartbeats 1600000 in
theorem rf_none {S0 : List Nat} {w0 w : World} {m a r : Nat} {rs : List Res} {s : Rn} (H : RunHas S0 w0 m a r rs s w) {o l : Int} (hop : s.f.op = o) (hl : s.f.line = l) (h0 : ¬ (o = 5 ∧ l = 0)) (h1 : ¬ (o = 6 ∧ l = 0)) (h2 : ¬ (o = 7 ∧ l = 0)) (h3 : ¬ (o = 5 ∧ l = 1)) (h4 : ¬ (o = 6 ∧ l = 1)) (h5 : ¬ (o = 7 ∧ l = 1)) :
    Calls Try.prog 57 #[.pointer (some ⟨r, 0, none⟩)] w fun e w' => e = .returned (.tuple #[]) ∧ RunHas S0 w0 m a r rs s w' := by
  have H0 := H.box rfl #[.pointer (some ⟨r, 0, none⟩)] 46
  obtain ⟨z0, z2, z4, z5, z6, z7⟩ := H.facts hop hl rfl rfl
  have HH := Lib.hid H0
  clear H H0
  go_enter Try.func57, Try.ntmps57
  go_wp2_with fail
  go_quiet (fail)
  have HW := HH.out.drewN nq
  clear z0 z2 z4 z5 z6 z7
  generalize w.heap.size = tb at HW ⊢
  generalize (World.drewN _ nq) = W at HW ⊢
  obtain ⟨z0, z2, z4, z5, z6, z7⟩ := HW.facts hop hl rfl rfl
  obtain ⟨u0, u1, u2⟩ := HW.first.own
  go_wp2_with fail
  all_goals
    go_end0
    exact ⟨rfl, HW.unbox⟩

/-- A step's lines of the lock in which readers go first. -/
def rfA (s : Rn) : Rn := if s.f.op = 1 ∧ s.f.line = 0 then rf10 s else if s.f.op = 1 ∧ s.f.line = 1 then rf11 s else if s.f.op = 2 ∧ s.f.line = 0 then rf20 s else if s.f.op = 3 ∧ s.f.line = 0 then rf30 s else if s.f.op = 3 ∧ s.f.line = 1 then rf31 s else if s.f.op = 3 ∧ s.f.line = 2 then rf32 s else if s.f.op = 4 ∧ s.f.line = 0 then rf40 s else if s.f.op = 8 ∧ s.f.line = 0 then rf80 s else if s.f.op = 5 ∧ s.f.line = 0 then rf50 s else if s.f.op = 6 ∧ s.f.line = 0 then rf60 s else if s.f.op = 7 ∧ s.f.line = 0 then rf70 s else if s.f.op = 5 ∧ s.f.line = 1 then rf51 s else if s.f.op = 6 ∧ s.f.line = 1 then rf61 s else if s.f.op = 7 ∧ s.f.line = 1 then rf71 s else s

theorem rf_lines {S0 : List Nat} {w0 w : World} {m a r : Nat} {rs : List Res} {s : Rn} (H : RunHas S0 w0 m a r rs s w) (hn : I64 s.n) (ha : 0 ≤ s.f.a ∧ s.f.a < 4294967296) (hc : s.notes.length ≤ 900) :
    Calls Try.prog 20 #[.pointer (some ⟨r, 0, none⟩)] w fun e w' => e = .returned (.tuple #[]) ∧ RunHas S0 w0 m a r rs (rfA s) w' := by
  unfold rfA
  by_cases h10 : s.f.op = 1 ∧ s.f.line = 0
  · rw [if_pos h10]; exact rf_10 H h10.1 h10.2 hn hc
  rw [if_neg h10]
  by_cases h11 : s.f.op = 1 ∧ s.f.line = 1
  · rw [if_pos h11]; exact rf_11 H h11.1 h11.2 hn hc
  rw [if_neg h11]
  by_cases h20 : s.f.op = 2 ∧ s.f.line = 0
  · rw [if_pos h20]; exact rf_20 H h20.1 h20.2 hn hc
  rw [if_neg h20]
  by_cases h30 : s.f.op = 3 ∧ s.f.line = 0
  · rw [if_pos h30]; exact rf_30 H h30.1 h30.2 hn hc
  rw [if_neg h30]
  by_cases h31 : s.f.op = 3 ∧ s.f.line = 1
  · rw [if_pos h31]; exact rf_31 H h31.1 h31.2 hn hc
  rw [if_neg h31]
  by_cases h32 : s.f.op = 3 ∧ s.f.line = 2
  · rw [if_pos h32]; exact rf_32 H h32.1 h32.2 hn hc
  rw [if_neg h32]
  by_cases h40 : s.f.op = 4 ∧ s.f.line = 0
  · rw [if_pos h40]; exact rf_40 H h40.1 h40.2 hn hc
  rw [if_neg h40]
  by_cases h80 : s.f.op = 8 ∧ s.f.line = 0
  · rw [if_pos h80]; exact rf_80 H h80.1 h80.2 hn hc
  rw [if_neg h80]
  refine rf_default H rfl rfl h10 h11 h20 h30 h31 h32 h40 h80 (fun W HW => ?_)
  by_cases h50 : s.f.op = 5 ∧ s.f.line = 0
  · rw [if_pos h50]; exact rf_50 HW h50.1 h50.2 hc
  rw [if_neg h50]
  by_cases h60 : s.f.op = 6 ∧ s.f.line = 0
  · rw [if_pos h60]; exact rf_60 HW h60.1 h60.2 hc
  rw [if_neg h60]
  by_cases h70 : s.f.op = 7 ∧ s.f.line = 0
  · rw [if_pos h70]; exact rf_70 HW h70.1 h70.2 hc
  rw [if_neg h70]
  by_cases h51 : s.f.op = 5 ∧ s.f.line = 1
  · rw [if_pos h51]; exact rf_51 HW h51.1 h51.2 ha hc
  rw [if_neg h51]
  by_cases h61 : s.f.op = 6 ∧ s.f.line = 1
  · rw [if_pos h61]; exact rf_61 HW h61.1 h61.2 hc
  rw [if_neg h61]
  by_cases h71 : s.f.op = 7 ∧ s.f.line = 1
  · rw [if_pos h71]; exact rf_71 HW h71.1 h71.2 hc
  rw [if_neg h71]
  exact rf_none HW rfl rfl h50 h60 h70 h51 h61 h71

theorem rf_lines_nil (w : World) : Calls Try.prog 20 #[.pointer none] w fun e w' => e = .returned (.tuple #[]) ∧ Touch [] w w' := by
  go_enter Try.func20, Try.ntmps20
  go_wp2
  refine bodyPost_ret (v := .tuple #[]) (by simp [results, Try.results20, go_sem]) rfl ⟨rfl, Touch.refl _ _⟩

end Go.Proofs.Ytdffdppkdbbdoaa.Z
