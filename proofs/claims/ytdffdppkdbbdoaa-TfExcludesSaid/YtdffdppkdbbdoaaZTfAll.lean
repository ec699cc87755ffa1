/- Package tf: whatever the line. Written by gentf2.py. -/
import Derived.Test.YtdffdppkdbbdoaaZTfLines
import Derived.Test.YtdffdppkdbbdoaaZTfTries
import Derived.Test.YtdffdppkdbbdoaaZAlone
set_option linter.unusedVariables false
set_option linter.unusedSimpArgs false
namespace Go.Proofs.Ytdffdppkdbbdoaa.Z
open Go.RowKit

set_option maxHeartbeats 3200000 in
theorem tf_default {S0 : List Nat} {w0 w : World} {m a r : Nat} {rs : List Res} {s s2 : Rn} (H : RunHas S0 w0 m a r rs s w) {o l : Int} (hop : s.f.op = o) (hl : s.f.line = l)
    (h0 : ¬ (o = 1 ∧ l = 0)) (h1 : ¬ (o = 1 ∧ l = 1)) (h2 : ¬ (o = 1 ∧ l = 2)) (h3 : ¬ (o = 5 ∧ l = 3)) (h4 : ¬ (o = 8 ∧ l = 0)) (h5 : ¬ (o = 2 ∧ l = 0)) (h6 : ¬ (o = 3 ∧ l = 0)) (h7 : ¬ (o = 3 ∧ l = 1)) (h8 : ¬ (o = 4 ∧ l = 0)) (h9 : ¬ (o = 4 ∧ l = 1))
    (ht : ∀ rs W, RunHas S0 w0 m a r rs s W → Calls Try.prog 74 #[.pointer (some ⟨r, 0, none⟩)] W fun e w' => e = .returned (.tuple #[]) ∧ RunHas S0 w0 m a r rs s2 w') :
    Calls Try.prog 33 #[.pointer (some ⟨r, 0, none⟩)] w fun e w' => e = .returned (.tuple #[]) ∧ RunHas S0 w0 m a r rs s2 w' := by
  have HT := Lib.hid ht
  obtain ⟨z0, z2, z4, z5, z6, z7⟩ := H.facts hop hl rfl rfl
  have HH := Lib.hid (H.box rfl #[.int .u32 s.f.a] 22)
  clear H ht
  go_enter Try.func33, Try.ntmps33
  go_wp2_with fail
  go_quiet (fail)
  have HW := HH.out.drewN nq
  clear z0 z2 z4 z5 z6 z7
  generalize w.heap.size = tb at HW ⊢
  generalize (World.drewN _ nq) = W at HW ⊢
  obtain ⟨z0, z2, z4, z5, z6, z7⟩ := HW.facts hop hl rfl rfl
  go_wp2_with fail
  all_goals
    refine (HT.out _ _ HW).mono ?_
    rintro e w1 ⟨rfl, H1⟩
    go_wp2_with fail
    go_end0
    exact ⟨rfl, H1.unbox⟩

set_option maxHeartbeats 3200000 in
theorem tf_none {S0 : List Nat} {w0 w : World} {m a r : Nat} {rs : List Res} {s : Rn} (H : RunHas S0 w0 m a r rs s w) {o l : Int} (hop : s.f.op = o) (hl : s.f.line = l) (h0 : ¬ (o = 5 ∧ l = 0)) (h1 : ¬ (o = 6 ∧ l = 0)) (h2 : ¬ (o = 7 ∧ l = 0)) (h3 : ¬ (o = 5 ∧ l = 1)) (h4 : ¬ (o = 6 ∧ l = 1)) (h5 : ¬ (o = 7 ∧ l = 1)) (h6 : ¬ (o = 5 ∧ l = 2)) (h7 : ¬ (o = 6 ∧ l = 2)) (h8 : ¬ (o = 7 ∧ l = 2)) (h9 : ¬ (o = 7 ∧ l = 3)) :
    Calls Try.prog 74 #[.pointer (some ⟨r, 0, none⟩)] w fun e w' => e = .returned (.tuple #[]) ∧ RunHas S0 w0 m a r rs s w' := by
  obtain ⟨z0, z2, z4, z5, z6, z7⟩ := H.facts hop hl rfl rfl
  have HH := Lib.hid H
  clear H
  go_enter Try.func74, Try.ntmps74
  go_wp2_with fail
  go_quiet (fail)
  have HW := HH.out.drewN nq
  clear z0 z2 z4 z5 z6 z7
  generalize w.drewN nq = W at HW ⊢
  obtain ⟨z0, z2, z4, z5, z6, z7⟩ := HW.facts hop hl rfl rfl
  go_wp2_with fail
  all_goals
    go_end0
    exact ⟨rfl, HW⟩

/-- A step's lines of the task-fair lock. -/
def tfA (s : Rn) : Rn := if s.f.op = 1 ∧ s.f.line = 0 then tf10 s else if s.f.op = 1 ∧ s.f.line = 1 then tf11 s else if s.f.op = 1 ∧ s.f.line = 2 then tf12 s else if s.f.op = 5 ∧ s.f.line = 3 then tf53 s else if s.f.op = 8 ∧ s.f.line = 0 then tf80 s else if s.f.op = 2 ∧ s.f.line = 0 then tf20 s else if s.f.op = 3 ∧ s.f.line = 0 then tf30 s else if s.f.op = 3 ∧ s.f.line = 1 then tf31 s else if s.f.op = 4 ∧ s.f.line = 0 then tf40 s else if s.f.op = 4 ∧ s.f.line = 1 then tf41 s else if s.f.op = 5 ∧ s.f.line = 0 then tf50 s else if s.f.op = 6 ∧ s.f.line = 0 then tf60 s else if s.f.op = 7 ∧ s.f.line = 0 then tf70 s else if s.f.op = 5 ∧ s.f.line = 1 then tf51 s else if s.f.op = 6 ∧ s.f.line = 1 then tf61 s else if s.f.op = 7 ∧ s.f.line = 1 then tf71 s else if s.f.op = 5 ∧ s.f.line = 2 then tf52 s else if s.f.op = 6 ∧ s.f.line = 2 then tf62 s else if s.f.op = 7 ∧ s.f.line = 2 then tf72 s else if s.f.op = 7 ∧ s.f.line = 3 then tf73 s else s

theorem tf_lines {S0 : List Nat} {w0 w : World} {m a r : Nat} {rs : List Res} {s : Rn} (H : RunHas S0 w0 m a r rs s w) (hn : I64 s.n) (ha : 0 ≤ s.f.a ∧ s.f.a < 4294967296) (hc : s.notes.length ≤ 900) :
    Calls Try.prog 33 #[.pointer (some ⟨r, 0, none⟩)] w fun e w' => e = .returned (.tuple #[]) ∧ RunHas S0 w0 m a r rs (tfA s) w' := by
  unfold tfA
  by_cases h10 : s.f.op = 1 ∧ s.f.line = 0
  · rw [if_pos h10]; exact tf_10 H h10.1 h10.2 hn ha hc
  rw [if_neg h10]
  by_cases h11 : s.f.op = 1 ∧ s.f.line = 1
  · rw [if_pos h11]; exact tf_11 H h11.1 h11.2 hn ha hc
  rw [if_neg h11]
  by_cases h12 : s.f.op = 1 ∧ s.f.line = 2
  · rw [if_pos h12]; exact tf_12 H h12.1 h12.2 hn ha hc
  rw [if_neg h12]
  by_cases h53 : s.f.op = 5 ∧ s.f.line = 3
  · rw [if_pos h53]; exact tf_53 H h53.1 h53.2 hn ha hc
  rw [if_neg h53]
  by_cases h80 : s.f.op = 8 ∧ s.f.line = 0
  · rw [if_pos h80]; exact tf_80 H h80.1 h80.2 hn ha hc
  rw [if_neg h80]
  by_cases h20 : s.f.op = 2 ∧ s.f.line = 0
  · rw [if_pos h20]; exact tf_20 H h20.1 h20.2 hn ha hc
  rw [if_neg h20]
  by_cases h30 : s.f.op = 3 ∧ s.f.line = 0
  · rw [if_pos h30]; exact tf_30 H h30.1 h30.2 hn ha hc
  rw [if_neg h30]
  by_cases h31 : s.f.op = 3 ∧ s.f.line = 1
  · rw [if_pos h31]; exact tf_31 H h31.1 h31.2 hn ha hc
  rw [if_neg h31]
  by_cases h40 : s.f.op = 4 ∧ s.f.line = 0
  · rw [if_pos h40]; exact tf_40 H h40.1 h40.2 hn ha hc
  rw [if_neg h40]
  by_cases h41 : s.f.op = 4 ∧ s.f.line = 1
  · rw [if_pos h41]; exact tf_41 H h41.1 h41.2 hn ha hc
  rw [if_neg h41]
  refine tf_default H rfl rfl h10 h11 h12 h53 h80 h20 h30 h31 h40 h41 (fun rs W HW => ?_)
  by_cases h50 : s.f.op = 5 ∧ s.f.line = 0
  · rw [if_pos h50]; exact tf_50 HW h50.1 h50.2 hn ha hc
  rw [if_neg h50]
  by_cases h60 : s.f.op = 6 ∧ s.f.line = 0
  · rw [if_pos h60]; exact tf_60 HW h60.1 h60.2 hn ha hc
  rw [if_neg h60]
  by_cases h70 : s.f.op = 7 ∧ s.f.line = 0
  · rw [if_pos h70]; exact tf_70 HW h70.1 h70.2 hn ha hc
  rw [if_neg h70]
  by_cases h51 : s.f.op = 5 ∧ s.f.line = 1
  · rw [if_pos h51]; exact tf_51 HW h51.1 h51.2 hn ha hc
  rw [if_neg h51]
  by_cases h61 : s.f.op = 6 ∧ s.f.line = 1
  · rw [if_pos h61]; exact tf_61 HW h61.1 h61.2 hn ha hc
  rw [if_neg h61]
  by_cases h71 : s.f.op = 7 ∧ s.f.line = 1
  · rw [if_pos h71]; exact tf_71 HW h71.1 h71.2 hn ha hc
  rw [if_neg h71]
  by_cases h52 : s.f.op = 5 ∧ s.f.line = 2
  · rw [if_pos h52]; exact tf_52 HW h52.1 h52.2 hn ha hc
  rw [if_neg h52]
  by_cases h62 : s.f.op = 6 ∧ s.f.line = 2
  · rw [if_pos h62]; exact tf_62 HW h62.1 h62.2 hn ha hc
  rw [if_neg h62]
  by_cases h72 : s.f.op = 7 ∧ s.f.line = 2
  · rw [if_pos h72]; exact tf_72 HW h72.1 h72.2 hn ha hc
  rw [if_neg h72]
  by_cases h73 : s.f.op = 7 ∧ s.f.line = 3
  · rw [if_pos h73]; exact tf_73 HW h73.1 h73.2 hn ha hc
  rw [if_neg h73]
  exact tf_none HW rfl rfl h50 h60 h70 h51 h61 h71 h52 h62 h72 h73

theorem tf_lines_nil (w : World) : Calls Try.prog 33 #[.pointer none] w fun e w' => e = .returned (.tuple #[]) ∧ Touch [] w w' := by
  go_enter Try.func33, Try.ntmps33
  go_wp2
  refine bodyPost_ret (v := .tuple #[]) (by simp [results, Try.results33, go_sem]) rfl ⟨rfl, Touch.refl _ _⟩

end Go.Proofs.Ytdffdppkdbbdoaa.Z
