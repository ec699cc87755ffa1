/- 6 texts of this claim, joined: what each shows stands at its own head. -/
import Derived.Test.YtlndihdlodempaaZM00WfSteps
import Derived.Test.YtlndihdlodempaaZM01WfSteps
import Derived.Test.YtlndihdlodempaaZWord
import Derived.Test.YtlndihdlodempaaZFlat3
import Derived.Deep.RegionWith
/- The document's answer of layer 16: its small functions. Written by genxwf.py. -/
set_option linter.unusedVariables false
set_option linter.unusedSimpArgs false
namespace Go.Proofs.Ytlndihdlodempaa.Z
open Go.RowKit

theorem refwf_R (v : Int) (w : World) (hv : 0 ≤ v ∧ v < 4294967296) : Calls Try.prog 112 #[.int .u32 v] w fun e w' => e = .returned (.int .u32 (wfR v)) ∧ w = w' := by
  unfold wfR
  go_enter Try.func112, Try.ntmps112
  go_wp2
  go_ret
  exact ⟨rfl, rfl⟩

theorem refwf_O (v : Int) (w : World) (hv : 0 ≤ v ∧ v < 4294967296) : Calls Try.prog 109 #[.int .u32 v] w fun e w' => e = .returned (.int .u32 (wfT v)) ∧ w = w' := by
  unfold wfT
  go_enter Try.func109, Try.ntmps109
  go_wp2
  go_ret
  exact ⟨rfl, rfl⟩

theorem refwf_I (v : Int) (w : World) (hv : 0 ≤ v ∧ v < 4294967296) : Calls Try.prog 108 #[.int .u32 v] w fun e w' => e = .returned (.int .u32 (wfG v)) ∧ w = w' := by
  unfold wfG
  go_enter Try.func108, Try.ntmps108
  go_wp2
  go_ret
  exact ⟨rfl, rfl⟩

set_option maxHeartbeats 800000 in
theorem refwf_end {S0 : List Nat} {w0 w : World} {p : Option Addr} {g cap x : Nat} {rs : List Res} {s : Rn} (H : XHas S0 w0 p g cap x rs s w) (hc : s.notes.length ≤ 1000) (what : Int) :
    Calls Try.prog 110 #[.pointer (some ⟨x, 0, none⟩), .int .i64 what] w fun e w' => e = .returned (.tuple #[]) ∧ XHas S0 w0 p g cap x rs ((s.note what 0).fin true) w' := by
  have HC := Lib.hid hc
  have HH := Lib.hid H
  clear hc H
  go_enter Try.func110, Try.ntmps110
  go_wp2_with fail
  refine (x_note HH.out HC.out what 0).mono ?_
  rintro e w1 ⟨rfl, H1⟩
  go_wp2_with fail
  refine (xn_end H1 true).mono ?_
  rintro e w2 ⟨rfl, H2⟩
  go_wp2_with fail
  go_end0
  exact ⟨rfl, H2⟩
theorem wf_untilCalm : untilA 2 0 0 = wfCalm := by
  funext v
  rfl
theorem wf_untilTurn (q : Int) : untilA 3 0 q = fun v => wfT v == q && wfR v == 0 := by
  funext v
  rfl
theorem XHas.accOld {S0 : List Nat} {w0 w : World} {p : Option Addr} {g cap x : Nat} {rs : List Res} {s : Rn} (H : XHas S0 w0 p g cap x rs s w) {o : Int} (ho : s.acc.old = o) : w.cell? ⟨x, 18, none⟩ = some (.int .u32 o) := by
  obtain ⟨nv, H⟩ := H
  subst ho
  exact H.blk1.own.2.1 18

end Go.Proofs.Ytlndihdlodempaa.Z

/- The document's lines of the lock in which writers go first. Written by genxwf.py. -/
set_option linter.unusedVariables false
set_option linter.unusedSimpArgs false
namespace Go.Proofs.Ytlndihdlodempaa.Z
open Go.RowKit

set_option maxHeartbeats 1600000 in
set_option maxRecDepth 100000 in
theorem xwf_10 {S0 : List Nat} {w0 w : World} {p : Option Addr} {g cap x : Nat} {rs : List Res} {s : Rn} (H : XHas S0 w0 p g cap x rs s w) (hop : s.f.op = 1) (hl : s.f.line = 0) (ha : 0 ≤ s.f.a ∧ s.f.a < 4294967296) (hc : s.notes.length ≤ 900) :
    Calls Try.prog 41 #[.pointer (some ⟨x, 0, none⟩)] w fun e w' => e = .returned (.tuple #[]) ∧ XHas S0 w0 p g cap x rs (wf10 s) w' := by
  obtain ⟨z0, z2, z4, z5, z6, z7⟩ := H.facts hop hl rfl rfl
  have HC := Lib.hid hc
  have HA := Lib.hid ha
  have HH := Lib.hid H
  clear hc H ha
  unfold wf10
  unfold wfCalmly wfCalm
  have hv := HH.out.old ⟨1, 0, 0, 0, 0⟩
  have hi := fun W => refwf_I (doA s.L ⟨1, 0, 0, 0, 0⟩).1.old W hv
  have ho := fun W => refwf_O (doA s.L ⟨1, 0, 0, 0, 0⟩).1.old W hv
  generalize hq : wfG (doA s.L ⟨1, 0, 0, 0, 0⟩).1.old = q at hi ⊢
  generalize ht : wfT (doA s.L ⟨1, 0, 0, 0, 0⟩).1.old = t at ho ⊢
  have HI := Lib.hid hi
  have HO := Lib.hid ho
  clear hi ho hq ht hv
  by_cases hb : t = q
  · subst hb
    have e1 : (t == t) = true := by simp
    simp only [e1, if_true]
    go_enter Try.func41, Try.ntmps41
    go_wp2_with fail
    go_quiet (fail)
    have HW := HH.out.drewN nq
    clear z0 z2 z4 z5 z6 z7
    generalize w.drewN nq = W at HW ⊢
    obtain ⟨z0, z2, z4, z5, z6, z7⟩ := HW.facts hop hl rfl rfl
    go_wp2_with fail
    refine (xn_load HW 0).mono ?_
    rintro e w1 ⟨rfl, H1⟩
    obtain ⟨x0, x2, x4, x5, x6, x7⟩ := H1.facts hop hl rfl rfl
    go_wp2_with fail
    refine (x_note (H1.setA (doA s.L ⟨1, 0, 0, 0, 0⟩).1.old) (by have := HC.out; first | exact Nat.le_trans this (by decide) | (simp [Rn.note, Rn.did, Rn.setA, Rn.setB, Rn.waited, Rn.goto, Rn.noted]; omega)) 2 1).mono ?_
    rintro e w2 ⟨rfl, H2⟩
    obtain ⟨x0, x2, x4, x5, x6, x7⟩ := H2.facts hop hl (y := (doA s.L ⟨1, 0, 0, 0, 0⟩).1.old) rfl rfl
    go_wp2_with fail
    obtain ⟨y0, y2, y4, y5, y6, y7⟩ := (H2.goto 2).facts hop (l := 2) rfl (y := (doA s.L ⟨1, 0, 0, 0, 0⟩).1.old) rfl rfl
    first | (go_region_with (first | (go_at_call 108; refine (HI.out _).mono ?_; rintro e w8 ⟨rfl, rfl⟩) | (go_at_call 109; refine (HO.out _).mono ?_; rintro e w9 ⟨rfl, rfl⟩))) | fail
    all_goals
      go_wp2_with fail
      go_end0
      exact ⟨rfl, ((H2.goto 2).drew.goto 1)⟩
  · have e1 : (t == q) = false := by simpa using hb
    have e2 : (q == t) = false := by simpa using fun h => hb h.symm
    simp only [e1, Bool.false_eq_true, if_false]
    go_enter Try.func41, Try.ntmps41
    go_wp2_with fail
    go_quiet (fail)
    have HW := HH.out.drewN nq
    clear z0 z2 z4 z5 z6 z7
    generalize w.drewN nq = W at HW ⊢
    obtain ⟨z0, z2, z4, z5, z6, z7⟩ := HW.facts hop hl rfl rfl
    go_wp2_with fail
    refine (xn_load HW 0).mono ?_
    rintro e w1 ⟨rfl, H1⟩
    obtain ⟨x0, x2, x4, x5, x6, x7⟩ := H1.facts hop hl rfl rfl
    go_wp2_with fail
    refine (x_note (H1.setA (doA s.L ⟨1, 0, 0, 0, 0⟩).1.old) (by have := HC.out; first | exact Nat.le_trans this (by decide) | (simp [Rn.note, Rn.did, Rn.setA, Rn.setB, Rn.waited, Rn.goto, Rn.noted]; omega)) 2 1).mono ?_
    rintro e w2 ⟨rfl, H2⟩
    obtain ⟨x0, x2, x4, x5, x6, x7⟩ := H2.facts hop hl (y := (doA s.L ⟨1, 0, 0, 0, 0⟩).1.old) rfl rfl
    go_wp2_with fail
    obtain ⟨y0, y2, y4, y5, y6, y7⟩ := (H2.goto 2).facts hop (l := 2) rfl (y := (doA s.L ⟨1, 0, 0, 0, 0⟩).1.old) rfl rfl
    first | (go_region_with (first | (go_at_call 108; refine (HI.out _).mono ?_; rintro e w8 ⟨rfl, rfl⟩) | (go_at_call 109; refine (HO.out _).mono ?_; rintro e w9 ⟨rfl, rfl⟩))) | fail
    all_goals
      go_wp2_with fail
      go_end0
      exact ⟨rfl, (H2.goto 2).drew⟩

set_option maxHeartbeats 1600000 in
set_option maxRecDepth 100000 in
theorem xwf_13 {S0 : List Nat} {w0 w : World} {p : Option Addr} {g cap x : Nat} {rs : List Res} {s : Rn} (H : XHas S0 w0 p g cap x rs s w) (hop : s.f.op = 1) (hl : s.f.line = 3) (ha : 0 ≤ s.f.a ∧ s.f.a < 4294967296) (hc : s.notes.length ≤ 900) :
    Calls Try.prog 41 #[.pointer (some ⟨x, 0, none⟩)] w fun e w' => e = .returned (.tuple #[]) ∧ XHas S0 w0 p g cap x rs (wf13 s) w' := by
  obtain ⟨z0, z2, z4, z5, z6, z7⟩ := H.facts hop hl rfl rfl
  have HC := Lib.hid hc
  have HA := Lib.hid ha
  have HH := Lib.hid H
  clear hc H ha
  unfold wf13
  unfold wfCalmly wfCalm
  have hv := HH.out.old ⟨1, 0, 0, 0, 0⟩
  have hi := fun W => refwf_I (doA s.L ⟨1, 0, 0, 0, 0⟩).1.old W hv
  have ho := fun W => refwf_O (doA s.L ⟨1, 0, 0, 0, 0⟩).1.old W hv
  generalize hq : wfG (doA s.L ⟨1, 0, 0, 0, 0⟩).1.old = q at hi ⊢
  generalize ht : wfT (doA s.L ⟨1, 0, 0, 0, 0⟩).1.old = t at ho ⊢
  have HI := Lib.hid hi
  have HO := Lib.hid ho
  clear hi ho hq ht hv
  by_cases hb : t = q
  · subst hb
    have e1 : (t == t) = true := by simp
    simp only [e1, if_true]
    go_enter Try.func41, Try.ntmps41
    go_wp2_with fail
    go_quiet (fail)
    have HW := HH.out.drewN nq
    clear z0 z2 z4 z5 z6 z7
    generalize w.drewN nq = W at HW ⊢
    obtain ⟨z0, z2, z4, z5, z6, z7⟩ := HW.facts hop hl rfl rfl
    go_wp2_with fail
    refine (xn_load HW 0).mono ?_
    rintro e w1 ⟨rfl, H1⟩
    obtain ⟨x0, x2, x4, x5, x6, x7⟩ := H1.facts hop hl rfl rfl
    go_wp2_with fail
    obtain ⟨y0, y2, y4, y5, y6, y7⟩ := ((H1.setA (doA s.L ⟨1, 0, 0, 0, 0⟩).1.old).goto 2).facts hop (l := 2) rfl (y := (doA s.L ⟨1, 0, 0, 0, 0⟩).1.old) rfl rfl
    first | (go_region_with (first | (go_at_call 108; refine (HI.out _).mono ?_; rintro e w8 ⟨rfl, rfl⟩) | (go_at_call 109; refine (HO.out _).mono ?_; rintro e w9 ⟨rfl, rfl⟩))) | fail
    all_goals
      go_wp2_with fail
      go_end0
      exact ⟨rfl, (((H1.setA (doA s.L ⟨1, 0, 0, 0, 0⟩).1.old).goto 2).drew.goto 1)⟩
  · have e1 : (t == q) = false := by simpa using hb
    have e2 : (q == t) = false := by simpa using fun h => hb h.symm
    simp only [e1, Bool.false_eq_true, if_false]
    go_enter Try.func41, Try.ntmps41
    go_wp2_with fail
    go_quiet (fail)
    have HW := HH.out.drewN nq
    clear z0 z2 z4 z5 z6 z7
    generalize w.drewN nq = W at HW ⊢
    obtain ⟨z0, z2, z4, z5, z6, z7⟩ := HW.facts hop hl rfl rfl
    go_wp2_with fail
    refine (xn_load HW 0).mono ?_
    rintro e w1 ⟨rfl, H1⟩
    obtain ⟨x0, x2, x4, x5, x6, x7⟩ := H1.facts hop hl rfl rfl
    go_wp2_with fail
    obtain ⟨y0, y2, y4, y5, y6, y7⟩ := ((H1.setA (doA s.L ⟨1, 0, 0, 0, 0⟩).1.old).goto 2).facts hop (l := 2) rfl (y := (doA s.L ⟨1, 0, 0, 0, 0⟩).1.old) rfl rfl
    first | (go_region_with (first | (go_at_call 108; refine (HI.out _).mono ?_; rintro e w8 ⟨rfl, rfl⟩) | (go_at_call 109; refine (HO.out _).mono ?_; rintro e w9 ⟨rfl, rfl⟩))) | fail
    all_goals
      go_wp2_with fail
      go_end0
      exact ⟨rfl, ((H1.setA (doA s.L ⟨1, 0, 0, 0, 0⟩).1.old).goto 2).drew⟩

set_option maxHeartbeats 1600000 in
set_option maxRecDepth 100000 in
theorem xwf_11 {S0 : List Nat} {w0 w : World} {p : Option Addr} {g cap x : Nat} {rs : List Res} {s : Rn} (H : XHas S0 w0 p g cap x rs s w) (hop : s.f.op = 1) (hl : s.f.line = 1) (ha : 0 ≤ s.f.a ∧ s.f.a < 4294967296) (hc : s.notes.length ≤ 900) :
    Calls Try.prog 41 #[.pointer (some ⟨x, 0, none⟩)] w fun e w' => e = .returned (.tuple #[]) ∧ XHas S0 w0 p g cap x rs (wf11 s) w' := by
  obtain ⟨z0, z2, z4, z5, z6, z7⟩ := H.facts hop hl rfl rfl
  have HC := Lib.hid hc
  have HA := Lib.hid ha
  have HH := Lib.hid H
  clear hc H ha
  unfold wf11
  have hcas : ∀ W, XHas S0 w0 p g cap x rs s W → Calls Try.prog 67 #[.pointer (some ⟨x, 0, none⟩), .int .i64 0, .int .u32 s.f.a, .int .u32 ((s.f.a + 1) % 4294967296)] W fun e w' => e = .returned (.bool (casB s.L 0 s.f.a ((s.f.a + 1) % 4294967296))) ∧ XHas S0 w0 p g cap x rs (s.did (doA s.L ⟨5, 0, s.f.a, ((s.f.a + 1) % 4294967296), 0⟩)) w' := fun W H => xn_cas H 0 s.f.a ((s.f.a + 1) % 4294967296) HA.out (by omega)
  cases hb : casB s.L 0 s.f.a ((s.f.a + 1) % 4294967296) <;> rw [hb] at hcas <;> simp only [if_true, Bool.false_eq_true, if_false] <;> (have HCAS := Lib.hid hcas) <;> clear hcas hb
  · go_enter Try.func41, Try.ntmps41
    go_wp2_with fail
    go_quiet (fail)
    have HW := HH.out.drewN nq
    clear z0 z2 z4 z5 z6 z7
    generalize w.drewN nq = W at HW ⊢
    obtain ⟨z0, z2, z4, z5, z6, z7⟩ := HW.facts hop hl rfl rfl
    go_wp2_with fail
    refine region_flat (by kernel_rfl) (by kernel_rfl) ?_
    simp only [probed, probes, List.nil_append, List.cons_append, probe]
    go_wp2_with fail
    refine (HCAS.out _ HW.drew).mono ?_
    rintro e w1 ⟨rfl, H1⟩
    go_wp2_with fail
    rw [only_normal]
    first | (rename_i hK; refine hK _ _ ?_; clear hK) | (rename_i hK; simp only [Exit.inBlock, Exit.then]; refine hK _ _ ?_; clear hK) | simp only [Exit.inBlock, Exit.then]
    obtain ⟨x0, x2, x4, x5, x6, x7⟩ := H1.facts hop hl rfl rfl
    go_wp2_with fail
    go_end0
    exact ⟨rfl, (H1.goto 3)⟩
  · go_enter Try.func41, Try.ntmps41
    go_wp2_with fail
    go_quiet (fail)
    have HW := HH.out.drewN nq
    clear z0 z2 z4 z5 z6 z7
    generalize w.drewN nq = W at HW ⊢
    obtain ⟨z0, z2, z4, z5, z6, z7⟩ := HW.facts hop hl rfl rfl
    go_wp2_with fail
    refine region_flat (by kernel_rfl) (by kernel_rfl) ?_
    simp only [probed, probes, List.nil_append, List.cons_append, probe]
    go_wp2_with fail
    refine (HCAS.out _ HW.drew).mono ?_
    rintro e w1 ⟨rfl, H1⟩
    go_wp2_with fail
    rw [only_normal]
    first | (rename_i hK; refine hK _ _ ?_; clear hK) | (rename_i hK; simp only [Exit.inBlock, Exit.then]; refine hK _ _ ?_; clear hK) | simp only [Exit.inBlock, Exit.then]
    obtain ⟨x0, x2, x4, x5, x6, x7⟩ := H1.facts hop hl rfl rfl
    go_wp2_with fail
    refine (refwf_end H1 (by have := HC.out; first | exact Nat.le_trans this (by decide) | (simp [Rn.note, Rn.did, Rn.setA, Rn.setB, Rn.waited, Rn.goto, Rn.noted]; omega)) 4).mono ?_
    rintro e w2 ⟨rfl, H2⟩
    go_wp2_with fail
    go_end0
    exact ⟨rfl, H2⟩

set_option maxHeartbeats 1600000 in
set_option maxRecDepth 100000 in
theorem xwf_20 {S0 : List Nat} {w0 w : World} {p : Option Addr} {g cap x : Nat} {rs : List Res} {s : Rn} (H : XHas S0 w0 p g cap x rs s w) (hop : s.f.op = 2) (hl : s.f.line = 0) (ha : 0 ≤ s.f.a ∧ s.f.a < 4294967296) (hc : s.notes.length ≤ 900) :
    Calls Try.prog 41 #[.pointer (some ⟨x, 0, none⟩)] w fun e w' => e = .returned (.tuple #[]) ∧ XHas S0 w0 p g cap x rs (wf20 s) w' := by
  obtain ⟨z0, z2, z4, z5, z6, z7⟩ := H.facts hop hl rfl rfl
  have HC := Lib.hid hc
  have HA := Lib.hid ha
  have HH := Lib.hid H
  clear hc H ha
  unfold wf20
  go_enter Try.func41, Try.ntmps41
  go_wp2_with fail
  go_quiet (fail)
  have HW := HH.out.drewN nq
  clear z0 z2 z4 z5 z6 z7
  generalize w.drewN nq = W at HW ⊢
  obtain ⟨z0, z2, z4, z5, z6, z7⟩ := HW.facts hop hl rfl rfl
  go_wp2_with fail
  refine (xn_add HW 0 4294967295 (by decide)).mono ?_
  rintro e w1 ⟨rfl, H1⟩
  obtain ⟨x0, x2, x4, x5, x6, x7⟩ := H1.facts hop hl rfl rfl
  go_wp2_with fail
  refine (x_note H1 (by have := HC.out; first | exact Nat.le_trans this (by decide) | (simp [Rn.note, Rn.did, Rn.setA, Rn.setB, Rn.waited, Rn.goto, Rn.noted]; omega)) 6 0).mono ?_
  rintro e w2 ⟨rfl, H2⟩
  obtain ⟨x0, x2, x4, x5, x6, x7⟩ := H2.facts hop hl rfl rfl
  go_wp2_with fail
  refine (xn_wake H2 0).mono ?_
  rintro e w3 ⟨rfl, H3⟩
  obtain ⟨x0, x2, x4, x5, x6, x7⟩ := H3.facts hop hl rfl rfl
  go_wp2_with fail
  refine (xn_end H3 true).mono ?_
  rintro e w4 ⟨rfl, H4⟩
  go_wp2_with fail
  go_end0
  exact ⟨rfl, H4⟩

set_option maxHeartbeats 1600000 in
set_option maxRecDepth 100000 in
theorem xwf_30 {S0 : List Nat} {w0 w : World} {p : Option Addr} {g cap x : Nat} {rs : List Res} {s : Rn} (H : XHas S0 w0 p g cap x rs s w) (hop : s.f.op = 3) (hl : s.f.line = 0) (ha : 0 ≤ s.f.a ∧ s.f.a < 4294967296) (hc : s.notes.length ≤ 900) :
    Calls Try.prog 41 #[.pointer (some ⟨x, 0, none⟩)] w fun e w' => e = .returned (.tuple #[]) ∧ XHas S0 w0 p g cap x rs (wf30 s) w' := by
  obtain ⟨z0, z2, z4, z5, z6, z7⟩ := H.facts hop hl rfl rfl
  have HC := Lib.hid hc
  have HA := Lib.hid ha
  have HH := Lib.hid H
  clear hc H ha
  unfold wf30
  go_enter Try.func41, Try.ntmps41
  go_wp2_with fail
  go_quiet (fail)
  have HW := HH.out.drewN nq
  clear z0 z2 z4 z5 z6 z7
  generalize w.drewN nq = W at HW ⊢
  obtain ⟨z0, z2, z4, z5, z6, z7⟩ := HW.facts hop hl rfl rfl
  go_wp2_with fail
  refine (xn_add HW 0 65536 (by decide)).mono ?_
  rintro e w1 ⟨rfl, H1⟩
  obtain ⟨x0, x2, x4, x5, x6, x7⟩ := H1.facts hop hl rfl rfl
  go_wp2_with fail
  refine (x_note (H1.setA (doA s.L ⟨3, 0, 65536, 0, 0⟩).1.old) (by have := HC.out; first | exact Nat.le_trans this (by decide) | (simp [Rn.note, Rn.did, Rn.setA, Rn.setB, Rn.waited, Rn.goto, Rn.noted]; omega)) 2 2).mono ?_
  rintro e w2 ⟨rfl, H2⟩
  obtain ⟨x0, x2, x4, x5, x6, x7⟩ := H2.facts hop hl (y := (doA s.L ⟨3, 0, 65536, 0, 0⟩).1.old) rfl rfl
  go_wp2_with fail
  go_end0
  exact ⟨rfl, (H2.goto 1)⟩

end Go.Proofs.Ytlndihdlodempaa.Z

/- The document's lines of the lock in which writers go first: a try's. Written by genxwf.py. -/
set_option linter.unusedVariables false
set_option linter.unusedSimpArgs false
namespace Go.Proofs.Ytlndihdlodempaa.Z
open Go.RowKit

set_option maxHeartbeats 1600000 in
set_option maxRecDepth 100000 in
theorem xwf_40 {S0 : List Nat} {w0 w : World} {p : Option Addr} {g cap x : Nat} {rs : List Res} {s : Rn} (H : XHas S0 w0 p g cap x rs s w) (hop : s.f.op = 4) (hl : s.f.line = 0) (ha : 0 ≤ s.f.a ∧ s.f.a < 4294967296) (hc : s.notes.length ≤ 900) :
    Calls Try.prog 41 #[.pointer (some ⟨x, 0, none⟩)] w fun e w' => e = .returned (.tuple #[]) ∧ XHas S0 w0 p g cap x rs (wf40 s) w' := by
  obtain ⟨z0, z2, z4, z5, z6, z7⟩ := H.facts hop hl rfl rfl
  have HC := Lib.hid hc
  have HA := Lib.hid ha
  have HH := Lib.hid H
  clear hc H ha
  unfold wf40
  go_enter Try.func41, Try.ntmps41
  go_wp2_with fail
  go_quiet (fail)
  have HW := HH.out.drewN nq
  clear z0 z2 z4 z5 z6 z7
  generalize w.drewN nq = W at HW ⊢
  obtain ⟨z0, z2, z4, z5, z6, z7⟩ := HW.facts hop hl rfl rfl
  go_wp2_with fail
  refine (xn_load HW 0).mono ?_
  rintro e w1 ⟨rfl, H1⟩
  obtain ⟨x0, x2, x4, x5, x6, x7⟩ := H1.facts hop hl rfl rfl
  go_wp2_with fail
  go_end0
  exact ⟨rfl, ((H1.setA (doA s.L ⟨1, 0, 0, 0, 0⟩).1.old).goto 1)⟩

set_option maxHeartbeats 1600000 in
set_option maxRecDepth 100000 in
theorem xwf_80 {S0 : List Nat} {w0 w : World} {p : Option Addr} {g cap x : Nat} {rs : List Res} {s : Rn} (H : XHas S0 w0 p g cap x rs s w) (hop : s.f.op = 8) (hl : s.f.line = 0) (ha : 0 ≤ s.f.a ∧ s.f.a < 4294967296) (hc : s.notes.length ≤ 900) :
    Calls Try.prog 41 #[.pointer (some ⟨x, 0, none⟩)] w fun e w' => e = .returned (.tuple #[]) ∧ XHas S0 w0 p g cap x rs (wf80 s) w' := by
  obtain ⟨z0, z2, z4, z5, z6, z7⟩ := H.facts hop hl rfl rfl
  have HC := Lib.hid hc
  have HA := Lib.hid ha
  have HH := Lib.hid H
  clear hc H ha
  unfold wf80
  go_enter Try.func41, Try.ntmps41
  go_wp2_with fail
  go_quiet (fail)
  have HW := HH.out.drewN nq
  clear z0 z2 z4 z5 z6 z7
  generalize w.drewN nq = W at HW ⊢
  obtain ⟨z0, z2, z4, z5, z6, z7⟩ := HW.facts hop hl rfl rfl
  go_wp2_with fail
  refine (xn_load HW 0).mono ?_
  rintro e w1 ⟨rfl, H1⟩
  obtain ⟨x0, x2, x4, x5, x6, x7⟩ := H1.facts hop hl rfl rfl
  go_wp2_with fail
  go_end0
  exact ⟨rfl, ((H1.setA (doA s.L ⟨1, 0, 0, 0, 0⟩).1.old).goto 1)⟩

set_option maxHeartbeats 1600000 in
set_option maxRecDepth 100000 in
theorem xwf_41 {S0 : List Nat} {w0 w : World} {p : Option Addr} {g cap x : Nat} {rs : List Res} {s : Rn} (H : XHas S0 w0 p g cap x rs s w) (hop : s.f.op = 4) (hl : s.f.line = 1) (ha : 0 ≤ s.f.a ∧ s.f.a < 4294967296) (hc : s.notes.length ≤ 900) :
    Calls Try.prog 41 #[.pointer (some ⟨x, 0, none⟩)] w fun e w' => e = .returned (.tuple #[]) ∧ XHas S0 w0 p g cap x rs (wf41 s) w' := by
  obtain ⟨z0, z2, z4, z5, z6, z7⟩ := H.facts hop hl rfl rfl
  have HC := Lib.hid hc
  have HA := Lib.hid ha
  have HH := Lib.hid H
  clear hc H ha
  unfold wf41
  have hb := fun W => refBump88 s.f.a W HA.out
  have hbw : 0 ≤ bump8 s.f.a ∧ bump8 s.f.a < 4294967296 := by unfold bump8; omega
  generalize bump8 s.f.a = q at hb hbw ⊢
  have HB := Lib.hid hb
  have HBW := Lib.hid hbw
  clear hb hbw
  go_enter Try.func41, Try.ntmps41
  go_wp2_with fail
  go_quiet (fail)
  have HW := HH.out.drewN nq
  clear z0 z2 z4 z5 z6 z7
  generalize w.drewN nq = W at HW ⊢
  obtain ⟨z0, z2, z4, z5, z6, z7⟩ := HW.facts hop hl rfl rfl
  go_wp2_with fail
  first
    | (refine (HB.out _).mono ?_; rintro e w1 ⟨rfl, t1⟩; go_wp2_with fail; skip)
    | fail
  have HV := HW.grow t1
  refine (xn_add HV 0 q (by have := HBW.out; omega)).mono ?_
  rintro e w2 ⟨rfl, H2⟩
  obtain ⟨x0, x2, x4, x5, x6, x7⟩ := H2.facts hop hl rfl rfl
  go_wp2_with fail
  refine (x_note H2 (by have := HC.out; first | exact Nat.le_trans this (by decide) | (simp [Rn.note, Rn.did, Rn.setA, Rn.setB, Rn.waited, Rn.goto, Rn.noted]; omega)) 7 0).mono ?_
  rintro e w3 ⟨rfl, H3⟩
  obtain ⟨x0, x2, x4, x5, x6, x7⟩ := H3.facts hop hl rfl rfl
  go_wp2_with fail
  refine (x_note H3 (by have := HC.out; first | exact Nat.le_trans this (by decide) | (simp [Rn.note, Rn.did, Rn.setA, Rn.setB, Rn.waited, Rn.goto, Rn.noted]; omega)) 8 0).mono ?_
  rintro e w4 ⟨rfl, H4⟩
  obtain ⟨x0, x2, x4, x5, x6, x7⟩ := H4.facts hop hl rfl rfl
  go_wp2_with fail
  refine (xn_wake H4 0).mono ?_
  rintro e w5 ⟨rfl, H5⟩
  obtain ⟨x0, x2, x4, x5, x6, x7⟩ := H5.facts hop hl rfl rfl
  go_wp2_with fail
  refine (xn_end H5 true).mono ?_
  rintro e w6 ⟨rfl, H6⟩
  go_wp2_with fail
  go_end0
  exact ⟨rfl, H6⟩

set_option maxHeartbeats 1600000 in
set_option maxRecDepth 100000 in
theorem xwf_81 {S0 : List Nat} {w0 w : World} {p : Option Addr} {g cap x : Nat} {rs : List Res} {s : Rn} (H : XHas S0 w0 p g cap x rs s w) (hop : s.f.op = 8) (hl : s.f.line = 1) (ha : 0 ≤ s.f.a ∧ s.f.a < 4294967296) (hc : s.notes.length ≤ 900) :
    Calls Try.prog 41 #[.pointer (some ⟨x, 0, none⟩)] w fun e w' => e = .returned (.tuple #[]) ∧ XHas S0 w0 p g cap x rs (wf81 s) w' := by
  obtain ⟨z0, z2, z4, z5, z6, z7⟩ := H.facts hop hl rfl rfl
  have HC := Lib.hid hc
  have HA := Lib.hid ha
  have HH := Lib.hid H
  clear hc H ha
  unfold wf81
  have hb := fun W => refBump88 s.f.a W HA.out
  have hbw : 0 ≤ bump8 s.f.a ∧ bump8 s.f.a < 4294967296 := by unfold bump8; omega
  generalize bump8 s.f.a = q at hb hbw ⊢
  have HB := Lib.hid hb
  have HBW := Lib.hid hbw
  clear hb hbw
  go_enter Try.func41, Try.ntmps41
  go_wp2_with fail
  go_quiet (fail)
  have HW := HH.out.drewN nq
  clear z0 z2 z4 z5 z6 z7
  generalize w.drewN nq = W at HW ⊢
  obtain ⟨z0, z2, z4, z5, z6, z7⟩ := HW.facts hop hl rfl rfl
  go_wp2_with fail
  first
    | (refine (HB.out _).mono ?_; rintro e w1 ⟨rfl, t1⟩; go_wp2_with fail; skip)
    | fail
  have HV := HW.grow t1
  refine (xn_add HV 0 ((q + 1) % 4294967296) (by have := HBW.out; omega)).mono ?_
  rintro e w2 ⟨rfl, H2⟩
  obtain ⟨x0, x2, x4, x5, x6, x7⟩ := H2.facts hop hl rfl rfl
  go_wp2_with fail
  refine (x_note H2 (by have := HC.out; first | exact Nat.le_trans this (by decide) | (simp [Rn.note, Rn.did, Rn.setA, Rn.setB, Rn.waited, Rn.goto, Rn.noted]; omega)) 10 0).mono ?_
  rintro e w3 ⟨rfl, H3⟩
  obtain ⟨x0, x2, x4, x5, x6, x7⟩ := H3.facts hop hl rfl rfl
  go_wp2_with fail
  refine (xn_wake H3 0).mono ?_
  rintro e w4 ⟨rfl, H4⟩
  obtain ⟨x0, x2, x4, x5, x6, x7⟩ := H4.facts hop hl rfl rfl
  go_wp2_with fail
  refine (xn_end H4 true).mono ?_
  rintro e w5 ⟨rfl, H5⟩
  go_wp2_with fail
  go_end0
  exact ⟨rfl, H5⟩

end Go.Proofs.Ytlndihdlodempaa.Z

/- The document's lines of the lock in which writers go first: a try that swaps. Written by genxwf.py. -/
set_option linter.unusedVariables false
set_option linter.unusedSimpArgs false
namespace Go.Proofs.Ytlndihdlodempaa.Z
open Go.RowKit

set_option maxHeartbeats 1600000 in
set_option maxRecDepth 100000 in
theorem xwf_51 {S0 : List Nat} {w0 w : World} {p : Option Addr} {g cap x : Nat} {rs : List Res} {s : Rn} (H : XHas S0 w0 p g cap x rs s w) (hop : s.f.op = 5) (hl : s.f.line = 1) (ha : 0 ≤ s.f.a ∧ s.f.a < 4294967296) (hc : s.notes.length ≤ 900) :
    Calls Try.prog 41 #[.pointer (some ⟨x, 0, none⟩)] w fun e w' => e = .returned (.tuple #[]) ∧ XHas S0 w0 p g cap x rs (wf51 s) w' := by
  obtain ⟨z0, z2, z4, z5, z6, z7⟩ := H.facts hop hl rfl rfl
  have HC := Lib.hid hc
  have HA := Lib.hid ha
  have HH := Lib.hid H
  clear hc H ha
  unfold wf51
  unfold Rn.wswapped
  dsimp only
  have hcas : ∀ W, XHas S0 w0 p g cap x rs s W → Calls Try.prog 67 #[.pointer (some ⟨x, 0, none⟩), .int .i64 0, .int .u32 s.f.a, .int .u32 ((s.f.a + 1) % 4294967296)] W fun e w' => e = .returned (.bool (casB s.L 0 s.f.a ((s.f.a + 1) % 4294967296))) ∧ XHas S0 w0 p g cap x rs (s.did (doA s.L ⟨5, 0, s.f.a, ((s.f.a + 1) % 4294967296), 0⟩)) w' := fun W H => xn_cas H 0 s.f.a ((s.f.a + 1) % 4294967296) HA.out (by omega)
  cases hb : casB s.L 0 s.f.a ((s.f.a + 1) % 4294967296) <;> rw [hb] at hcas <;> simp only [if_true, Bool.false_eq_true, if_false] <;> (have HCAS := Lib.hid hcas) <;> clear hcas hb
  · go_enter Try.func41, Try.ntmps41
    go_wp2_with fail
    go_quiet (fail)
    have HW := HH.out.drewN nq
    clear z0 z2 z4 z5 z6 z7
    generalize w.drewN nq = W at HW ⊢
    obtain ⟨z0, z2, z4, z5, z6, z7⟩ := HW.facts hop hl rfl rfl
    go_wp2_with fail
    refine region_flat (by kernel_rfl) (by kernel_rfl) ?_
    simp only [probed, probes, List.nil_append, List.cons_append, probe]
    go_wp2_with fail
    refine (HCAS.out _ HW.drew).mono ?_
    rintro e w1 ⟨rfl, H1⟩
    go_wp2_with fail
    rw [only_normal]
    first | (rename_i hK; refine hK _ _ ?_; clear hK) | (rename_i hK; simp only [Exit.inBlock, Exit.then]; refine hK _ _ ?_; clear hK) | simp only [Exit.inBlock, Exit.then]
    obtain ⟨x0, x2, x4, x5, x6, x7⟩ := H1.facts hop hl rfl rfl
    go_wp2_with fail
    go_end0
    exact ⟨rfl, (H1.goto 0)⟩
  · go_enter Try.func41, Try.ntmps41
    go_wp2_with fail
    go_quiet (fail)
    have HW := HH.out.drewN nq
    clear z0 z2 z4 z5 z6 z7
    generalize w.drewN nq = W at HW ⊢
    obtain ⟨z0, z2, z4, z5, z6, z7⟩ := HW.facts hop hl rfl rfl
    go_wp2_with fail
    refine region_flat (by kernel_rfl) (by kernel_rfl) ?_
    simp only [probed, probes, List.nil_append, List.cons_append, probe]
    go_wp2_with fail
    refine (HCAS.out _ HW.drew).mono ?_
    rintro e w1 ⟨rfl, H1⟩
    go_wp2_with fail
    rw [only_normal]
    first | (rename_i hK; refine hK _ _ ?_; clear hK) | (rename_i hK; simp only [Exit.inBlock, Exit.then]; refine hK _ _ ?_; clear hK) | simp only [Exit.inBlock, Exit.then]
    obtain ⟨x0, x2, x4, x5, x6, x7⟩ := H1.facts hop hl rfl rfl
    go_wp2_with fail
    refine (x_note H1 (by have := HC.out; first | exact Nat.le_trans this (by decide) | (simp [Rn.note, Rn.did, Rn.setA, Rn.setB, Rn.waited, Rn.goto, Rn.noted]; omega)) 2 1).mono ?_
    rintro e w2 ⟨rfl, H2⟩
    obtain ⟨x0, x2, x4, x5, x6, x7⟩ := H2.facts hop hl rfl rfl
    go_wp2_with fail
    refine (refwf_end H2 (by have := HC.out; first | exact Nat.le_trans this (by decide) | (simp [Rn.note, Rn.did, Rn.setA, Rn.setB, Rn.waited, Rn.goto, Rn.noted]; omega)) 4).mono ?_
    rintro e w3 ⟨rfl, H3⟩
    go_wp2_with fail
    go_end0
    exact ⟨rfl, H3⟩

set_option maxHeartbeats 1600000 in
set_option maxRecDepth 100000 in
theorem xwf_61 {S0 : List Nat} {w0 w : World} {p : Option Addr} {g cap x : Nat} {rs : List Res} {s : Rn} (H : XHas S0 w0 p g cap x rs s w) (hop : s.f.op = 6) (hl : s.f.line = 1) (ha : 0 ≤ s.f.a ∧ s.f.a < 4294967296) (hc : s.notes.length ≤ 900) :
    Calls Try.prog 41 #[.pointer (some ⟨x, 0, none⟩)] w fun e w' => e = .returned (.tuple #[]) ∧ XHas S0 w0 p g cap x rs (wf61 s) w' := by
  obtain ⟨z0, z2, z4, z5, z6, z7⟩ := H.facts hop hl rfl rfl
  have HC := Lib.hid hc
  have HA := Lib.hid ha
  have HH := Lib.hid H
  clear hc H ha
  unfold wf61
  unfold Rn.wswapped
  dsimp only
  have hcas : ∀ W, XHas S0 w0 p g cap x rs s W → Calls Try.prog 67 #[.pointer (some ⟨x, 0, none⟩), .int .i64 0, .int .u32 s.f.a, .int .u32 ((s.f.a + 65536) % 4294967296)] W fun e w' => e = .returned (.bool (casB s.L 0 s.f.a ((s.f.a + 65536) % 4294967296))) ∧ XHas S0 w0 p g cap x rs (s.did (doA s.L ⟨5, 0, s.f.a, ((s.f.a + 65536) % 4294967296), 0⟩)) w' := fun W H => xn_cas H 0 s.f.a ((s.f.a + 65536) % 4294967296) HA.out (by omega)
  cases hb : casB s.L 0 s.f.a ((s.f.a + 65536) % 4294967296) <;> rw [hb] at hcas <;> simp only [if_true, Bool.false_eq_true, if_false] <;> (have HCAS := Lib.hid hcas) <;> clear hcas hb
  · go_enter Try.func41, Try.ntmps41
    go_wp2_with fail
    go_quiet (fail)
    have HW := HH.out.drewN nq
    clear z0 z2 z4 z5 z6 z7
    generalize w.drewN nq = W at HW ⊢
    obtain ⟨z0, z2, z4, z5, z6, z7⟩ := HW.facts hop hl rfl rfl
    go_wp2_with fail
    refine region_flat (by kernel_rfl) (by kernel_rfl) ?_
    simp only [probed, probes, List.nil_append, List.cons_append, probe]
    go_wp2_with fail
    refine (HCAS.out _ HW.drew).mono ?_
    rintro e w1 ⟨rfl, H1⟩
    go_wp2_with fail
    rw [only_normal]
    first | (rename_i hK; refine hK _ _ ?_; clear hK) | (rename_i hK; simp only [Exit.inBlock, Exit.then]; refine hK _ _ ?_; clear hK) | simp only [Exit.inBlock, Exit.then]
    obtain ⟨x0, x2, x4, x5, x6, x7⟩ := H1.facts hop hl rfl rfl
    go_wp2_with fail
    go_end0
    exact ⟨rfl, (H1.goto 0)⟩
  · go_enter Try.func41, Try.ntmps41
    go_wp2_with fail
    go_quiet (fail)
    have HW := HH.out.drewN nq
    clear z0 z2 z4 z5 z6 z7
    generalize w.drewN nq = W at HW ⊢
    obtain ⟨z0, z2, z4, z5, z6, z7⟩ := HW.facts hop hl rfl rfl
    go_wp2_with fail
    refine region_flat (by kernel_rfl) (by kernel_rfl) ?_
    simp only [probed, probes, List.nil_append, List.cons_append, probe]
    go_wp2_with fail
    refine (HCAS.out _ HW.drew).mono ?_
    rintro e w1 ⟨rfl, H1⟩
    go_wp2_with fail
    rw [only_normal]
    first | (rename_i hK; refine hK _ _ ?_; clear hK) | (rename_i hK; simp only [Exit.inBlock, Exit.then]; refine hK _ _ ?_; clear hK) | simp only [Exit.inBlock, Exit.then]
    obtain ⟨x0, x2, x4, x5, x6, x7⟩ := H1.facts hop hl rfl rfl
    go_wp2_with fail
    refine (x_note H1 (by have := HC.out; first | exact Nat.le_trans this (by decide) | (simp [Rn.note, Rn.did, Rn.setA, Rn.setB, Rn.waited, Rn.goto, Rn.noted]; omega)) 2 2).mono ?_
    rintro e w2 ⟨rfl, H2⟩
    obtain ⟨x0, x2, x4, x5, x6, x7⟩ := H2.facts hop hl rfl rfl
    go_wp2_with fail
    refine (refwf_end H2 (by have := HC.out; first | exact Nat.le_trans this (by decide) | (simp [Rn.note, Rn.did, Rn.setA, Rn.setB, Rn.waited, Rn.goto, Rn.noted]; omega)) 4).mono ?_
    rintro e w3 ⟨rfl, H3⟩
    go_wp2_with fail
    go_end0
    exact ⟨rfl, H3⟩

set_option maxHeartbeats 1600000 in
set_option maxRecDepth 100000 in
theorem xwf_71 {S0 : List Nat} {w0 w : World} {p : Option Addr} {g cap x : Nat} {rs : List Res} {s : Rn} (H : XHas S0 w0 p g cap x rs s w) (hop : s.f.op = 7) (hl : s.f.line = 1) (ha : 0 ≤ s.f.a ∧ s.f.a < 4294967296) (hc : s.notes.length ≤ 900) :
    Calls Try.prog 41 #[.pointer (some ⟨x, 0, none⟩)] w fun e w' => e = .returned (.tuple #[]) ∧ XHas S0 w0 p g cap x rs (wf71 s) w' := by
  obtain ⟨z0, z2, z4, z5, z6, z7⟩ := H.facts hop hl rfl rfl
  have HC := Lib.hid hc
  have HA := Lib.hid ha
  have HH := Lib.hid H
  clear hc H ha
  unfold wf71
  unfold Rn.wswapped
  dsimp only
  have hcas : ∀ W, XHas S0 w0 p g cap x rs s W → Calls Try.prog 67 #[.pointer (some ⟨x, 0, none⟩), .int .i64 0, .int .u32 s.f.a, .int .u32 ((s.f.a + 65535) % 4294967296)] W fun e w' => e = .returned (.bool (casB s.L 0 s.f.a ((s.f.a + 65535) % 4294967296))) ∧ XHas S0 w0 p g cap x rs (s.did (doA s.L ⟨5, 0, s.f.a, ((s.f.a + 65535) % 4294967296), 0⟩)) w' := fun W H => xn_cas H 0 s.f.a ((s.f.a + 65535) % 4294967296) HA.out (by omega)
  cases hb : casB s.L 0 s.f.a ((s.f.a + 65535) % 4294967296) <;> rw [hb] at hcas <;> simp only [if_true, Bool.false_eq_true, if_false] <;> (have HCAS := Lib.hid hcas) <;> clear hcas hb
  · go_enter Try.func41, Try.ntmps41
    go_wp2_with fail
    go_quiet (fail)
    have HW := HH.out.drewN nq
    clear z0 z2 z4 z5 z6 z7
    generalize w.drewN nq = W at HW ⊢
    obtain ⟨z0, z2, z4, z5, z6, z7⟩ := HW.facts hop hl rfl rfl
    go_wp2_with fail
    refine region_flat (by kernel_rfl) (by kernel_rfl) ?_
    simp only [probed, probes, List.nil_append, List.cons_append, probe]
    go_wp2_with fail
    refine (HCAS.out _ HW.drew).mono ?_
    rintro e w1 ⟨rfl, H1⟩
    go_wp2_with fail
    rw [only_normal]
    first | (rename_i hK; refine hK _ _ ?_; clear hK) | (rename_i hK; simp only [Exit.inBlock, Exit.then]; refine hK _ _ ?_; clear hK) | simp only [Exit.inBlock, Exit.then]
    obtain ⟨x0, x2, x4, x5, x6, x7⟩ := H1.facts hop hl rfl rfl
    go_wp2_with fail
    go_end0
    exact ⟨rfl, (H1.goto 0)⟩
  · go_enter Try.func41, Try.ntmps41
    go_wp2_with fail
    go_quiet (fail)
    have HW := HH.out.drewN nq
    clear z0 z2 z4 z5 z6 z7
    generalize w.drewN nq = W at HW ⊢
    obtain ⟨z0, z2, z4, z5, z6, z7⟩ := HW.facts hop hl rfl rfl
    go_wp2_with fail
    refine region_flat (by kernel_rfl) (by kernel_rfl) ?_
    simp only [probed, probes, List.nil_append, List.cons_append, probe]
    go_wp2_with fail
    refine (HCAS.out _ HW.drew).mono ?_
    rintro e w1 ⟨rfl, H1⟩
    go_wp2_with fail
    rw [only_normal]
    first | (rename_i hK; refine hK _ _ ?_; clear hK) | (rename_i hK; simp only [Exit.inBlock, Exit.then]; refine hK _ _ ?_; clear hK) | simp only [Exit.inBlock, Exit.then]
    obtain ⟨x0, x2, x4, x5, x6, x7⟩ := H1.facts hop hl rfl rfl
    go_wp2_with fail
    refine (refwf_end H1 (by have := HC.out; first | exact Nat.le_trans this (by decide) | (simp [Rn.note, Rn.did, Rn.setA, Rn.setB, Rn.waited, Rn.goto, Rn.noted]; omega)) 9).mono ?_
    rintro e w2 ⟨rfl, H2⟩
    go_wp2_with fail
    go_end0
    exact ⟨rfl, H2⟩

end Go.Proofs.Ytlndihdlodempaa.Z

/- The document's lines of the lock in which writers go first: waits. Written by genxwf.py. -/
set_option linter.unusedVariables false
set_option linter.unusedSimpArgs false
namespace Go.Proofs.Ytlndihdlodempaa.Z
open Go.RowKit

set_option maxHeartbeats 1600000 in
set_option maxRecDepth 100000 in
theorem xwf_12 {S0 : List Nat} {w0 w : World} {p : Option Addr} {g cap x : Nat} {rs : List Res} {s : Rn} (H : XHas S0 w0 p g cap x rs s w) (hop : s.f.op = 1) (hl : s.f.line = 2) (ha : 0 ≤ s.f.a ∧ s.f.a < 4294967296) (hc : s.notes.length ≤ 900) :
    Calls Try.prog 41 #[.pointer (some ⟨x, 0, none⟩)] w fun e w' => e = .returned (.tuple #[]) ∧ XHas S0 w0 p g cap x rs (wf12 s) w' := by
  obtain ⟨z0, z2, z4, z5, z6, z7⟩ := H.facts hop hl rfl rfl
  have HC := Lib.hid hc
  have HA := Lib.hid ha
  have HH := Lib.hid H
  clear hc H ha
  unfold wf12
  have hwt := fun W (H : XHas S0 w0 p g cap x rs s W) => xn_wait H 0 2 0 0
  rw [wf_untilCalm] at hwt
  unfold Rn.keep
  cases hs : (waitA s.L s.n s.mode s.task s.f.st 0 wfCalm).seen <;> cases hd : (waitA s.L s.n s.mode s.task s.f.st 0 wfCalm).done <;> rw [hs, hd] at hwt <;> simp only [hs, if_true, Bool.false_eq_true, if_false] <;> (have HWT := Lib.hid hwt) <;> clear hwt hs hd
  · go_enter Try.func41, Try.ntmps41
    go_wp2_with fail
    go_quiet (fail)
    have HW := HH.out.drewN nq
    clear z0 z2 z4 z5 z6 z7
    generalize w.drewN nq = W at HW ⊢
    obtain ⟨z0, z2, z4, z5, z6, z7⟩ := HW.facts hop hl rfl rfl
    go_wp2_with fail
    refine (HWT.out _ HW).mono ?_
    rintro e w1 ⟨rfl, H1⟩
    obtain ⟨x0, x2, x4, x5, x6, x7⟩ := H1.facts hop hl rfl rfl
    go_wp2_with fail
    go_end0
    exact ⟨rfl, H1⟩
  · go_enter Try.func41, Try.ntmps41
    go_wp2_with fail
    go_quiet (fail)
    have HW := HH.out.drewN nq
    clear z0 z2 z4 z5 z6 z7
    generalize w.drewN nq = W at HW ⊢
    obtain ⟨z0, z2, z4, z5, z6, z7⟩ := HW.facts hop hl rfl rfl
    go_wp2_with fail
    refine (HWT.out _ HW).mono ?_
    rintro e w1 ⟨rfl, H1⟩
    obtain ⟨x0, x2, x4, x5, x6, x7⟩ := H1.facts hop hl rfl rfl
    go_wp2_with fail
    go_end0
    exact ⟨rfl, (H1.goto 1)⟩
  · go_enter Try.func41, Try.ntmps41
    go_wp2_with fail
    go_quiet (fail)
    have HW := HH.out.drewN nq
    clear z0 z2 z4 z5 z6 z7
    generalize w.drewN nq = W at HW ⊢
    obtain ⟨z0, z2, z4, z5, z6, z7⟩ := HW.facts hop hl rfl rfl
    go_wp2_with fail
    refine (HWT.out _ HW).mono ?_
    rintro e w1 ⟨rfl, H1⟩
    obtain ⟨x0, x2, x4, x5, x6, x7⟩ := H1.facts hop hl rfl rfl
    have x18 := H1.accOld (o := (waitA s.L s.n s.mode s.task s.f.st 0 wfCalm).acc.old) rfl
    go_wp2_with fail
    go_end0
    exact ⟨rfl, (H1.setA (waitA s.L s.n s.mode s.task s.f.st 0 wfCalm).acc.old)⟩
  · go_enter Try.func41, Try.ntmps41
    go_wp2_with fail
    go_quiet (fail)
    have HW := HH.out.drewN nq
    clear z0 z2 z4 z5 z6 z7
    generalize w.drewN nq = W at HW ⊢
    obtain ⟨z0, z2, z4, z5, z6, z7⟩ := HW.facts hop hl rfl rfl
    go_wp2_with fail
    refine (HWT.out _ HW).mono ?_
    rintro e w1 ⟨rfl, H1⟩
    obtain ⟨x0, x2, x4, x5, x6, x7⟩ := H1.facts hop hl rfl rfl
    have x18 := H1.accOld (o := (waitA s.L s.n s.mode s.task s.f.st 0 wfCalm).acc.old) rfl
    go_wp2_with fail
    go_end0
    exact ⟨rfl, ((H1.setA (waitA s.L s.n s.mode s.task s.f.st 0 wfCalm).acc.old).goto 1)⟩

set_option maxHeartbeats 1600000 in
set_option maxRecDepth 100000 in
theorem xwf_31 {S0 : List Nat} {w0 w : World} {p : Option Addr} {g cap x : Nat} {rs : List Res} {s : Rn} (H : XHas S0 w0 p g cap x rs s w) (hop : s.f.op = 3) (hl : s.f.line = 1) (ha : 0 ≤ s.f.a ∧ s.f.a < 4294967296) (hc : s.notes.length ≤ 900) :
    Calls Try.prog 41 #[.pointer (some ⟨x, 0, none⟩)] w fun e w' => e = .returned (.tuple #[]) ∧ XHas S0 w0 p g cap x rs (wf31 s) w' := by
  obtain ⟨z0, z2, z4, z5, z6, z7⟩ := H.facts hop hl rfl rfl
  have HC := Lib.hid hc
  have HA := Lib.hid ha
  have HH := Lib.hid H
  clear hc H ha
  unfold wf31
  have hi := fun W => refwf_I s.f.a W HA.out
  have hwt := fun W (H : XHas S0 w0 p g cap x rs s W) => xn_wait H 0 3 0 (wfG s.f.a)
  rw [wf_untilTurn] at hwt
  generalize hq : wfG s.f.a = q at hi hwt ⊢
  have HI := Lib.hid hi
  clear hi hq
  cases hs : (waitA s.L s.n s.mode s.task s.f.st 0 (fun v => wfT v == q && wfR v == 0)).seen <;> cases hd : (waitA s.L s.n s.mode s.task s.f.st 0 (fun v => wfT v == q && wfR v == 0)).done <;> rw [hs, hd] at hwt <;> simp only [hs, if_true, Bool.false_eq_true, if_false] <;> (have HWT := Lib.hid hwt) <;> clear hwt hs hd
  · go_enter Try.func41, Try.ntmps41
    go_wp2_with fail
    go_quiet (fail)
    have HW := HH.out.drewN nq
    clear z0 z2 z4 z5 z6 z7
    generalize w.drewN nq = W at HW ⊢
    obtain ⟨z0, z2, z4, z5, z6, z7⟩ := HW.facts hop hl rfl rfl
    go_wp2_with fail
    refine (HI.out _).mono ?_
    rintro e w1 ⟨rfl, rfl⟩
    go_wp2_with fail
    refine (HWT.out _ HW).mono ?_
    rintro e w2 ⟨rfl, H2⟩
    obtain ⟨x0, x2, x4, x5, x6, x7⟩ := H2.facts hop hl rfl rfl
    go_wp2_with fail
    go_end0
    exact ⟨rfl, H2⟩
  · go_enter Try.func41, Try.ntmps41
    go_wp2_with fail
    go_quiet (fail)
    have HW := HH.out.drewN nq
    clear z0 z2 z4 z5 z6 z7
    generalize w.drewN nq = W at HW ⊢
    obtain ⟨z0, z2, z4, z5, z6, z7⟩ := HW.facts hop hl rfl rfl
    go_wp2_with fail
    refine (HI.out _).mono ?_
    rintro e w1 ⟨rfl, rfl⟩
    go_wp2_with fail
    refine (HWT.out _ HW).mono ?_
    rintro e w2 ⟨rfl, H2⟩
    obtain ⟨x0, x2, x4, x5, x6, x7⟩ := H2.facts hop hl rfl rfl
    go_wp2_with fail
    refine (xn_end H2 true).mono ?_
    rintro e w3 ⟨rfl, H3⟩
    go_wp2_with fail
    go_end0
    exact ⟨rfl, H3⟩
  · go_enter Try.func41, Try.ntmps41
    go_wp2_with fail
    go_quiet (fail)
    have HW := HH.out.drewN nq
    clear z0 z2 z4 z5 z6 z7
    generalize w.drewN nq = W at HW ⊢
    obtain ⟨z0, z2, z4, z5, z6, z7⟩ := HW.facts hop hl rfl rfl
    go_wp2_with fail
    refine (HI.out _).mono ?_
    rintro e w1 ⟨rfl, rfl⟩
    go_wp2_with fail
    refine (HWT.out _ HW).mono ?_
    rintro e w2 ⟨rfl, H2⟩
    obtain ⟨x0, x2, x4, x5, x6, x7⟩ := H2.facts hop hl rfl rfl
    go_wp2_with fail
    refine (x_note H2 (by have := HC.out; first | exact Nat.le_trans this (by decide) | (simp [Rn.note, Rn.did, Rn.setA, Rn.setB, Rn.waited, Rn.goto, Rn.noted]; omega)) 4 0).mono ?_
    rintro e w3 ⟨rfl, H3⟩
    go_wp2_with fail
    go_end0
    exact ⟨rfl, H3⟩
  · go_enter Try.func41, Try.ntmps41
    go_wp2_with fail
    go_quiet (fail)
    have HW := HH.out.drewN nq
    clear z0 z2 z4 z5 z6 z7
    generalize w.drewN nq = W at HW ⊢
    obtain ⟨z0, z2, z4, z5, z6, z7⟩ := HW.facts hop hl rfl rfl
    go_wp2_with fail
    refine (HI.out _).mono ?_
    rintro e w1 ⟨rfl, rfl⟩
    go_wp2_with fail
    refine (HWT.out _ HW).mono ?_
    rintro e w2 ⟨rfl, H2⟩
    obtain ⟨x0, x2, x4, x5, x6, x7⟩ := H2.facts hop hl rfl rfl
    go_wp2_with fail
    refine (x_note H2 (by have := HC.out; first | exact Nat.le_trans this (by decide) | (simp [Rn.note, Rn.did, Rn.setA, Rn.setB, Rn.waited, Rn.goto, Rn.noted]; omega)) 4 0).mono ?_
    rintro e w3 ⟨rfl, H3⟩
    obtain ⟨x0, x2, x4, x5, x6, x7⟩ := H3.facts hop hl rfl rfl
    go_wp2_with fail
    refine (xn_end H3 true).mono ?_
    rintro e w4 ⟨rfl, H4⟩
    go_wp2_with fail
    go_end0
    exact ⟨rfl, H4⟩

end Go.Proofs.Ytlndihdlodempaa.Z

/- The document's lines of the lock in which writers go first: a try that chooses. Written by genxwf.py. -/
set_option linter.unusedVariables false
set_option linter.unusedSimpArgs false
namespace Go.Proofs.Ytlndihdlodempaa.Z
open Go.RowKit

set_option maxHeartbeats 1600000 in
set_option maxRecDepth 100000 in
theorem xwf_50 {S0 : List Nat} {w0 w : World} {p : Option Addr} {g cap x : Nat} {rs : List Res} {s : Rn} (H : XHas S0 w0 p g cap x rs s w) (hop : s.f.op = 5) (hl : s.f.line = 0) (ha : 0 ≤ s.f.a ∧ s.f.a < 4294967296) (hc : s.notes.length ≤ 900) :
    Calls Try.prog 41 #[.pointer (some ⟨x, 0, none⟩)] w fun e w' => e = .returned (.tuple #[]) ∧ XHas S0 w0 p g cap x rs (wf50 s) w' := by
  obtain ⟨z0, z2, z4, z5, z6, z7⟩ := H.facts hop hl rfl rfl
  have HC := Lib.hid hc
  have HA := Lib.hid ha
  have HH := Lib.hid H
  clear hc H ha
  unfold wf50
  unfold Rn.wchosen wfCalm
  dsimp only
  have hv := HH.out.old ⟨1, 0, 0, 0, 0⟩
  have hi := fun W => refwf_I (doA s.L ⟨1, 0, 0, 0, 0⟩).1.old W hv
  have ho := fun W => refwf_O (doA s.L ⟨1, 0, 0, 0, 0⟩).1.old W hv
  have hr := fun W => refwf_R (doA s.L ⟨1, 0, 0, 0, 0⟩).1.old W hv
  obtain ⟨q, hq⟩ : ∃ q, wfG (doA s.L ⟨1, 0, 0, 0, 0⟩).1.old = q := ⟨_, rfl⟩
  obtain ⟨t, ht⟩ : ∃ t, wfT (doA s.L ⟨1, 0, 0, 0, 0⟩).1.old = t := ⟨_, rfl⟩
  obtain ⟨u, hu⟩ : ∃ u, wfR (doA s.L ⟨1, 0, 0, 0, 0⟩).1.old = u := ⟨_, rfl⟩
  rw [hq] at hi
  rw [ht] at ho
  rw [hu] at hr
  have HI := Lib.hid hi
  have HO := Lib.hid ho
  have HR := Lib.hid hr
  clear hi ho hr hv
  by_cases hb : t = q
  · subst hb
    have e1 : (t == t) = true := by simp
    rw [if_pos (by rw [ht, hq]; simp)]
    clear hq ht hu
    go_enter Try.func41, Try.ntmps41
    go_wp2_with fail
    go_quiet (fail)
    have HW := HH.out.drewN nq
    clear z0 z2 z4 z5 z6 z7
    generalize w.drewN nq = W at HW ⊢
    obtain ⟨z0, z2, z4, z5, z6, z7⟩ := HW.facts hop hl rfl rfl
    go_wp2_with fail
    refine (xn_load HW 0).mono ?_
    rintro e w1 ⟨rfl, H1⟩
    obtain ⟨x0, x2, x4, x5, x6, x7⟩ := H1.facts hop hl rfl rfl
    go_wp2_with fail
    obtain ⟨y0, y2, y4, y5, y6, y7⟩ := (H1.setA (doA s.L ⟨1, 0, 0, 0, 0⟩).1.old).facts hop hl (y := (doA s.L ⟨1, 0, 0, 0, 0⟩).1.old) rfl rfl
    first | (go_region_with (first | (go_at_call 108; refine (HI.out _).mono ?_; rintro e w8 ⟨rfl, rfl⟩) | (go_at_call 109; refine (HO.out _).mono ?_; rintro e w9 ⟨rfl, rfl⟩))) | fail
    all_goals
      go_wp2_with (first | (go_at_call 108; refine (HI.out _).mono ?_; rintro e w8 ⟨rfl, rfl⟩) | (go_at_call 109; refine (HO.out _).mono ?_; rintro e w9 ⟨rfl, rfl⟩) | (go_at_call 112; refine (HR.out _).mono ?_; rintro e w7 ⟨rfl, rfl⟩))
      go_end0
      exact ⟨rfl, ((H1.setA (doA s.L ⟨1, 0, 0, 0, 0⟩).1.old).drew.goto 1)⟩
  · have e1 : (t == q) = false := by simpa using hb
    have e2 : (q == t) = false := by simpa using fun h => hb h.symm
    rw [if_neg (by rw [ht, hq, e1]; simp)]
    clear hq ht hu
    go_enter Try.func41, Try.ntmps41
    go_wp2_with fail
    go_quiet (fail)
    have HW := HH.out.drewN nq
    clear z0 z2 z4 z5 z6 z7
    generalize w.drewN nq = W at HW ⊢
    obtain ⟨z0, z2, z4, z5, z6, z7⟩ := HW.facts hop hl rfl rfl
    go_wp2_with fail
    refine (xn_load HW 0).mono ?_
    rintro e w1 ⟨rfl, H1⟩
    obtain ⟨x0, x2, x4, x5, x6, x7⟩ := H1.facts hop hl rfl rfl
    go_wp2_with fail
    obtain ⟨y0, y2, y4, y5, y6, y7⟩ := (H1.setA (doA s.L ⟨1, 0, 0, 0, 0⟩).1.old).facts hop hl (y := (doA s.L ⟨1, 0, 0, 0, 0⟩).1.old) rfl rfl
    first | (go_region_with (first | (go_at_call 108; refine (HI.out _).mono ?_; rintro e w8 ⟨rfl, rfl⟩) | (go_at_call 109; refine (HO.out _).mono ?_; rintro e w9 ⟨rfl, rfl⟩))) | fail
    all_goals
      go_wp2_with (first | (go_at_call 108; refine (HI.out _).mono ?_; rintro e w8 ⟨rfl, rfl⟩) | (go_at_call 109; refine (HO.out _).mono ?_; rintro e w9 ⟨rfl, rfl⟩) | (go_at_call 112; refine (HR.out _).mono ?_; rintro e w7 ⟨rfl, rfl⟩))
      refine (x_note (H1.setA (doA s.L ⟨1, 0, 0, 0, 0⟩).1.old).drew (by have := HC.out; first | exact Nat.le_trans this (by decide) | (simp [Rn.note, Rn.did, Rn.setA, Rn.setB, Rn.waited, Rn.goto, Rn.noted]; omega)) 5 0).mono ?_
      rintro e w2 ⟨rfl, H2⟩
      go_wp2_with fail
      refine (xn_end H2 false).mono ?_
      rintro e w3 ⟨rfl, H3⟩
      go_wp2_with fail
      go_end0
      exact ⟨rfl, H3⟩

set_option maxHeartbeats 1600000 in
set_option maxRecDepth 100000 in
theorem xwf_60 {S0 : List Nat} {w0 w : World} {p : Option Addr} {g cap x : Nat} {rs : List Res} {s : Rn} (H : XHas S0 w0 p g cap x rs s w) (hop : s.f.op = 6) (hl : s.f.line = 0) (ha : 0 ≤ s.f.a ∧ s.f.a < 4294967296) (hc : s.notes.length ≤ 900) :
    Calls Try.prog 41 #[.pointer (some ⟨x, 0, none⟩)] w fun e w' => e = .returned (.tuple #[]) ∧ XHas S0 w0 p g cap x rs (wf60 s) w' := by
  obtain ⟨z0, z2, z4, z5, z6, z7⟩ := H.facts hop hl rfl rfl
  have HC := Lib.hid hc
  have HA := Lib.hid ha
  have HH := Lib.hid H
  clear hc H ha
  unfold wf60
  unfold Rn.wchosen wfCalm
  dsimp only
  have hv := HH.out.old ⟨1, 0, 0, 0, 0⟩
  have hi := fun W => refwf_I (doA s.L ⟨1, 0, 0, 0, 0⟩).1.old W hv
  have ho := fun W => refwf_O (doA s.L ⟨1, 0, 0, 0, 0⟩).1.old W hv
  have hr := fun W => refwf_R (doA s.L ⟨1, 0, 0, 0, 0⟩).1.old W hv
  obtain ⟨q, hq⟩ : ∃ q, wfG (doA s.L ⟨1, 0, 0, 0, 0⟩).1.old = q := ⟨_, rfl⟩
  obtain ⟨t, ht⟩ : ∃ t, wfT (doA s.L ⟨1, 0, 0, 0, 0⟩).1.old = t := ⟨_, rfl⟩
  obtain ⟨u, hu⟩ : ∃ u, wfR (doA s.L ⟨1, 0, 0, 0, 0⟩).1.old = u := ⟨_, rfl⟩
  rw [hq] at hi
  rw [ht] at ho
  rw [hu] at hr
  have HI := Lib.hid hi
  have HO := Lib.hid ho
  have HR := Lib.hid hr
  clear hi ho hr hv
  by_cases hb : t = q
  · subst hb
    have e1 : (t == t) = true := by simp
    cases hp : (u == 0)
    · rw [if_neg (by rw [ht, hq, hu, hp]; simp)]
      clear hq ht hu
      go_enter Try.func41, Try.ntmps41
      go_wp2_with fail
      go_quiet (fail)
      have HW := HH.out.drewN nq
      clear z0 z2 z4 z5 z6 z7
      generalize w.drewN nq = W at HW ⊢
      obtain ⟨z0, z2, z4, z5, z6, z7⟩ := HW.facts hop hl rfl rfl
      go_wp2_with fail
      refine (xn_load HW 0).mono ?_
      rintro e w1 ⟨rfl, H1⟩
      obtain ⟨x0, x2, x4, x5, x6, x7⟩ := H1.facts hop hl rfl rfl
      go_wp2_with fail
      obtain ⟨y0, y2, y4, y5, y6, y7⟩ := (H1.setA (doA s.L ⟨1, 0, 0, 0, 0⟩).1.old).facts hop hl (y := (doA s.L ⟨1, 0, 0, 0, 0⟩).1.old) rfl rfl
      first | (go_region_with (first | (go_at_call 108; refine (HI.out _).mono ?_; rintro e w8 ⟨rfl, rfl⟩) | (go_at_call 109; refine (HO.out _).mono ?_; rintro e w9 ⟨rfl, rfl⟩))) | fail
      all_goals
        go_wp2_with (first | (go_at_call 108; refine (HI.out _).mono ?_; rintro e w8 ⟨rfl, rfl⟩) | (go_at_call 109; refine (HO.out _).mono ?_; rintro e w9 ⟨rfl, rfl⟩) | (go_at_call 112; refine (HR.out _).mono ?_; rintro e w7 ⟨rfl, rfl⟩))
        refine (x_note (H1.setA (doA s.L ⟨1, 0, 0, 0, 0⟩).1.old).drew (by have := HC.out; first | exact Nat.le_trans this (by decide) | (simp [Rn.note, Rn.did, Rn.setA, Rn.setB, Rn.waited, Rn.goto, Rn.noted]; omega)) 5 0).mono ?_
        rintro e w2 ⟨rfl, H2⟩
        go_wp2_with fail
        refine (xn_end H2 false).mono ?_
        rintro e w3 ⟨rfl, H3⟩
        go_wp2_with fail
        go_end0
        exact ⟨rfl, H3⟩
    · rw [if_pos (by rw [ht, hq, hu, hp]; simp)]
      clear hq ht hu
      go_enter Try.func41, Try.ntmps41
      go_wp2_with fail
      go_quiet (fail)
      have HW := HH.out.drewN nq
      clear z0 z2 z4 z5 z6 z7
      generalize w.drewN nq = W at HW ⊢
      obtain ⟨z0, z2, z4, z5, z6, z7⟩ := HW.facts hop hl rfl rfl
      go_wp2_with fail
      refine (xn_load HW 0).mono ?_
      rintro e w1 ⟨rfl, H1⟩
      obtain ⟨x0, x2, x4, x5, x6, x7⟩ := H1.facts hop hl rfl rfl
      go_wp2_with fail
      obtain ⟨y0, y2, y4, y5, y6, y7⟩ := (H1.setA (doA s.L ⟨1, 0, 0, 0, 0⟩).1.old).facts hop hl (y := (doA s.L ⟨1, 0, 0, 0, 0⟩).1.old) rfl rfl
      first | (go_region_with (first | (go_at_call 108; refine (HI.out _).mono ?_; rintro e w8 ⟨rfl, rfl⟩) | (go_at_call 109; refine (HO.out _).mono ?_; rintro e w9 ⟨rfl, rfl⟩))) | fail
      all_goals
        go_wp2_with (first | (go_at_call 108; refine (HI.out _).mono ?_; rintro e w8 ⟨rfl, rfl⟩) | (go_at_call 109; refine (HO.out _).mono ?_; rintro e w9 ⟨rfl, rfl⟩) | (go_at_call 112; refine (HR.out _).mono ?_; rintro e w7 ⟨rfl, rfl⟩))
        go_end0
        exact ⟨rfl, ((H1.setA (doA s.L ⟨1, 0, 0, 0, 0⟩).1.old).drew.goto 1)⟩
  · have e1 : (t == q) = false := by simpa using hb
    have e2 : (q == t) = false := by simpa using fun h => hb h.symm
    rw [if_neg (by rw [ht, hq, e1]; simp)]
    clear hq ht hu
    go_enter Try.func41, Try.ntmps41
    go_wp2_with fail
    go_quiet (fail)
    have HW := HH.out.drewN nq
    clear z0 z2 z4 z5 z6 z7
    generalize w.drewN nq = W at HW ⊢
    obtain ⟨z0, z2, z4, z5, z6, z7⟩ := HW.facts hop hl rfl rfl
    go_wp2_with fail
    refine (xn_load HW 0).mono ?_
    rintro e w1 ⟨rfl, H1⟩
    obtain ⟨x0, x2, x4, x5, x6, x7⟩ := H1.facts hop hl rfl rfl
    go_wp2_with fail
    obtain ⟨y0, y2, y4, y5, y6, y7⟩ := (H1.setA (doA s.L ⟨1, 0, 0, 0, 0⟩).1.old).facts hop hl (y := (doA s.L ⟨1, 0, 0, 0, 0⟩).1.old) rfl rfl
    first | (go_region_with (first | (go_at_call 108; refine (HI.out _).mono ?_; rintro e w8 ⟨rfl, rfl⟩) | (go_at_call 109; refine (HO.out _).mono ?_; rintro e w9 ⟨rfl, rfl⟩))) | fail
    all_goals
      go_wp2_with (first | (go_at_call 108; refine (HI.out _).mono ?_; rintro e w8 ⟨rfl, rfl⟩) | (go_at_call 109; refine (HO.out _).mono ?_; rintro e w9 ⟨rfl, rfl⟩) | (go_at_call 112; refine (HR.out _).mono ?_; rintro e w7 ⟨rfl, rfl⟩))
      refine (x_note (H1.setA (doA s.L ⟨1, 0, 0, 0, 0⟩).1.old).drew (by have := HC.out; first | exact Nat.le_trans this (by decide) | (simp [Rn.note, Rn.did, Rn.setA, Rn.setB, Rn.waited, Rn.goto, Rn.noted]; omega)) 5 0).mono ?_
      rintro e w2 ⟨rfl, H2⟩
      go_wp2_with fail
      refine (xn_end H2 false).mono ?_
      rintro e w3 ⟨rfl, H3⟩
      go_wp2_with fail
      go_end0
      exact ⟨rfl, H3⟩

set_option maxHeartbeats 1600000 in
set_option maxRecDepth 100000 in
theorem xwf_70 {S0 : List Nat} {w0 w : World} {p : Option Addr} {g cap x : Nat} {rs : List Res} {s : Rn} (H : XHas S0 w0 p g cap x rs s w) (hop : s.f.op = 7) (hl : s.f.line = 0) (ha : 0 ≤ s.f.a ∧ s.f.a < 4294967296) (hc : s.notes.length ≤ 900) :
    Calls Try.prog 41 #[.pointer (some ⟨x, 0, none⟩)] w fun e w' => e = .returned (.tuple #[]) ∧ XHas S0 w0 p g cap x rs (wf70 s) w' := by
  obtain ⟨z0, z2, z4, z5, z6, z7⟩ := H.facts hop hl rfl rfl
  have HC := Lib.hid hc
  have HA := Lib.hid ha
  have HH := Lib.hid H
  clear hc H ha
  unfold wf70
  unfold Rn.wchosen wfCalm
  dsimp only
  have hv := HH.out.old ⟨1, 0, 0, 0, 0⟩
  have hi := fun W => refwf_I (doA s.L ⟨1, 0, 0, 0, 0⟩).1.old W hv
  have ho := fun W => refwf_O (doA s.L ⟨1, 0, 0, 0, 0⟩).1.old W hv
  have hr := fun W => refwf_R (doA s.L ⟨1, 0, 0, 0, 0⟩).1.old W hv
  obtain ⟨q, hq⟩ : ∃ q, wfG (doA s.L ⟨1, 0, 0, 0, 0⟩).1.old = q := ⟨_, rfl⟩
  obtain ⟨t, ht⟩ : ∃ t, wfT (doA s.L ⟨1, 0, 0, 0, 0⟩).1.old = t := ⟨_, rfl⟩
  obtain ⟨u, hu⟩ : ∃ u, wfR (doA s.L ⟨1, 0, 0, 0, 0⟩).1.old = u := ⟨_, rfl⟩
  rw [hq] at hi
  rw [ht] at ho
  rw [hu] at hr
  have HI := Lib.hid hi
  have HO := Lib.hid ho
  have HR := Lib.hid hr
  clear hi ho hr hv
  by_cases hb : t = q
  · subst hb
    have e1 : (t == t) = true := by simp
    cases hp : (u == 1)
    · rw [if_neg (by rw [ht, hq, hu, hp]; simp)]
      clear hq ht hu
      go_enter Try.func41, Try.ntmps41
      go_wp2_with fail
      go_quiet (fail)
      have HW := HH.out.drewN nq
      clear z0 z2 z4 z5 z6 z7
      generalize w.drewN nq = W at HW ⊢
      obtain ⟨z0, z2, z4, z5, z6, z7⟩ := HW.facts hop hl rfl rfl
      go_wp2_with fail
      refine (xn_load HW 0).mono ?_
      rintro e w1 ⟨rfl, H1⟩
      obtain ⟨x0, x2, x4, x5, x6, x7⟩ := H1.facts hop hl rfl rfl
      go_wp2_with fail
      obtain ⟨y0, y2, y4, y5, y6, y7⟩ := (H1.setA (doA s.L ⟨1, 0, 0, 0, 0⟩).1.old).facts hop hl (y := (doA s.L ⟨1, 0, 0, 0, 0⟩).1.old) rfl rfl
      first | (go_region_with (first | (go_at_call 108; refine (HI.out _).mono ?_; rintro e w8 ⟨rfl, rfl⟩) | (go_at_call 109; refine (HO.out _).mono ?_; rintro e w9 ⟨rfl, rfl⟩))) | fail
      all_goals
        go_wp2_with (first | (go_at_call 108; refine (HI.out _).mono ?_; rintro e w8 ⟨rfl, rfl⟩) | (go_at_call 109; refine (HO.out _).mono ?_; rintro e w9 ⟨rfl, rfl⟩) | (go_at_call 112; refine (HR.out _).mono ?_; rintro e w7 ⟨rfl, rfl⟩))
        refine (x_note (H1.setA (doA s.L ⟨1, 0, 0, 0, 0⟩).1.old).drew (by have := HC.out; first | exact Nat.le_trans this (by decide) | (simp [Rn.note, Rn.did, Rn.setA, Rn.setB, Rn.waited, Rn.goto, Rn.noted]; omega)) 5 0).mono ?_
        rintro e w2 ⟨rfl, H2⟩
        go_wp2_with fail
        refine (xn_end H2 false).mono ?_
        rintro e w3 ⟨rfl, H3⟩
        go_wp2_with fail
        go_end0
        exact ⟨rfl, H3⟩
    · rw [if_pos (by rw [ht, hq, hu, hp]; simp)]
      clear hq ht hu
      go_enter Try.func41, Try.ntmps41
      go_wp2_with fail
      go_quiet (fail)
      have HW := HH.out.drewN nq
      clear z0 z2 z4 z5 z6 z7
      generalize w.drewN nq = W at HW ⊢
      obtain ⟨z0, z2, z4, z5, z6, z7⟩ := HW.facts hop hl rfl rfl
      go_wp2_with fail
      refine (xn_load HW 0).mono ?_
      rintro e w1 ⟨rfl, H1⟩
      obtain ⟨x0, x2, x4, x5, x6, x7⟩ := H1.facts hop hl rfl rfl
      go_wp2_with fail
      obtain ⟨y0, y2, y4, y5, y6, y7⟩ := (H1.setA (doA s.L ⟨1, 0, 0, 0, 0⟩).1.old).facts hop hl (y := (doA s.L ⟨1, 0, 0, 0, 0⟩).1.old) rfl rfl
      first | (go_region_with (first | (go_at_call 108; refine (HI.out _).mono ?_; rintro e w8 ⟨rfl, rfl⟩) | (go_at_call 109; refine (HO.out _).mono ?_; rintro e w9 ⟨rfl, rfl⟩))) | fail
      all_goals
        go_wp2_with (first | (go_at_call 108; refine (HI.out _).mono ?_; rintro e w8 ⟨rfl, rfl⟩) | (go_at_call 109; refine (HO.out _).mono ?_; rintro e w9 ⟨rfl, rfl⟩) | (go_at_call 112; refine (HR.out _).mono ?_; rintro e w7 ⟨rfl, rfl⟩))
        go_end0
        exact ⟨rfl, ((H1.setA (doA s.L ⟨1, 0, 0, 0, 0⟩).1.old).drew.goto 1)⟩
  · have e1 : (t == q) = false := by simpa using hb
    have e2 : (q == t) = false := by simpa using fun h => hb h.symm
    rw [if_neg (by rw [ht, hq, e1]; simp)]
    clear hq ht hu
    go_enter Try.func41, Try.ntmps41
    go_wp2_with fail
    go_quiet (fail)
    have HW := HH.out.drewN nq
    clear z0 z2 z4 z5 z6 z7
    generalize w.drewN nq = W at HW ⊢
    obtain ⟨z0, z2, z4, z5, z6, z7⟩ := HW.facts hop hl rfl rfl
    go_wp2_with fail
    refine (xn_load HW 0).mono ?_
    rintro e w1 ⟨rfl, H1⟩
    obtain ⟨x0, x2, x4, x5, x6, x7⟩ := H1.facts hop hl rfl rfl
    go_wp2_with fail
    obtain ⟨y0, y2, y4, y5, y6, y7⟩ := (H1.setA (doA s.L ⟨1, 0, 0, 0, 0⟩).1.old).facts hop hl (y := (doA s.L ⟨1, 0, 0, 0, 0⟩).1.old) rfl rfl
    first | (go_region_with (first | (go_at_call 108; refine (HI.out _).mono ?_; rintro e w8 ⟨rfl, rfl⟩) | (go_at_call 109; refine (HO.out _).mono ?_; rintro e w9 ⟨rfl, rfl⟩))) | fail
    all_goals
      go_wp2_with (first | (go_at_call 108; refine (HI.out _).mono ?_; rintro e w8 ⟨rfl, rfl⟩) | (go_at_call 109; refine (HO.out _).mono ?_; rintro e w9 ⟨rfl, rfl⟩) | (go_at_call 112; refine (HR.out _).mono ?_; rintro e w7 ⟨rfl, rfl⟩))
      refine (x_note (H1.setA (doA s.L ⟨1, 0, 0, 0, 0⟩).1.old).drew (by have := HC.out; first | exact Nat.le_trans this (by decide) | (simp [Rn.note, Rn.did, Rn.setA, Rn.setB, Rn.waited, Rn.goto, Rn.noted]; omega)) 5 0).mono ?_
      rintro e w2 ⟨rfl, H2⟩
      go_wp2_with fail
      refine (xn_end H2 false).mono ?_
      rintro e w3 ⟨rfl, H3⟩
      go_wp2_with fail
      go_end0
      exact ⟨rfl, H3⟩

end Go.Proofs.Ytlndihdlodempaa.Z
