/- Package rf: its lines. Written by genrf2.py. -/
import Derived.Test.YtdffdppkdbbdoaaZRf
set_option linter.unusedVariables false
set_option linter.unusedSimpArgs false
namespace Go.Proofs.Ytdffdppkdbbdoaa.Z
open Go.RowKit

attribute [local go_sem ↓] Go.wp_at_zero Go.wp_at_succ

def rf10 (s : Rn) : Rn :=
  let s1 := ((s.did (doA s.L ⟨3, 0, 1, 0, 0⟩)).setA (doA s.L ⟨3, 0, 1, 0, 0⟩).1.old).note 2 1
  if rfIn (doA s.L ⟨3, 0, 1, 0, 0⟩).1.old then s1.goto 1 else s1.ends false [4]

set_option maxHeartbeats 800000 in
theorem rf_10 {S0 : List Nat} {w0 w : World} {m a r : Nat} {rs : List Res} {s : Rn} (H : RunHas S0 w0 m a r rs s w) (hop : s.f.op = 1) (hl : s.f.line = 0) (hn : I64 s.n) (hc : s.notes.length ≤ 900) :
    Calls Try.prog 20 #[.pointer (some ⟨r, 0, none⟩)] w fun e w' => e = .returned (.tuple #[]) ∧ RunHas S0 w0 m a r rs (rf10 s) w' := by
  obtain ⟨z0, z2, z4, z5, z6, z7⟩ := H.facts hop hl rfl rfl
  have HC := Lib.hid hc
  have HH := Lib.hid H
  have HN := Lib.hid hn
  clear hc H hn
  unfold rf10
  cases hb : rfIn (doA s.L ⟨3, 0, 1, 0, 0⟩).1.old with
  | true =>
    simp only [if_true]
    go_enter Try.func20, Try.ntmps20
    go_wp2_with fail
    go_quiet (fail)
    have HW := HH.out.drewN nq
    clear z0 z2 z4 z5 z6 z7
    generalize w.drewN nq = W at HW ⊢
    obtain ⟨z0, z2, z4, z5, z6, z7⟩ := HW.facts hop hl rfl rfl
    go_wp2_with fail
    refine (rn_add HW 0 1 (by decide)).mono ?_
    rintro e w1 ⟨rfl, H1⟩
    obtain ⟨x0, x2, x4, x5, x6, x7⟩ := H1.facts hop hl rfl rfl
    go_wp2_with fail
    refine (run_note (H1.setA (doA s.L ⟨3, 0, 1, 0, 0⟩).1.old) (by have := HC.out; first | exact Nat.le_trans this (by decide) | (simp [Rn.note, Rn.did, Rn.setA, Rn.setB, Rn.waited, Rn.goto, Rn.noted]; omega)) 2 1).mono ?_
    rintro e w2 ⟨rfl, H2⟩
    obtain ⟨x0, x2, x4, x5, x6, x7⟩ := H2.facts hop hl (x := (doA s.L ⟨3, 0, 1, 0, 0⟩).1.old) rfl rfl
    go_wp2_with fail
    refine (rf_in _ _).mono ?_
    rw [hb]
    rintro e w9 ⟨rfl, rfl⟩
    go_wp2_with fail
    refine (rn_go H2 1).mono ?_
    rintro e w3 ⟨rfl, H3⟩
    go_wp2_with fail
    go_end0
    exact ⟨rfl, H3⟩
  | false =>
    simp only [Bool.false_eq_true, if_false]
    go_enter Try.func20, Try.ntmps20
    go_wp2_with fail
    go_quiet (fail)
    have HW := HH.out.drewN nq
    clear z0 z2 z4 z5 z6 z7
    generalize w.drewN nq = W at HW ⊢
    obtain ⟨z0, z2, z4, z5, z6, z7⟩ := HW.facts hop hl rfl rfl
    go_wp2_with fail
    refine (rn_add HW 0 1 (by decide)).mono ?_
    rintro e w1 ⟨rfl, H1⟩
    obtain ⟨x0, x2, x4, x5, x6, x7⟩ := H1.facts hop hl rfl rfl
    go_wp2_with fail
    refine (run_note (H1.setA (doA s.L ⟨3, 0, 1, 0, 0⟩).1.old) (by have := HC.out; first | exact Nat.le_trans this (by decide) | (simp [Rn.note, Rn.did, Rn.setA, Rn.setB, Rn.waited, Rn.goto, Rn.noted]; omega)) 2 1).mono ?_
    rintro e w2 ⟨rfl, H2⟩
    obtain ⟨x0, x2, x4, x5, x6, x7⟩ := H2.facts hop hl (x := (doA s.L ⟨3, 0, 1, 0, 0⟩).1.old) rfl rfl
    go_wp2_with fail
    refine (rf_in _ _).mono ?_
    rw [hb]
    rintro e w9 ⟨rfl, rfl⟩
    go_wp2_with fail
    refine (rf_end (l := [4]) (H2.box rfl _ _) rfl (by have := HC.out; simp [Rn.note, Rn.did, Rn.setA, Rn.setB, Rn.waited, Rn.goto]; omega) false).mono ?_
    rintro e w3 ⟨rfl, H3⟩
    go_wp2_with fail
    go_end0
    exact ⟨rfl, H3.unbox⟩

def rf11 (s : Rn) : Rn :=
  let s1 := s.waited (waitA s.L s.n s.mode s.task s.f.st 0 (fun v => !rfIn v))
  let s2 := if (waitA s.L s.n s.mode s.task s.f.st 0 (fun v => !rfIn v)).seen then s1.note 4 0 else s1
  if (waitA s.L s.n s.mode s.task s.f.st 0 (fun v => !rfIn v)).done then s2.fin true else s2

set_option maxHeartbeats 800000 in
theorem rf_11 {S0 : List Nat} {w0 w : World} {m a r : Nat} {rs : List Res} {s : Rn} (H : RunHas S0 w0 m a r rs s w) (hop : s.f.op = 1) (hl : s.f.line = 1) (hn : I64 s.n) (hc : s.notes.length ≤ 900) :
    Calls Try.prog 20 #[.pointer (some ⟨r, 0, none⟩)] w fun e w' => e = .returned (.tuple #[]) ∧ RunHas S0 w0 m a r rs (rf11 s) w' := by
  obtain ⟨z0, z2, z4, z5, z6, z7⟩ := H.facts hop hl rfl rfl
  have HC := Lib.hid hc
  have HH := Lib.hid H
  have HN := Lib.hid hn
  clear hc H hn
  unfold rf11
  have hwt := fun (V : World) W (H : RunHas S0 w0 m a r rs s W) => rn_wait H HN.out 0 52 #[] #[] (fun v => !rfIn v) (enters_of Try.func52 (by kernel_rfl) rfl) (fun W v _ _ _ => rf_free v W)
  cases hs : (waitA s.L s.n s.mode s.task s.f.st 0 (fun v => !rfIn v)).seen <;> cases hd : (waitA s.L s.n s.mode s.task s.f.st 0 (fun v => !rfIn v)).done <;> rw [hs, hd] at hwt <;> simp only [if_true, Bool.false_eq_true, if_false] <;> (have HWT := Lib.hid hwt) <;> clear hwt hs hd
  · go_enter Try.func20, Try.ntmps20
    go_wp2_with fail
    go_quiet (fail)
    have HW := HH.out.drewN nq
    clear z0 z2 z4 z5 z6 z7
    generalize w.drewN nq = W at HW ⊢
    obtain ⟨z0, z2, z4, z5, z6, z7⟩ := HW.facts hop hl rfl rfl
    go_wp2_with fail
    refine (HWT.out W _ HW).mono ?_
    rintro e w1 ⟨rfl, H1⟩
    obtain ⟨x0, x2, x4, x5, x6, x7⟩ := H1.facts hop hl rfl rfl
    go_wp2_with fail
    go_end0
    exact ⟨rfl, H1⟩
  · go_enter Try.func20, Try.ntmps20
    go_wp2_with fail
    go_quiet (fail)
    have HW := HH.out.drewN nq
    clear z0 z2 z4 z5 z6 z7
    generalize w.drewN nq = W at HW ⊢
    obtain ⟨z0, z2, z4, z5, z6, z7⟩ := HW.facts hop hl rfl rfl
    go_wp2_with fail
    refine (HWT.out W _ HW).mono ?_
    rintro e w1 ⟨rfl, H1⟩
    obtain ⟨x0, x2, x4, x5, x6, x7⟩ := H1.facts hop hl rfl rfl
    go_wp2_with fail
    refine (rn_end H1 true).mono ?_
    rintro e w2 ⟨rfl, H2⟩
    go_wp2_with fail
    go_end0
    exact ⟨rfl, H2⟩
  · go_enter Try.func20, Try.ntmps20
    go_wp2_with fail
    go_quiet (fail)
    have HW := HH.out.drewN nq
    clear z0 z2 z4 z5 z6 z7
    generalize w.drewN nq = W at HW ⊢
    obtain ⟨z0, z2, z4, z5, z6, z7⟩ := HW.facts hop hl rfl rfl
    go_wp2_with fail
    refine (HWT.out W _ HW).mono ?_
    rintro e w1 ⟨rfl, H1⟩
    obtain ⟨x0, x2, x4, x5, x6, x7⟩ := H1.facts hop hl rfl rfl
    go_wp2_with fail
    refine (run_note H1 (by have := HC.out; first | exact Nat.le_trans this (by decide) | (simp [Rn.note, Rn.did, Rn.setA, Rn.setB, Rn.waited, Rn.goto, Rn.noted]; omega)) 4 0).mono ?_
    rintro e w2 ⟨rfl, H2⟩
    obtain ⟨x0, x2, x4, x5, x6, x7⟩ := H2.facts hop hl rfl rfl
    go_wp2_with fail
    go_end0
    exact ⟨rfl, H2⟩
  · go_enter Try.func20, Try.ntmps20
    go_wp2_with fail
    go_quiet (fail)
    have HW := HH.out.drewN nq
    clear z0 z2 z4 z5 z6 z7
    generalize w.drewN nq = W at HW ⊢
    obtain ⟨z0, z2, z4, z5, z6, z7⟩ := HW.facts hop hl rfl rfl
    go_wp2_with fail
    refine (HWT.out W _ HW).mono ?_
    rintro e w1 ⟨rfl, H1⟩
    obtain ⟨x0, x2, x4, x5, x6, x7⟩ := H1.facts hop hl rfl rfl
    go_wp2_with fail
    refine (run_note H1 (by have := HC.out; first | exact Nat.le_trans this (by decide) | (simp [Rn.note, Rn.did, Rn.setA, Rn.setB, Rn.waited, Rn.goto, Rn.noted]; omega)) 4 0).mono ?_
    rintro e w2 ⟨rfl, H2⟩
    obtain ⟨x0, x2, x4, x5, x6, x7⟩ := H2.facts hop hl rfl rfl
    go_wp2_with fail
    refine (rn_end H2 true).mono ?_
    rintro e w3 ⟨rfl, H3⟩
    go_wp2_with fail
    go_end0
    exact ⟨rfl, H3⟩

def rf20 (s : Rn) : Rn :=
  (s.did (doA s.L ⟨3, 0, 4294967295, 0, 0⟩)).ends true [6]

set_option maxHeartbeats 800000 in
theorem rf_20 {S0 : List Nat} {w0 w : World} {m a r : Nat} {rs : List Res} {s : Rn} (H : RunHas S0 w0 m a r rs s w) (hop : s.f.op = 2) (hl : s.f.line = 0) (hn : I64 s.n) (hc : s.notes.length ≤ 900) :
    Calls Try.prog 20 #[.pointer (some ⟨r, 0, none⟩)] w fun e w' => e = .returned (.tuple #[]) ∧ RunHas S0 w0 m a r rs (rf20 s) w' := by
  obtain ⟨z0, z2, z4, z5, z6, z7⟩ := H.facts hop hl rfl rfl
  have HC := Lib.hid hc
  have HH := Lib.hid H
  have HN := Lib.hid hn
  clear hc H hn
  unfold rf20
  go_enter Try.func20, Try.ntmps20
  go_wp2_with fail
  go_quiet (fail)
  have HW := HH.out.drewN nq
  clear z0 z2 z4 z5 z6 z7
  generalize w.drewN nq = W at HW ⊢
  obtain ⟨z0, z2, z4, z5, z6, z7⟩ := HW.facts hop hl rfl rfl
  go_wp2_with fail
  refine (rn_add HW 0 4294967295 (by decide)).mono ?_
  rintro e w1 ⟨rfl, H1⟩
  obtain ⟨x0, x2, x4, x5, x6, x7⟩ := H1.facts hop hl rfl rfl
  go_wp2_with fail
  refine (rf_end (l := [6]) (H1.box rfl _ _) rfl (by have := HC.out; simp [Rn.note, Rn.did, Rn.setA, Rn.setB, Rn.waited, Rn.goto]; omega) true).mono ?_
  rintro e w2 ⟨rfl, H2⟩
  go_wp2_with fail
  go_end0
  exact ⟨rfl, H2.unbox⟩

def rf30 (s : Rn) : Rn :=
  let s1 := (((s.did (doA s.L ⟨1, 0, 0, 0, 0⟩)).setA (doA s.L ⟨1, 0, 0, 0, 0⟩).1.old).note 2 2).goto 2
  if (doA s.L ⟨1, 0, 0, 0, 0⟩).1.old = 0 then s1.goto 1 else s1

set_option maxHeartbeats 800000 in
theorem rf_30 {S0 : List Nat} {w0 w : World} {m a r : Nat} {rs : List Res} {s : Rn} (H : RunHas S0 w0 m a r rs s w) (hop : s.f.op = 3) (hl : s.f.line = 0) (hn : I64 s.n) (hc : s.notes.length ≤ 900) :
    Calls Try.prog 20 #[.pointer (some ⟨r, 0, none⟩)] w fun e w' => e = .returned (.tuple #[]) ∧ RunHas S0 w0 m a r rs (rf30 s) w' := by
  obtain ⟨z0, z2, z4, z5, z6, z7⟩ := H.facts hop hl rfl rfl
  have HC := Lib.hid hc
  have HH := Lib.hid H
  have HN := Lib.hid hn
  clear hc H hn
  unfold rf30
  by_cases hv : (doA s.L ⟨1, 0, 0, 0, 0⟩).1.old = 0
  · simp only [if_pos hv]
    have HV := Lib.hid hv
    clear hv
    go_enter Try.func20, Try.ntmps20
    go_wp2_with fail
    go_quiet (fail)
    have HW := HH.out.drewN nq
    clear z0 z2 z4 z5 z6 z7
    generalize w.drewN nq = W at HW ⊢
    obtain ⟨z0, z2, z4, z5, z6, z7⟩ := HW.facts hop hl rfl rfl
    go_wp2_with fail
    refine (rn_load HW 0).mono ?_
    rintro e w1 ⟨rfl, H1⟩
    obtain ⟨x0, x2, x4, x5, x6, x7⟩ := H1.facts hop hl rfl rfl
    go_wp2_with fail
    refine (run_note (H1.setA (doA s.L ⟨1, 0, 0, 0, 0⟩).1.old) (by have := HC.out; first | exact Nat.le_trans this (by decide) | (simp [Rn.note, Rn.did, Rn.setA, Rn.setB, Rn.waited, Rn.goto, Rn.noted]; omega)) 2 2).mono ?_
    rintro e w2 ⟨rfl, H2⟩
    obtain ⟨x0, x2, x4, x5, x6, x7⟩ := H2.facts hop hl (x := (doA s.L ⟨1, 0, 0, 0, 0⟩).1.old) rfl rfl
    go_wp2_with fail
    refine (rn_go H2 2).mono ?_
    rintro e w3 ⟨rfl, H3⟩
    obtain ⟨x0, x2, x4, x5, x6, x7⟩ := H3.facts hop (l := 2) rfl (x := (doA s.L ⟨1, 0, 0, 0, 0⟩).1.old) rfl rfl
    rw [HV.out] at x6
    go_wp2_with fail
    refine (rn_go H3 1).mono ?_
    rintro e w4 ⟨rfl, H4⟩
    go_wp2_with fail
    go_end0
    exact ⟨rfl, H4⟩
  · simp only [if_neg hv]
    have HV := Lib.hid hv
    clear hv
    go_enter Try.func20, Try.ntmps20
    go_wp2_with fail
    go_quiet (fail)
    have HW := HH.out.drewN nq
    clear z0 z2 z4 z5 z6 z7
    generalize w.drewN nq = W at HW ⊢
    obtain ⟨z0, z2, z4, z5, z6, z7⟩ := HW.facts hop hl rfl rfl
    go_wp2_with fail
    refine (rn_load HW 0).mono ?_
    rintro e w1 ⟨rfl, H1⟩
    obtain ⟨x0, x2, x4, x5, x6, x7⟩ := H1.facts hop hl rfl rfl
    go_wp2_with fail
    refine (run_note (H1.setA (doA s.L ⟨1, 0, 0, 0, 0⟩).1.old) (by have := HC.out; first | exact Nat.le_trans this (by decide) | (simp [Rn.note, Rn.did, Rn.setA, Rn.setB, Rn.waited, Rn.goto, Rn.noted]; omega)) 2 2).mono ?_
    rintro e w2 ⟨rfl, H2⟩
    obtain ⟨x0, x2, x4, x5, x6, x7⟩ := H2.facts hop hl (x := (doA s.L ⟨1, 0, 0, 0, 0⟩).1.old) rfl rfl
    go_wp2_with fail
    refine (rn_go H2 2).mono ?_
    rintro e w3 ⟨rfl, H3⟩
    obtain ⟨x0, x2, x4, x5, x6, x7⟩ := H3.facts hop (l := 2) rfl (x := (doA s.L ⟨1, 0, 0, 0, 0⟩).1.old) rfl rfl
    have hne : ((doA s.L ⟨1, 0, 0, 0, 0⟩).1.old == 0) = false := by simpa using HV.out
    go_wp2_with fail
    go_end0
    exact ⟨rfl, H3⟩

def rf31 (s : Rn) : Rn :=
  let s1 := s.did (doA s.L ⟨5, 0, 0, 65536, 0⟩)
  if casB s.L 0 0 65536 then s1.ends false [4] else s1.goto 2

set_option maxHeartbeats 800000 in
theorem rf_31 {S0 : List Nat} {w0 w : World} {m a r : Nat} {rs : List Res} {s : Rn} (H : RunHas S0 w0 m a r rs s w) (hop : s.f.op = 3) (hl : s.f.line = 1) (hn : I64 s.n) (hc : s.notes.length ≤ 900) :
    Calls Try.prog 20 #[.pointer (some ⟨r, 0, none⟩)] w fun e w' => e = .returned (.tuple #[]) ∧ RunHas S0 w0 m a r rs (rf31 s) w' := by
  obtain ⟨z0, z2, z4, z5, z6, z7⟩ := H.facts hop hl rfl rfl
  have HC := Lib.hid hc
  have HH := Lib.hid H
  have HN := Lib.hid hn
  clear hc H hn
  unfold rf31
  have hcas := fun W (H : RunHas S0 w0 m a r rs s W) => rn_cas H 0 0 65536 (by decide) (by decide)
  cases hb : casB s.L 0 0 65536 with
  | true =>
    rw [hb] at hcas
    have HCAS := Lib.hid hcas
    clear hcas
    simp only [if_true]
    go_enter Try.func20, Try.ntmps20
    go_wp2_with fail
    go_quiet (fail)
    have HW := HH.out.drewN nq
    clear z0 z2 z4 z5 z6 z7
    generalize w.drewN nq = W at HW ⊢
    obtain ⟨z0, z2, z4, z5, z6, z7⟩ := HW.facts hop hl rfl rfl
    go_wp2_with fail
    refine (HCAS.out _ HW).mono ?_
    rintro e w1 ⟨rfl, H1⟩
    obtain ⟨x0, x2, x4, x5, x6, x7⟩ := H1.facts hop hl rfl rfl
    go_wp2_with fail
    refine (rf_end (l := [4]) (H1.box rfl _ _) rfl (by have := HC.out; simp [Rn.note, Rn.did, Rn.setA, Rn.setB, Rn.waited, Rn.goto]; omega) false).mono ?_
    rintro e w2 ⟨rfl, H2⟩
    go_wp2_with fail
    go_end0
    exact ⟨rfl, H2.unbox⟩
  | false =>
    rw [hb] at hcas
    have HCAS := Lib.hid hcas
    clear hcas
    simp only [Bool.false_eq_true, if_false]
    go_enter Try.func20, Try.ntmps20
    go_wp2_with fail
    go_quiet (fail)
    have HW := HH.out.drewN nq
    clear z0 z2 z4 z5 z6 z7
    generalize w.drewN nq = W at HW ⊢
    obtain ⟨z0, z2, z4, z5, z6, z7⟩ := HW.facts hop hl rfl rfl
    go_wp2_with fail
    refine (HCAS.out _ HW).mono ?_
    rintro e w1 ⟨rfl, H1⟩
    obtain ⟨x0, x2, x4, x5, x6, x7⟩ := H1.facts hop hl rfl rfl
    go_wp2_with fail
    refine (rn_go H1 2).mono ?_
    rintro e w2 ⟨rfl, H2⟩
    go_wp2_with fail
    go_end0
    exact ⟨rfl, H2⟩

def rf32 (s : Rn) : Rn :=
  let s1 := s.waited (waitA s.L s.n s.mode s.task s.f.st 0 (fun v => v == 0))
  if (waitA s.L s.n s.mode s.task s.f.st 0 (fun v => v == 0)).done then s1.goto 1 else s1

set_option maxHeartbeats 800000 in
theorem rf_32 {S0 : List Nat} {w0 w : World} {m a r : Nat} {rs : List Res} {s : Rn} (H : RunHas S0 w0 m a r rs s w) (hop : s.f.op = 3) (hl : s.f.line = 2) (hn : I64 s.n) (hc : s.notes.length ≤ 900) :
    Calls Try.prog 20 #[.pointer (some ⟨r, 0, none⟩)] w fun e w' => e = .returned (.tuple #[]) ∧ RunHas S0 w0 m a r rs (rf32 s) w' := by
  obtain ⟨z0, z2, z4, z5, z6, z7⟩ := H.facts hop hl rfl rfl
  have HC := Lib.hid hc
  have HH := Lib.hid H
  have HN := Lib.hid hn
  clear hc H hn
  unfold rf32
  have hwt := fun (V : World) W (H : RunHas S0 w0 m a r (.blk V.heap.size #[.int .u32 0] :: rs) s W) => rn_wait H HN.out 0 86 #[] #[.pointer (some ⟨V.heap.size, 0, none⟩)] (fun v => v == 0) (enters_of Try.func86 (by kernel_rfl) rfl) (fun W v _ _ H => rf_is1 0 v W H.first)
  cases hs : (waitA s.L s.n s.mode s.task s.f.st 0 (fun v => v == 0)).seen <;> cases hd : (waitA s.L s.n s.mode s.task s.f.st 0 (fun v => v == 0)).done <;> rw [hs, hd] at hwt <;> simp only [if_true, Bool.false_eq_true, if_false] <;> (have HWT := Lib.hid hwt) <;> clear hwt hs hd
  · go_enter Try.func20, Try.ntmps20
    go_wp2_with fail
    go_quiet (fail)
    have HW := HH.out.drewN nq
    clear z0 z2 z4 z5 z6 z7
    generalize w.drewN nq = W at HW ⊢
    obtain ⟨z0, z2, z4, z5, z6, z7⟩ := HW.facts hop hl rfl rfl
    go_wp2_with fail
    refine (rf_is 0 _).mono ?_
    rintro e w9 ⟨rfl, rfl⟩
    go_wp2_with fail
    refine (HWT.out W _ (HW.box rfl _ _)).mono ?_
    rintro e w1 ⟨rfl, H1⟩
    obtain ⟨x0, x2, x4, x5, x6, x7⟩ := H1.facts hop hl rfl rfl
    go_wp2_with fail
    go_end0
    exact ⟨rfl, H1.unbox⟩
  · go_enter Try.func20, Try.ntmps20
    go_wp2_with fail
    go_quiet (fail)
    have HW := HH.out.drewN nq
    clear z0 z2 z4 z5 z6 z7
    generalize w.drewN nq = W at HW ⊢
    obtain ⟨z0, z2, z4, z5, z6, z7⟩ := HW.facts hop hl rfl rfl
    go_wp2_with fail
    refine (rf_is 0 _).mono ?_
    rintro e w9 ⟨rfl, rfl⟩
    go_wp2_with fail
    refine (HWT.out W _ (HW.box rfl _ _)).mono ?_
    rintro e w1 ⟨rfl, H1⟩
    obtain ⟨x0, x2, x4, x5, x6, x7⟩ := H1.facts hop hl rfl rfl
    go_wp2_with fail
    refine (rn_go H1 1).mono ?_
    rintro e w2 ⟨rfl, H2⟩
    go_wp2_with fail
    go_end0
    exact ⟨rfl, H2.unbox⟩
  · go_enter Try.func20, Try.ntmps20
    go_wp2_with fail
    go_quiet (fail)
    have HW := HH.out.drewN nq
    clear z0 z2 z4 z5 z6 z7
    generalize w.drewN nq = W at HW ⊢
    obtain ⟨z0, z2, z4, z5, z6, z7⟩ := HW.facts hop hl rfl rfl
    go_wp2_with fail
    refine (rf_is 0 _).mono ?_
    rintro e w9 ⟨rfl, rfl⟩
    go_wp2_with fail
    refine (HWT.out W _ (HW.box rfl _ _)).mono ?_
    rintro e w1 ⟨rfl, H1⟩
    obtain ⟨x0, x2, x4, x5, x6, x7⟩ := H1.facts hop hl rfl rfl
    go_wp2_with fail
    go_end0
    exact ⟨rfl, H1.unbox⟩
  · go_enter Try.func20, Try.ntmps20
    go_wp2_with fail
    go_quiet (fail)
    have HW := HH.out.drewN nq
    clear z0 z2 z4 z5 z6 z7
    generalize w.drewN nq = W at HW ⊢
    obtain ⟨z0, z2, z4, z5, z6, z7⟩ := HW.facts hop hl rfl rfl
    go_wp2_with fail
    refine (rf_is 0 _).mono ?_
    rintro e w9 ⟨rfl, rfl⟩
    go_wp2_with fail
    refine (HWT.out W _ (HW.box rfl _ _)).mono ?_
    rintro e w1 ⟨rfl, H1⟩
    obtain ⟨x0, x2, x4, x5, x6, x7⟩ := H1.facts hop hl rfl rfl
    go_wp2_with fail
    refine (rn_go H1 1).mono ?_
    rintro e w2 ⟨rfl, H2⟩
    go_wp2_with fail
    go_end0
    exact ⟨rfl, H2.unbox⟩

def rf40 (s : Rn) : Rn :=
  (s.did (doA s.L ⟨3, 0, 4294901760, 0, 0⟩)).ends true [7, 8]

set_option maxHeartbeats 800000 in
theorem rf_40 {S0 : List Nat} {w0 w : World} {m a r : Nat} {rs : List Res} {s : Rn} (H : RunHas S0 w0 m a r rs s w) (hop : s.f.op = 4) (hl : s.f.line = 0) (hn : I64 s.n) (hc : s.notes.length ≤ 900) :
    Calls Try.prog 20 #[.pointer (some ⟨r, 0, none⟩)] w fun e w' => e = .returned (.tuple #[]) ∧ RunHas S0 w0 m a r rs (rf40 s) w' := by
  obtain ⟨z0, z2, z4, z5, z6, z7⟩ := H.facts hop hl rfl rfl
  have HC := Lib.hid hc
  have HH := Lib.hid H
  have HN := Lib.hid hn
  clear hc H hn
  unfold rf40
  go_enter Try.func20, Try.ntmps20
  go_wp2_with fail
  go_quiet (fail)
  have HW := HH.out.drewN nq
  clear z0 z2 z4 z5 z6 z7
  generalize w.drewN nq = W at HW ⊢
  obtain ⟨z0, z2, z4, z5, z6, z7⟩ := HW.facts hop hl rfl rfl
  go_wp2_with fail
  refine (rn_add HW 0 4294901760 (by decide)).mono ?_
  rintro e w1 ⟨rfl, H1⟩
  obtain ⟨x0, x2, x4, x5, x6, x7⟩ := H1.facts hop hl rfl rfl
  go_wp2_with fail
  refine (rf_end (l := [7, 8]) (H1.box rfl _ _) rfl (by have := HC.out; simp [Rn.note, Rn.did, Rn.setA, Rn.setB, Rn.waited, Rn.goto]; omega) true).mono ?_
  rintro e w2 ⟨rfl, H2⟩
  go_wp2_with fail
  go_end0
  exact ⟨rfl, H2.unbox⟩

def rf80 (s : Rn) : Rn :=
  (s.did (doA s.L ⟨3, 0, 4294901761, 0, 0⟩)).ends true [10]

set_option maxHeartbeats 800000 in
theorem rf_80 {S0 : List Nat} {w0 w : World} {m a r : Nat} {rs : List Res} {s : Rn} (H : RunHas S0 w0 m a r rs s w) (hop : s.f.op = 8) (hl : s.f.line = 0) (hn : I64 s.n) (hc : s.notes.length ≤ 900) :
    Calls Try.prog 20 #[.pointer (some ⟨r, 0, none⟩)] w fun e w' => e = .returned (.tuple #[]) ∧ RunHas S0 w0 m a r rs (rf80 s) w' := by
  obtain ⟨z0, z2, z4, z5, z6, z7⟩ := H.facts hop hl rfl rfl
  have HC := Lib.hid hc
  have HH := Lib.hid H
  have HN := Lib.hid hn
  clear hc H hn
  unfold rf80
  go_enter Try.func20, Try.ntmps20
  go_wp2_with fail
  go_quiet (fail)
  have HW := HH.out.drewN nq
  clear z0 z2 z4 z5 z6 z7
  generalize w.drewN nq = W at HW ⊢
  obtain ⟨z0, z2, z4, z5, z6, z7⟩ := HW.facts hop hl rfl rfl
  go_wp2_with fail
  refine (rn_add HW 0 4294901761 (by decide)).mono ?_
  rintro e w1 ⟨rfl, H1⟩
  obtain ⟨x0, x2, x4, x5, x6, x7⟩ := H1.facts hop hl rfl rfl
  go_wp2_with fail
  refine (rf_end (l := [10]) (H1.box rfl _ _) rfl (by have := HC.out; simp [Rn.note, Rn.did, Rn.setA, Rn.setB, Rn.waited, Rn.goto]; omega) true).mono ?_
  rintro e w2 ⟨rfl, H2⟩
  go_wp2_with fail
  go_end0
  exact ⟨rfl, H2.unbox⟩

end Go.Proofs.Ytdffdppkdbbdoaa.Z
