/- Package pf: the lines of who leaves. Written by genpf2.py. -/
import Derived.Test.YtmbbcgkfankiaaaZPf
import Derived.Deep.RegionHeld3
import Derived.Deep.DrawnRows
set_option linter.unusedVariables false
set_option linter.unusedSimpArgs false
namespace Go.Proofs.Ytmbbcgkfankiaaa.Z
open Go.RowKit

attribute [local go_sem ↓] Go.wp_at_zero Go.wp_at_succ

/-- The turn is given on. -/
def Rn.pfPass (s : Rn) (ok : Bool) : Rn := (((s.did (doA s.L ⟨3, 3, 1, 0, 0⟩)).note 8 0).wake 3).fin ok
theorem pf_pass {S0 : List Nat} {w0 w : World} {m a r : Nat} {rs : List Res} {s : Rn} (H : RunHas S0 w0 m a r rs s w) (hc : s.notes.length ≤ 900) (ok : Bool) :
    Calls Try.prog 124 #[.pointer (some ⟨r, 0, none⟩), .bool ok] w fun e w' => e = .returned (.tuple #[]) ∧ RunHas S0 w0 m a r rs (s.pfPass ok) w' := by
  have HC := Lib.hid hc
  have HH := Lib.hid H
  clear hc H
  go_enter Try.func124, Try.ntmps124
  go_wp2_with fail
  refine (rn_add HH.out 3 1 (by decide)).mono ?_
  rintro e w1 ⟨rfl, H1⟩
  go_wp2_with fail
  refine (run_note H1 (by have := HC.out; first | exact Nat.le_trans this (by decide) | (simp [Rn.note, Rn.did, Rn.setA, Rn.setB, Rn.waited, Rn.goto, Rn.noted]; omega)) 8 0).mono ?_
  rintro e w2 ⟨rfl, H2⟩
  go_wp2_with fail
  refine (rn_wake H2 3).mono ?_
  rintro e w3 ⟨rfl, H3⟩
  go_wp2_with fail
  refine (rn_end H3 ok).mono ?_
  rintro e w4 ⟨rfl, H4⟩
  go_wp2_with fail
  go_end0
  exact ⟨rfl, H4⟩

def pf40 (s : Rn) : Rn :=
  ((s.did (doA s.L ⟨1, 4, 0, 0, 0⟩)).setB (doA s.L ⟨1, 4, 0, 0, 0⟩).1.old).goto 1

set_option maxHeartbeats 800000 in
theorem pf_40 {S0 : List Nat} {w0 w : World} {m a r : Nat} {rs : List Res} {s : Rn} (H : RunHas S0 w0 m a r rs s w) (hop : s.f.op = 4) (hl : s.f.line = 0) (hn : I64 s.n) (ha : 0 ≤ s.f.a ∧ s.f.a < 4294967296) (hb : 0 ≤ s.f.b ∧ s.f.b < 4294967296) (hc : s.notes.length ≤ 900) :
    Calls Try.prog 110 #[.pointer (some ⟨r, 0, none⟩)] w fun e w' => e = .returned (.tuple #[]) ∧ RunHas S0 w0 m a r rs (pf40 s) w' := by
  obtain ⟨z0, z2, z4, z5, z6, z7⟩ := H.facts hop hl rfl rfl
  have HC := Lib.hid hc
  have HA := Lib.hid ha
  have HBB := Lib.hid hb
  have HN := Lib.hid hn
  have HH := Lib.hid H
  clear hc H hn ha hb
  unfold pf40
  (try dsimp only)
  go_enter Try.func110, Try.ntmps110
  go_wp2_with fail
  refine (pf_presence _ _ HBB.out).mono ?_
  rintro e w1 ⟨rfl, rfl⟩
  go_wp2_with fail
  go_quiet (fail)
  have HW := HH.out.drewN nq
  clear z0 z2 z4 z5 z6 z7
  generalize w.drewN nq = W at HW ⊢
  obtain ⟨z0, z2, z4, z5, z6, z7⟩ := HW.facts hop hl rfl rfl
  go_wp2_with fail
  refine (rn_load HW 4).mono ?_
  rintro e w1 ⟨rfl, H1⟩
  obtain ⟨x0, x2, x4, x5, x6, x7⟩ := H1.facts hop hl rfl rfl
  go_wp2_with fail
  refine (rn_go (H1.setB (doA s.L ⟨1, 4, 0, 0, 0⟩).1.old) 1).mono ?_
  rintro e w2 ⟨rfl, H2⟩
  go_wp2_with fail
  go_end0
  exact ⟨rfl, H2⟩

def pf41 (s : Rn) : Rn :=
  (((s.did (doA s.L ⟨3, 0, (-pfP s.f.b % 4294967296), 0, 0⟩)).note 7 0).wake 0).goto 2

set_option maxHeartbeats 800000 in
theorem pf_41 {S0 : List Nat} {w0 w : World} {m a r : Nat} {rs : List Res} {s : Rn} (H : RunHas S0 w0 m a r rs s w) (hop : s.f.op = 4) (hl : s.f.line = 1) (hn : I64 s.n) (ha : 0 ≤ s.f.a ∧ s.f.a < 4294967296) (hb : 0 ≤ s.f.b ∧ s.f.b < 4294967296) (hc : s.notes.length ≤ 900) :
    Calls Try.prog 110 #[.pointer (some ⟨r, 0, none⟩)] w fun e w' => e = .returned (.tuple #[]) ∧ RunHas S0 w0 m a r rs (pf41 s) w' := by
  obtain ⟨z0, z2, z4, z5, z6, z7⟩ := H.facts hop hl rfl rfl
  have HC := Lib.hid hc
  have HA := Lib.hid ha
  have HBB := Lib.hid hb
  have HN := Lib.hid hn
  have HH := Lib.hid H
  clear hc H hn ha hb
  unfold pf41
  (try dsimp only)
  go_enter Try.func110, Try.ntmps110
  go_wp2_with fail
  refine (pf_presence _ _ HBB.out).mono ?_
  rintro e w1 ⟨rfl, rfl⟩
  go_wp2_with fail
  go_quiet (fail)
  have HW := HH.out.drewN nq
  clear z0 z2 z4 z5 z6 z7
  generalize w.drewN nq = W at HW ⊢
  obtain ⟨z0, z2, z4, z5, z6, z7⟩ := HW.facts hop hl rfl rfl
  go_wp2_with fail
  refine (rn_add HW 0 (-pfP s.f.b % 4294967296) (by omega)).mono ?_
  rintro e w1 ⟨rfl, H1⟩
  go_wp2_with fail
  refine (run_note H1 (by have := HC.out; first | exact Nat.le_trans this (by decide) | (simp [Rn.note, Rn.did, Rn.setA, Rn.setB, Rn.waited, Rn.goto, Rn.noted]; omega)) 7 0).mono ?_
  rintro e w2 ⟨rfl, H2⟩
  go_wp2_with fail
  refine (rn_wake H2 0).mono ?_
  rintro e w3 ⟨rfl, H3⟩
  go_wp2_with fail
  refine (rn_go H3 2).mono ?_
  rintro e w4 ⟨rfl, H4⟩
  go_wp2_with fail
  go_end0
  exact ⟨rfl, H4⟩

def pf42 (s : Rn) : Rn :=
  (s.did (doA s.L ⟨2, 4, (s.f.b + 1) % 4294967296, 0, 0⟩)).goto 3

set_option maxHeartbeats 800000 in
theorem pf_42 {S0 : List Nat} {w0 w : World} {m a r : Nat} {rs : List Res} {s : Rn} (H : RunHas S0 w0 m a r rs s w) (hop : s.f.op = 4) (hl : s.f.line = 2) (hn : I64 s.n) (ha : 0 ≤ s.f.a ∧ s.f.a < 4294967296) (hb : 0 ≤ s.f.b ∧ s.f.b < 4294967296) (hc : s.notes.length ≤ 900) :
    Calls Try.prog 110 #[.pointer (some ⟨r, 0, none⟩)] w fun e w' => e = .returned (.tuple #[]) ∧ RunHas S0 w0 m a r rs (pf42 s) w' := by
  obtain ⟨z0, z2, z4, z5, z6, z7⟩ := H.facts hop hl rfl rfl
  have HC := Lib.hid hc
  have HA := Lib.hid ha
  have HBB := Lib.hid hb
  have HN := Lib.hid hn
  have HH := Lib.hid H
  clear hc H hn ha hb
  unfold pf42
  (try dsimp only)
  go_enter Try.func110, Try.ntmps110
  go_wp2_with fail
  refine (pf_presence _ _ HBB.out).mono ?_
  rintro e w1 ⟨rfl, rfl⟩
  go_wp2_with fail
  go_quiet (fail)
  have HW := HH.out.drewN nq
  clear z0 z2 z4 z5 z6 z7
  generalize w.drewN nq = W at HW ⊢
  obtain ⟨z0, z2, z4, z5, z6, z7⟩ := HW.facts hop hl rfl rfl
  go_wp2_with fail
  refine (rn_store HW 4 ((s.f.b + 1) % 4294967296) (by omega)).mono ?_
  rintro e w1 ⟨rfl, H1⟩
  go_wp2_with fail
  refine (rn_go H1 3).mono ?_
  rintro e w2 ⟨rfl, H2⟩
  go_wp2_with fail
  go_end0
  exact ⟨rfl, H2⟩

def pf43 (s : Rn) : Rn :=
  s.pfPass true

set_option maxHeartbeats 800000 in
theorem pf_43 {S0 : List Nat} {w0 w : World} {m a r : Nat} {rs : List Res} {s : Rn} (H : RunHas S0 w0 m a r rs s w) (hop : s.f.op = 4) (hl : s.f.line = 3) (hn : I64 s.n) (ha : 0 ≤ s.f.a ∧ s.f.a < 4294967296) (hb : 0 ≤ s.f.b ∧ s.f.b < 4294967296) (hc : s.notes.length ≤ 900) :
    Calls Try.prog 110 #[.pointer (some ⟨r, 0, none⟩)] w fun e w' => e = .returned (.tuple #[]) ∧ RunHas S0 w0 m a r rs (pf43 s) w' := by
  obtain ⟨z0, z2, z4, z5, z6, z7⟩ := H.facts hop hl rfl rfl
  have HC := Lib.hid hc
  have HA := Lib.hid ha
  have HBB := Lib.hid hb
  have HN := Lib.hid hn
  have HH := Lib.hid H
  clear hc H hn ha hb
  unfold pf43
  (try dsimp only)
  go_enter Try.func110, Try.ntmps110
  go_wp2_with fail
  refine (pf_presence _ _ HBB.out).mono ?_
  rintro e w1 ⟨rfl, rfl⟩
  go_wp2_with fail
  go_quiet (fail)
  have HW := HH.out.drewN nq
  clear z0 z2 z4 z5 z6 z7
  generalize w.drewN nq = W at HW ⊢
  obtain ⟨z0, z2, z4, z5, z6, z7⟩ := HW.facts hop hl rfl rfl
  go_wp2_with fail
  refine (pf_pass HW HC.out true).mono ?_
  rintro e w1 ⟨rfl, H1⟩
  go_wp2_with fail
  go_end0
  exact ⟨rfl, H1⟩

def pf80 (s : Rn) : Rn :=
  ((s.did (doA s.L ⟨1, 4, 0, 0, 0⟩)).setB (doA s.L ⟨1, 4, 0, 0, 0⟩).1.old).goto 1

set_option maxHeartbeats 800000 in
theorem pf_80 {S0 : List Nat} {w0 w : World} {m a r : Nat} {rs : List Res} {s : Rn} (H : RunHas S0 w0 m a r rs s w) (hop : s.f.op = 8) (hl : s.f.line = 0) (hn : I64 s.n) (ha : 0 ≤ s.f.a ∧ s.f.a < 4294967296) (hb : 0 ≤ s.f.b ∧ s.f.b < 4294967296) (hc : s.notes.length ≤ 900) :
    Calls Try.prog 110 #[.pointer (some ⟨r, 0, none⟩)] w fun e w' => e = .returned (.tuple #[]) ∧ RunHas S0 w0 m a r rs (pf80 s) w' := by
  obtain ⟨z0, z2, z4, z5, z6, z7⟩ := H.facts hop hl rfl rfl
  have HC := Lib.hid hc
  have HA := Lib.hid ha
  have HBB := Lib.hid hb
  have HN := Lib.hid hn
  have HH := Lib.hid H
  clear hc H hn ha hb
  unfold pf80
  (try dsimp only)
  go_enter Try.func110, Try.ntmps110
  go_wp2_with fail
  refine (pf_presence _ _ HBB.out).mono ?_
  rintro e w1 ⟨rfl, rfl⟩
  go_wp2_with fail
  go_quiet (fail)
  have HW := HH.out.drewN nq
  clear z0 z2 z4 z5 z6 z7
  generalize w.drewN nq = W at HW ⊢
  obtain ⟨z0, z2, z4, z5, z6, z7⟩ := HW.facts hop hl rfl rfl
  go_wp2_with fail
  refine (rn_load HW 4).mono ?_
  rintro e w1 ⟨rfl, H1⟩
  obtain ⟨x0, x2, x4, x5, x6, x7⟩ := H1.facts hop hl rfl rfl
  go_wp2_with fail
  refine (rn_go (H1.setB (doA s.L ⟨1, 4, 0, 0, 0⟩).1.old) 1).mono ?_
  rintro e w2 ⟨rfl, H2⟩
  go_wp2_with fail
  go_end0
  exact ⟨rfl, H2⟩

def pf81 (s : Rn) : Rn :=
  (((s.did (doA s.L ⟨3, 0, ((256 - pfP s.f.b) % 4294967296), 0, 0⟩)).note 10 0).wake 0).goto 2

set_option maxHeartbeats 800000 in
theorem pf_81 {S0 : List Nat} {w0 w : World} {m a r : Nat} {rs : List Res} {s : Rn} (H : RunHas S0 w0 m a r rs s w) (hop : s.f.op = 8) (hl : s.f.line = 1) (hn : I64 s.n) (ha : 0 ≤ s.f.a ∧ s.f.a < 4294967296) (hb : 0 ≤ s.f.b ∧ s.f.b < 4294967296) (hc : s.notes.length ≤ 900) :
    Calls Try.prog 110 #[.pointer (some ⟨r, 0, none⟩)] w fun e w' => e = .returned (.tuple #[]) ∧ RunHas S0 w0 m a r rs (pf81 s) w' := by
  obtain ⟨z0, z2, z4, z5, z6, z7⟩ := H.facts hop hl rfl rfl
  have HC := Lib.hid hc
  have HA := Lib.hid ha
  have HBB := Lib.hid hb
  have HN := Lib.hid hn
  have HH := Lib.hid H
  clear hc H hn ha hb
  unfold pf81
  (try dsimp only)
  go_enter Try.func110, Try.ntmps110
  go_wp2_with fail
  refine (pf_presence _ _ HBB.out).mono ?_
  rintro e w1 ⟨rfl, rfl⟩
  go_wp2_with fail
  go_quiet (fail)
  have HW := HH.out.drewN nq
  clear z0 z2 z4 z5 z6 z7
  generalize w.drewN nq = W at HW ⊢
  obtain ⟨z0, z2, z4, z5, z6, z7⟩ := HW.facts hop hl rfl rfl
  go_wp2_with fail
  refine (rn_add HW 0 ((256 - pfP s.f.b) % 4294967296) (by omega)).mono ?_
  rintro e w1 ⟨rfl, H1⟩
  go_wp2_with fail
  refine (run_note H1 (by have := HC.out; first | exact Nat.le_trans this (by decide) | (simp [Rn.note, Rn.did, Rn.setA, Rn.setB, Rn.waited, Rn.goto, Rn.noted]; omega)) 10 0).mono ?_
  rintro e w2 ⟨rfl, H2⟩
  go_wp2_with fail
  refine (rn_wake H2 0).mono ?_
  rintro e w3 ⟨rfl, H3⟩
  go_wp2_with fail
  refine (rn_go H3 2).mono ?_
  rintro e w4 ⟨rfl, H4⟩
  go_wp2_with fail
  go_end0
  exact ⟨rfl, H4⟩

def pf82 (s : Rn) : Rn :=
  (s.did (doA s.L ⟨2, 4, (s.f.b + 1) % 4294967296, 0, 0⟩)).goto 3

set_option maxHeartbeats 800000 in
theorem pf_82 {S0 : List Nat} {w0 w : World} {m a r : Nat} {rs : List Res} {s : Rn} (H : RunHas S0 w0 m a r rs s w) (hop : s.f.op = 8) (hl : s.f.line = 2) (hn : I64 s.n) (ha : 0 ≤ s.f.a ∧ s.f.a < 4294967296) (hb : 0 ≤ s.f.b ∧ s.f.b < 4294967296) (hc : s.notes.length ≤ 900) :
    Calls Try.prog 110 #[.pointer (some ⟨r, 0, none⟩)] w fun e w' => e = .returned (.tuple #[]) ∧ RunHas S0 w0 m a r rs (pf82 s) w' := by
  obtain ⟨z0, z2, z4, z5, z6, z7⟩ := H.facts hop hl rfl rfl
  have HC := Lib.hid hc
  have HA := Lib.hid ha
  have HBB := Lib.hid hb
  have HN := Lib.hid hn
  have HH := Lib.hid H
  clear hc H hn ha hb
  unfold pf82
  (try dsimp only)
  go_enter Try.func110, Try.ntmps110
  go_wp2_with fail
  refine (pf_presence _ _ HBB.out).mono ?_
  rintro e w1 ⟨rfl, rfl⟩
  go_wp2_with fail
  go_quiet (fail)
  have HW := HH.out.drewN nq
  clear z0 z2 z4 z5 z6 z7
  generalize w.drewN nq = W at HW ⊢
  obtain ⟨z0, z2, z4, z5, z6, z7⟩ := HW.facts hop hl rfl rfl
  go_wp2_with fail
  refine (rn_store HW 4 ((s.f.b + 1) % 4294967296) (by omega)).mono ?_
  rintro e w1 ⟨rfl, H1⟩
  go_wp2_with fail
  refine (rn_go H1 3).mono ?_
  rintro e w2 ⟨rfl, H2⟩
  go_wp2_with fail
  go_end0
  exact ⟨rfl, H2⟩

def pf83 (s : Rn) : Rn :=
  s.pfPass true

set_option maxHeartbeats 800000 in
theorem pf_83 {S0 : List Nat} {w0 w : World} {m a r : Nat} {rs : List Res} {s : Rn} (H : RunHas S0 w0 m a r rs s w) (hop : s.f.op = 8) (hl : s.f.line = 3) (hn : I64 s.n) (ha : 0 ≤ s.f.a ∧ s.f.a < 4294967296) (hb : 0 ≤ s.f.b ∧ s.f.b < 4294967296) (hc : s.notes.length ≤ 900) :
    Calls Try.prog 110 #[.pointer (some ⟨r, 0, none⟩)] w fun e w' => e = .returned (.tuple #[]) ∧ RunHas S0 w0 m a r rs (pf83 s) w' := by
  obtain ⟨z0, z2, z4, z5, z6, z7⟩ := H.facts hop hl rfl rfl
  have HC := Lib.hid hc
  have HA := Lib.hid ha
  have HBB := Lib.hid hb
  have HN := Lib.hid hn
  have HH := Lib.hid H
  clear hc H hn ha hb
  unfold pf83
  (try dsimp only)
  go_enter Try.func110, Try.ntmps110
  go_wp2_with fail
  refine (pf_presence _ _ HBB.out).mono ?_
  rintro e w1 ⟨rfl, rfl⟩
  go_wp2_with fail
  go_quiet (fail)
  have HW := HH.out.drewN nq
  clear z0 z2 z4 z5 z6 z7
  generalize w.drewN nq = W at HW ⊢
  obtain ⟨z0, z2, z4, z5, z6, z7⟩ := HW.facts hop hl rfl rfl
  go_wp2_with fail
  refine (pf_pass HW HC.out true).mono ?_
  rintro e w1 ⟨rfl, H1⟩
  go_wp2_with fail
  go_end0
  exact ⟨rfl, H1⟩

end Go.Proofs.Ytmbbcgkfankiaaa.Z
