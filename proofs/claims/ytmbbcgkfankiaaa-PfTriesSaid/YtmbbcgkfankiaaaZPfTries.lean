/- Package pf: the lines of a writer's try. Written by genpf2.py. -/
import Derived.Test.YtmbbcgkfankiaaaZPf
import Derived.Test.YtmbbcgkfankiaaaZPfLeaves
import Derived.Deep.RegionHeld3
import Derived.Deep.DrawnRows
set_option linter.unusedVariables false
set_option linter.unusedSimpArgs false
namespace Go.Proofs.Ytmbbcgkfankiaaa.Z
open Go.RowKit

attribute [local go_sem ↓] Go.wp_at_zero Go.wp_at_succ

def pft0 (s : Rn) : Rn :=
  ((s.did (doA s.L ⟨1, 2, 0, 0, 0⟩)).setA (doA s.L ⟨1, 2, 0, 0, 0⟩).1.old).goto 1

set_option maxHeartbeats 800000 in
theorem pf_t0 {S0 : List Nat} {w0 w : World} {m a r : Nat} {rs : List Res} {s : Rn} (H : RunHas S0 w0 m a r rs s w) {o : Int} (hop : s.f.op = o) (hl : s.f.line = 0) (hn : I64 s.n) (ha : 0 ≤ s.f.a ∧ s.f.a < 4294967296) (hb : 0 ≤ s.f.b ∧ s.f.b < 4294967296) (hc : s.notes.length ≤ 900) :
    Calls Try.prog 125 #[.pointer (some ⟨r, 0, none⟩)] w fun e w' => e = .returned (.tuple #[]) ∧ RunHas S0 w0 m a r rs (pft0 s) w' := by
  obtain ⟨z0, z2, z4, z5, z6, z7⟩ := H.facts hop hl rfl rfl
  have HC := Lib.hid hc
  have HA := Lib.hid ha
  have HBB := Lib.hid hb
  have HN := Lib.hid hn
  have HH := Lib.hid H
  clear hc H hn ha hb
  unfold pft0
  (try dsimp only)
  go_enter Try.func125, Try.ntmps125
  go_wp2_with fail
  refine (rn_load HH.out 2).mono ?_
  rintro e w1 ⟨rfl, H1⟩
  obtain ⟨x0, x2, x4, x5, x6, x7⟩ := H1.facts hop hl rfl rfl
  go_wp2_with fail
  refine (rn_go (H1.setA (doA s.L ⟨1, 2, 0, 0, 0⟩).1.old) 1).mono ?_
  rintro e w2 ⟨rfl, H2⟩
  go_wp2_with fail
  go_end0
  exact ⟨rfl, H2⟩

def pft3 (s : Rn) : Rn :=
  ((s.did (doA s.L ⟨1, 0, 0, 0, 0⟩)).setA (doA s.L ⟨1, 0, 0, 0, 0⟩).1.old).goto 4

set_option maxHeartbeats 800000 in
theorem pf_t3 {S0 : List Nat} {w0 w : World} {m a r : Nat} {rs : List Res} {s : Rn} (H : RunHas S0 w0 m a r rs s w) {o : Int} (hop : s.f.op = o) (hl : s.f.line = 3) (hn : I64 s.n) (ha : 0 ≤ s.f.a ∧ s.f.a < 4294967296) (hb : 0 ≤ s.f.b ∧ s.f.b < 4294967296) (hc : s.notes.length ≤ 900) :
    Calls Try.prog 125 #[.pointer (some ⟨r, 0, none⟩)] w fun e w' => e = .returned (.tuple #[]) ∧ RunHas S0 w0 m a r rs (pft3 s) w' := by
  obtain ⟨z0, z2, z4, z5, z6, z7⟩ := H.facts hop hl rfl rfl
  have HC := Lib.hid hc
  have HA := Lib.hid ha
  have HBB := Lib.hid hb
  have HN := Lib.hid hn
  have HH := Lib.hid H
  clear hc H hn ha hb
  unfold pft3
  (try dsimp only)
  go_enter Try.func125, Try.ntmps125
  go_wp2_with fail
  refine (rn_load HH.out 0).mono ?_
  rintro e w1 ⟨rfl, H1⟩
  obtain ⟨x0, x2, x4, x5, x6, x7⟩ := H1.facts hop hl rfl rfl
  go_wp2_with fail
  refine (rn_go (H1.setA (doA s.L ⟨1, 0, 0, 0, 0⟩).1.old) 4).mono ?_
  rintro e w2 ⟨rfl, H2⟩
  go_wp2_with fail
  go_end0
  exact ⟨rfl, H2⟩

def pft5 (s : Rn) : Rn :=
  ((s.did (doA s.L ⟨1, 4, 0, 0, 0⟩)).setB (doA s.L ⟨1, 4, 0, 0, 0⟩).1.old).goto 6

set_option maxHeartbeats 800000 in
theorem pf_t5 {S0 : List Nat} {w0 w : World} {m a r : Nat} {rs : List Res} {s : Rn} (H : RunHas S0 w0 m a r rs s w) {o : Int} (hop : s.f.op = o) (hl : s.f.line = 5) (hn : I64 s.n) (ha : 0 ≤ s.f.a ∧ s.f.a < 4294967296) (hb : 0 ≤ s.f.b ∧ s.f.b < 4294967296) (hc : s.notes.length ≤ 900) :
    Calls Try.prog 125 #[.pointer (some ⟨r, 0, none⟩)] w fun e w' => e = .returned (.tuple #[]) ∧ RunHas S0 w0 m a r rs (pft5 s) w' := by
  obtain ⟨z0, z2, z4, z5, z6, z7⟩ := H.facts hop hl rfl rfl
  have HC := Lib.hid hc
  have HA := Lib.hid ha
  have HBB := Lib.hid hb
  have HN := Lib.hid hn
  have HH := Lib.hid H
  clear hc H hn ha hb
  unfold pft5
  (try dsimp only)
  go_enter Try.func125, Try.ntmps125
  go_wp2_with fail
  refine (rn_load HH.out 4).mono ?_
  rintro e w1 ⟨rfl, H1⟩
  obtain ⟨x0, x2, x4, x5, x6, x7⟩ := H1.facts hop hl rfl rfl
  go_wp2_with fail
  refine (rn_go (H1.setB (doA s.L ⟨1, 4, 0, 0, 0⟩).1.old) 6).mono ?_
  rintro e w2 ⟨rfl, H2⟩
  go_wp2_with fail
  go_end0
  exact ⟨rfl, H2⟩

def pft6 (s : Rn) : Rn :=
  (((s.did (doA s.L ⟨3, 0, pfP s.f.b, 0, 0⟩)).setA (doA s.L ⟨3, 0, pfP s.f.b, 0, 0⟩).1.old).note 3 0).goto 7

set_option maxHeartbeats 800000 in
theorem pf_t6 {S0 : List Nat} {w0 w : World} {m a r : Nat} {rs : List Res} {s : Rn} (H : RunHas S0 w0 m a r rs s w) {o : Int} (hop : s.f.op = o) (hl : s.f.line = 6) (hn : I64 s.n) (ha : 0 ≤ s.f.a ∧ s.f.a < 4294967296) (hb : 0 ≤ s.f.b ∧ s.f.b < 4294967296) (hc : s.notes.length ≤ 900) :
    Calls Try.prog 125 #[.pointer (some ⟨r, 0, none⟩)] w fun e w' => e = .returned (.tuple #[]) ∧ RunHas S0 w0 m a r rs (pft6 s) w' := by
  obtain ⟨z0, z2, z4, z5, z6, z7⟩ := H.facts hop hl rfl rfl
  have HC := Lib.hid hc
  have HA := Lib.hid ha
  have HBB := Lib.hid hb
  have HN := Lib.hid hn
  have HH := Lib.hid H
  clear hc H hn ha hb
  unfold pft6
  (try dsimp only)
  go_enter Try.func125, Try.ntmps125
  go_wp2_with fail
  refine (pf_presence _ _ HBB.out).mono ?_
  rintro e w9 ⟨rfl, rfl⟩
  go_wp2_with fail
  refine (rn_add HH.out 0 (pfP s.f.b) (by have : 0 ≤ pfP s.f.b ∧ pfP s.f.b < 4294967296 := (by unfold pfP; omega); omega)).mono ?_
  rintro e w1 ⟨rfl, H1⟩
  obtain ⟨x0, x2, x4, x5, x6, x7⟩ := H1.facts hop hl rfl rfl
  go_wp2_with fail
  refine (run_note (H1.setA (doA s.L ⟨3, 0, pfP s.f.b, 0, 0⟩).1.old) (by have := HC.out; first | exact Nat.le_trans this (by decide) | (simp [Rn.note, Rn.did, Rn.setA, Rn.setB, Rn.waited, Rn.goto, Rn.noted]; omega)) 3 0).mono ?_
  rintro e w2 ⟨rfl, H2⟩
  go_wp2_with fail
  refine (rn_go H2 7).mono ?_
  rintro e w3 ⟨rfl, H3⟩
  go_wp2_with fail
  go_end0
  exact ⟨rfl, H3⟩

def pft9 (s : Rn) : Rn :=
  s.pfPass false

set_option maxHeartbeats 800000 in
theorem pf_t9 {S0 : List Nat} {w0 w : World} {m a r : Nat} {rs : List Res} {s : Rn} (H : RunHas S0 w0 m a r rs s w) {o : Int} (hop : s.f.op = o) (hl : s.f.line = 9) (hn : I64 s.n) (ha : 0 ≤ s.f.a ∧ s.f.a < 4294967296) (hb : 0 ≤ s.f.b ∧ s.f.b < 4294967296) (hc : s.notes.length ≤ 900) :
    Calls Try.prog 125 #[.pointer (some ⟨r, 0, none⟩)] w fun e w' => e = .returned (.tuple #[]) ∧ RunHas S0 w0 m a r rs (pft9 s) w' := by
  obtain ⟨z0, z2, z4, z5, z6, z7⟩ := H.facts hop hl rfl rfl
  have HC := Lib.hid hc
  have HA := Lib.hid ha
  have HBB := Lib.hid hb
  have HN := Lib.hid hn
  have HH := Lib.hid H
  clear hc H hn ha hb
  unfold pft9
  (try dsimp only)
  go_enter Try.func125, Try.ntmps125
  go_wp2_with fail
  refine (pf_pass HH.out HC.out false).mono ?_
  rintro e w1 ⟨rfl, H1⟩
  go_wp2_with fail
  go_end0
  exact ⟨rfl, H1⟩

def pft2 (s : Rn) : Rn :=
  if casB s.L 2 s.f.a ((s.f.a + 1) % 4294967296) then ((s.did (doA s.L ⟨5, 2, s.f.a, (s.f.a + 1) % 4294967296, 0⟩)).note 2 2).goto 3 else (s.did (doA s.L ⟨5, 2, s.f.a, (s.f.a + 1) % 4294967296, 0⟩)).goto 0

set_option maxHeartbeats 800000 in
theorem pf_t2 {S0 : List Nat} {w0 w : World} {m a r : Nat} {rs : List Res} {s : Rn} (H : RunHas S0 w0 m a r rs s w) {o : Int} (hop : s.f.op = o) (hl : s.f.line = 2) (hn : I64 s.n) (ha : 0 ≤ s.f.a ∧ s.f.a < 4294967296) (hb : 0 ≤ s.f.b ∧ s.f.b < 4294967296) (hc : s.notes.length ≤ 900) :
    Calls Try.prog 125 #[.pointer (some ⟨r, 0, none⟩)] w fun e w' => e = .returned (.tuple #[]) ∧ RunHas S0 w0 m a r rs (pft2 s) w' := by
  obtain ⟨z0, z2, z4, z5, z6, z7⟩ := H.facts hop hl rfl rfl
  have HC := Lib.hid hc
  have HA := Lib.hid ha
  have HBB := Lib.hid hb
  have HN := Lib.hid hn
  have HH := Lib.hid H
  clear hc H hn ha hb
  unfold pft2
  (try dsimp only)
  have hcas := fun W (H : RunHas S0 w0 m a r rs s W) => rn_cas H 2 s.f.a ((s.f.a + 1) % 4294967296) HA.out (by have := HA.out; omega)
  cases hb : casB s.L 2 s.f.a ((s.f.a + 1) % 4294967296) with
  | true =>
    rw [hb] at hcas
    simp only [if_true]
    have HCAS := Lib.hid hcas
    clear hcas hb
    go_enter Try.func125, Try.ntmps125
    go_wp2_with fail
    refine region_flat (by kernel_rfl) (by kernel_rfl) ?_
    simp only [probed, probes, List.nil_append, List.cons_append, probe]
    go_wp2_with fail
    refine (HCAS.out _ HH.out.drew).mono ?_
    rintro e w1 ⟨rfl, H1⟩
    go_wp2_with fail
    rw [only_normal]
    rename_i hK
    refine hK _ _ ?_
    clear hK
    go_wp2_with fail
    refine (run_note H1 (by have := HC.out; first | exact Nat.le_trans this (by decide) | (simp [Rn.note, Rn.did, Rn.setA, Rn.setB, Rn.waited, Rn.goto, Rn.noted]; omega)) 2 2).mono ?_
    rintro e w2 ⟨rfl, H2⟩
    go_wp2_with fail
    refine (rn_go H2 3).mono ?_
    rintro e w3 ⟨rfl, H3⟩
    go_wp2_with fail
    go_end0
    exact ⟨rfl, H3⟩
  | false =>
    rw [hb] at hcas
    simp only [Bool.false_eq_true, if_false]
    have HCAS := Lib.hid hcas
    clear hcas hb
    go_enter Try.func125, Try.ntmps125
    go_wp2_with fail
    refine region_flat (by kernel_rfl) (by kernel_rfl) ?_
    simp only [probed, probes, List.nil_append, List.cons_append, probe]
    go_wp2_with fail
    refine (HCAS.out _ HH.out.drew).mono ?_
    rintro e w1 ⟨rfl, H1⟩
    go_wp2_with fail
    rw [only_normal]
    rename_i hK
    refine hK _ _ ?_
    clear hK
    go_wp2_with fail
    refine (rn_go H1 0).mono ?_
    rintro e w2 ⟨rfl, H2⟩
    go_wp2_with fail
    (try simp only [Exit.inBlock, Exit.then]); refine bodyPost_ret (results_none rfl _ _ _) rfl ?_
    exact ⟨rfl, H2⟩

def pft1 (s : Rn) : Rn :=
  let s1 := (s.did (doA s.L ⟨1, 3, 0, 0, 0⟩)).setB (doA s.L ⟨1, 3, 0, 0, 0⟩).1.old
  if 0 < aheadA s.f.a (doA s.L ⟨1, 3, 0, 0, 0⟩).1.old then (s1.note 5 0).fin false else if aheadA s.f.a (doA s.L ⟨1, 3, 0, 0, 0⟩).1.old < 0 then s1.goto 0 else s1.goto 2

set_option maxHeartbeats 800000 in
theorem pf_t1 {S0 : List Nat} {w0 w : World} {m a r : Nat} {rs : List Res} {s : Rn} (H : RunHas S0 w0 m a r rs s w) {o : Int} (hop : s.f.op = o) (hl : s.f.line = 1) (hn : I64 s.n) (ha : 0 ≤ s.f.a ∧ s.f.a < 4294967296) (hb : 0 ≤ s.f.b ∧ s.f.b < 4294967296) (hc : s.notes.length ≤ 900) :
    Calls Try.prog 125 #[.pointer (some ⟨r, 0, none⟩)] w fun e w' => e = .returned (.tuple #[]) ∧ RunHas S0 w0 m a r rs (pft1 s) w' := by
  obtain ⟨z0, z2, z4, z5, z6, z7⟩ := H.facts hop hl rfl rfl
  have HC := Lib.hid hc
  have HA := Lib.hid ha
  have HBB := Lib.hid hb
  have HN := Lib.hid hn
  have hv := H.old ⟨1, 3, 0, 0, 0⟩
  have hah := fun W => ahead_any s.f.a (doA s.L ⟨1, 3, 0, 0, 0⟩).1.old W ha hv
  clear hv
  have HH := Lib.hid H
  clear hc H hn ha hb
  unfold pft1
  (try dsimp only)
  have HAH := Lib.hid hah
  clear hah
  generalize aheadA s.f.a (doA s.L ⟨1, 3, 0, 0, 0⟩).1.old = n at HAH ⊢
  by_cases c1 : 0 < n
  · rw [if_pos c1]
    go_enter Try.func125, Try.ntmps125
    go_wp2_with fail
    refine (rn_load HH.out 3).mono ?_
    rintro e w1 ⟨rfl, H1⟩
    obtain ⟨x0, x2, x4, x5, x6, x7⟩ := H1.facts hop hl rfl rfl
    go_wp2_with fail
    refine region_flat (by kernel_rfl) (by kernel_rfl) ?_
    simp only [probed, probes, List.nil_append]
    go_wp2_with fail
    refine (HAH.out _).mono ?_
    rintro e w2 ⟨rfl, rfl⟩
    go_wp2_with fail
    rw [only_normal]
    rename_i hK
    refine hK _ _ ?_
    clear hK
    have H2 := (H1.setB (doA s.L ⟨1, 3, 0, 0, 0⟩).1.old).drew
    go_wp2_with fail
    refine (run_note H2 (by have := HC.out; first | exact Nat.le_trans this (by decide) | (simp [Rn.note, Rn.did, Rn.setA, Rn.setB, Rn.waited, Rn.goto, Rn.noted]; omega)) 5 0).mono ?_
    rintro e w3 ⟨rfl, H3⟩
    go_wp2_with fail
    refine (rn_end H3 false).mono ?_
    rintro e w4 ⟨rfl, H4⟩
    go_wp2_with fail
    go_end0
    exact ⟨rfl, H4⟩
  · rw [if_neg c1]
    by_cases c2 : n < 0
    · rw [if_pos c2]
      go_enter Try.func125, Try.ntmps125
      go_wp2_with fail
      refine (rn_load HH.out 3).mono ?_
      rintro e w1 ⟨rfl, H1⟩
      obtain ⟨x0, x2, x4, x5, x6, x7⟩ := H1.facts hop hl rfl rfl
      go_wp2_with fail
      refine region_flat (by kernel_rfl) (by kernel_rfl) ?_
      simp only [probed, probes, List.nil_append]
      go_wp2_with fail
      refine (HAH.out _).mono ?_
      rintro e w2 ⟨rfl, rfl⟩
      go_wp2_with fail
      rw [only_normal]
      rename_i hK
      refine hK _ _ ?_
      clear hK
      have H2 := (H1.setB (doA s.L ⟨1, 3, 0, 0, 0⟩).1.old).drew
      go_wp2_with fail
      refine (rn_go H2 0).mono ?_
      rintro e w3 ⟨rfl, H3⟩
      go_wp2_with fail
      go_end0
      exact ⟨rfl, H3⟩
    · rw [if_neg c2]
      go_enter Try.func125, Try.ntmps125
      go_wp2_with fail
      refine (rn_load HH.out 3).mono ?_
      rintro e w1 ⟨rfl, H1⟩
      obtain ⟨x0, x2, x4, x5, x6, x7⟩ := H1.facts hop hl rfl rfl
      go_wp2_with fail
      refine region_flat (by kernel_rfl) (by kernel_rfl) ?_
      simp only [probed, probes, List.nil_append]
      go_wp2_with fail
      refine (HAH.out _).mono ?_
      rintro e w2 ⟨rfl, rfl⟩
      go_wp2_with fail
      rw [only_normal]
      rename_i hK
      refine hK _ _ ?_
      clear hK
      have H2 := (H1.setB (doA s.L ⟨1, 3, 0, 0, 0⟩).1.old).drew
      go_wp2_with fail
      refine (rn_go H2 2).mono ?_
      rintro e w3 ⟨rfl, H3⟩
      go_wp2_with fail
      go_end0
      exact ⟨rfl, H3⟩

def pfIn6 (s : Rn) : Rn :=
  let s1 := (s.did (doA s.L ⟨1, 1, 0, 0, 0⟩)).setB (doA s.L ⟨1, 1, 0, 0, 0⟩).1.old
  if 0 < aheadA s.f.a (doA s.L ⟨1, 1, 0, 0, 0⟩).1.old then (s1.note 5 0).goto 9 else s1.goto 5

set_option maxHeartbeats 1600000 in
theorem pf_inside6 {S0 : List Nat} {w0 w : World} {m a r : Nat} {rs : List Res} {s : Rn} (H : RunHas S0 w0 m a r rs s w) {l : Int} (hop : s.f.op = 6) (hl : s.f.line = l) (ha : 0 ≤ s.f.a ∧ s.f.a < 4294967296) (hc : s.notes.length ≤ 900) :
    Calls Try.prog 130 #[.pointer (some ⟨r, 0, none⟩)] w fun e w' => e = .returned (.tuple #[]) ∧ RunHas S0 w0 m a r rs (pfIn6 s) w' := by
  have hv := H.old ⟨1, 1, 0, 0, 0⟩
  have hah := fun W => ahead_any s.f.a (doA s.L ⟨1, 1, 0, 0, 0⟩).1.old W ha hv
  have HC := Lib.hid hc
  have HAH := Lib.hid hah
  have HH := Lib.hid H
  clear hv hah hc H ha
  unfold pfIn6
  dsimp only
  generalize aheadA s.f.a (doA s.L ⟨1, 1, 0, 0, 0⟩).1.old = n at HAH ⊢
  have hw0 : IntKind.i64.wrap 0 = 0 := by decide
  by_cases c1 : 0 < n
  · rw [if_pos c1]
    have d1 : decide (0 < n) = true := by simpa using c1
    have HD1 := Lib.hid c1
    clear c1
    go_enter Try.func130, Try.ntmps130
    go_wp2_with fail
    refine (rn_load HH.out 1).mono ?_
    rintro e w1 ⟨rfl, H1⟩
    obtain ⟨x0, x2, x4, x5, x6, x7⟩ := H1.facts hop hl rfl rfl
    go_wp2_with fail
    have H2 := (H1.setB (doA s.L ⟨1, 1, 0, 0, 0⟩).1.old).drew
    have hd6 : ((w1.setCell ⟨r, 7, none⟩ (.int .u32 (doA s.L ⟨1, 1, 0, 0, 0⟩).1.old)).drew).cell? ⟨r, 6, none⟩ = some (.int .u32 s.f.a) := (H2.facts hop hl rfl rfl).2.2.2.2.1
    have hd7 : ((w1.setCell ⟨r, 7, none⟩ (.int .u32 (doA s.L ⟨1, 1, 0, 0, 0⟩).1.old)).drew).cell? ⟨r, 7, none⟩ = some (.int .u32 (doA s.L ⟨1, 1, 0, 0, 0⟩).1.old) := (H2.facts hop hl rfl rfl).2.2.2.2.2
    go_region_held3 (fun w' => w'.cell? ⟨r, 6, none⟩ = some (.int .u32 s.f.a) ∧ w'.cell? ⟨r, 7, none⟩ = some (.int .u32 (doA s.L ⟨1, 1, 0, 0, 0⟩).1.old) ∧ RunHas S0 w0 m a r rs ((s.did (doA s.L ⟨1, 1, 0, 0, 0⟩)).setB (doA s.L ⟨1, 1, 0, 0, 0⟩).1.old) w')
      (first | (go_split_ands; refine ⟨?_, ?_, ?_⟩ <;> assumption))
      (first | (go_at_call 129; (with_reducible refine (HAH.out _).mono ?_); rintro e w4 ⟨rfl, rfl⟩) | (go_at_call 132; refine (pf_own_no H2 hop hl).mono ?_; rintro e w5 ⟨rfl, rfl⟩))
    all_goals
      go_wp2_with fail
      refine (run_note H2 (by have := HC.out; first | exact Nat.le_trans this (by decide) | (simp [Rn.note, Rn.did, Rn.setA, Rn.setB, Rn.waited, Rn.goto, Rn.noted]; omega)) 5 0).mono ?_
      rintro e w3 ⟨rfl, H3⟩
      go_wp2_with fail
      refine (rn_go H3 9).mono ?_
      rintro e w4 ⟨rfl, H4⟩
      go_wp2_with fail
      (try simp only [Exit.inBlock, Exit.then]); refine bodyPost_ret (results_none rfl _ _ _) rfl ?_
      exact ⟨rfl, H4⟩
  · rw [if_neg c1]
    have d1 : decide (0 < n) = false := by simpa using c1
    clear c1
    go_enter Try.func130, Try.ntmps130
    go_wp2_with fail
    refine (rn_load HH.out 1).mono ?_
    rintro e w1 ⟨rfl, H1⟩
    obtain ⟨x0, x2, x4, x5, x6, x7⟩ := H1.facts hop hl rfl rfl
    go_wp2_with fail
    have H2 := (H1.setB (doA s.L ⟨1, 1, 0, 0, 0⟩).1.old).drew
    have hd6 : ((w1.setCell ⟨r, 7, none⟩ (.int .u32 (doA s.L ⟨1, 1, 0, 0, 0⟩).1.old)).drew).cell? ⟨r, 6, none⟩ = some (.int .u32 s.f.a) := (H2.facts hop hl rfl rfl).2.2.2.2.1
    have hd7 : ((w1.setCell ⟨r, 7, none⟩ (.int .u32 (doA s.L ⟨1, 1, 0, 0, 0⟩).1.old)).drew).cell? ⟨r, 7, none⟩ = some (.int .u32 (doA s.L ⟨1, 1, 0, 0, 0⟩).1.old) := (H2.facts hop hl rfl rfl).2.2.2.2.2
    go_region_held3 (fun w' => w'.cell? ⟨r, 6, none⟩ = some (.int .u32 s.f.a) ∧ w'.cell? ⟨r, 7, none⟩ = some (.int .u32 (doA s.L ⟨1, 1, 0, 0, 0⟩).1.old) ∧ RunHas S0 w0 m a r rs ((s.did (doA s.L ⟨1, 1, 0, 0, 0⟩)).setB (doA s.L ⟨1, 1, 0, 0, 0⟩).1.old) w')
      (first | (go_split_ands; refine ⟨?_, ?_, ?_⟩ <;> assumption))
      (first | (go_at_call 129; (with_reducible refine (HAH.out _).mono ?_); rintro e w4 ⟨rfl, rfl⟩) | (go_at_call 132; refine (pf_own_no H2 hop hl).mono ?_; rintro e w5 ⟨rfl, rfl⟩))
    all_goals
      go_wp2_with fail
      refine (rn_go H2 5).mono ?_
      rintro e w3 ⟨rfl, H3⟩
      go_wp2_with fail
      go_end0
      exact ⟨rfl, H3⟩

def pft46 (s : Rn) : Rn :=
  pfIn6 s

set_option maxHeartbeats 800000 in
theorem pf_t46 {S0 : List Nat} {w0 w : World} {m a r : Nat} {rs : List Res} {s : Rn} (H : RunHas S0 w0 m a r rs s w) (hop : s.f.op = 6) (hl : s.f.line = 4) (hn : I64 s.n) (ha : 0 ≤ s.f.a ∧ s.f.a < 4294967296) (hb : 0 ≤ s.f.b ∧ s.f.b < 4294967296) (hc : s.notes.length ≤ 900) :
    Calls Try.prog 125 #[.pointer (some ⟨r, 0, none⟩)] w fun e w' => e = .returned (.tuple #[]) ∧ RunHas S0 w0 m a r rs (pft46 s) w' := by
  obtain ⟨z0, z2, z4, z5, z6, z7⟩ := H.facts hop hl rfl rfl
  have HC := Lib.hid hc
  have HA := Lib.hid ha
  have HBB := Lib.hid hb
  have HN := Lib.hid hn
  have HH := Lib.hid H
  clear hc H hn ha hb
  unfold pft46
  (try dsimp only)
  go_enter Try.func125, Try.ntmps125
  go_wp2_with fail
  refine (pf_inside6 HH.out hop hl HA.out HC.out).mono ?_
  rintro e w1 ⟨rfl, H1⟩
  go_wp2_with fail
  go_end0
  exact ⟨rfl, H1⟩

def pfIn7 (s : Rn) : Rn :=
  let s1 := (s.did (doA s.L ⟨1, 1, 0, 0, 0⟩)).setB (doA s.L ⟨1, 1, 0, 0, 0⟩).1.old
  if 256 < aheadA s.f.a (doA s.L ⟨1, 1, 0, 0, 0⟩).1.old then (s1.note 5 0).goto 9 else s1.goto 5

set_option maxHeartbeats 1600000 in
theorem pf_inside7 {S0 : List Nat} {w0 w : World} {m a r : Nat} {rs : List Res} {s : Rn} (H : RunHas S0 w0 m a r rs s w) {l : Int} (hop : s.f.op = 7) (hl : s.f.line = l) (ha : 0 ≤ s.f.a ∧ s.f.a < 4294967296) (hc : s.notes.length ≤ 900) :
    Calls Try.prog 130 #[.pointer (some ⟨r, 0, none⟩)] w fun e w' => e = .returned (.tuple #[]) ∧ RunHas S0 w0 m a r rs (pfIn7 s) w' := by
  have hv := H.old ⟨1, 1, 0, 0, 0⟩
  have hah := fun W => ahead_any s.f.a (doA s.L ⟨1, 1, 0, 0, 0⟩).1.old W ha hv
  have HC := Lib.hid hc
  have HAH := Lib.hid hah
  have HH := Lib.hid H
  clear hv hah hc H ha
  unfold pfIn7
  dsimp only
  generalize aheadA s.f.a (doA s.L ⟨1, 1, 0, 0, 0⟩).1.old = n at HAH ⊢
  have hw0 : IntKind.i64.wrap 256 = 256 := by decide
  by_cases c1 : 256 < n
  · rw [if_pos c1]
    have d1 : decide (256 < n) = true := by simpa using c1
    have HD1 := Lib.hid c1
    clear c1
    go_enter Try.func130, Try.ntmps130
    go_wp2_with fail
    refine (rn_load HH.out 1).mono ?_
    rintro e w1 ⟨rfl, H1⟩
    obtain ⟨x0, x2, x4, x5, x6, x7⟩ := H1.facts hop hl rfl rfl
    go_wp2_with fail
    have H2 := (H1.setB (doA s.L ⟨1, 1, 0, 0, 0⟩).1.old).drew
    have hd6 : ((w1.setCell ⟨r, 7, none⟩ (.int .u32 (doA s.L ⟨1, 1, 0, 0, 0⟩).1.old)).drew).cell? ⟨r, 6, none⟩ = some (.int .u32 s.f.a) := (H2.facts hop hl rfl rfl).2.2.2.2.1
    have hd7 : ((w1.setCell ⟨r, 7, none⟩ (.int .u32 (doA s.L ⟨1, 1, 0, 0, 0⟩).1.old)).drew).cell? ⟨r, 7, none⟩ = some (.int .u32 (doA s.L ⟨1, 1, 0, 0, 0⟩).1.old) := (H2.facts hop hl rfl rfl).2.2.2.2.2
    go_region_held3 (fun w' => w'.cell? ⟨r, 6, none⟩ = some (.int .u32 s.f.a) ∧ w'.cell? ⟨r, 7, none⟩ = some (.int .u32 (doA s.L ⟨1, 1, 0, 0, 0⟩).1.old) ∧ RunHas S0 w0 m a r rs ((s.did (doA s.L ⟨1, 1, 0, 0, 0⟩)).setB (doA s.L ⟨1, 1, 0, 0, 0⟩).1.old) w')
      (first | (go_split_ands; refine ⟨?_, ?_, ?_⟩ <;> assumption))
      (first | (go_at_call 129; (with_reducible refine (HAH.out _).mono ?_); rintro e w4 ⟨rfl, rfl⟩) | (go_at_call 132; refine (pf_own_up H2 hop hl).mono ?_; rintro e w5 ⟨rfl, rfl⟩))
    all_goals
      go_wp2_with fail
      refine (run_note H2 (by have := HC.out; first | exact Nat.le_trans this (by decide) | (simp [Rn.note, Rn.did, Rn.setA, Rn.setB, Rn.waited, Rn.goto, Rn.noted]; omega)) 5 0).mono ?_
      rintro e w3 ⟨rfl, H3⟩
      go_wp2_with fail
      refine (rn_go H3 9).mono ?_
      rintro e w4 ⟨rfl, H4⟩
      go_wp2_with fail
      (try simp only [Exit.inBlock, Exit.then]); refine bodyPost_ret (results_none rfl _ _ _) rfl ?_
      exact ⟨rfl, H4⟩
  · rw [if_neg c1]
    have d1 : decide (256 < n) = false := by simpa using c1
    clear c1
    go_enter Try.func130, Try.ntmps130
    go_wp2_with fail
    refine (rn_load HH.out 1).mono ?_
    rintro e w1 ⟨rfl, H1⟩
    obtain ⟨x0, x2, x4, x5, x6, x7⟩ := H1.facts hop hl rfl rfl
    go_wp2_with fail
    have H2 := (H1.setB (doA s.L ⟨1, 1, 0, 0, 0⟩).1.old).drew
    have hd6 : ((w1.setCell ⟨r, 7, none⟩ (.int .u32 (doA s.L ⟨1, 1, 0, 0, 0⟩).1.old)).drew).cell? ⟨r, 6, none⟩ = some (.int .u32 s.f.a) := (H2.facts hop hl rfl rfl).2.2.2.2.1
    have hd7 : ((w1.setCell ⟨r, 7, none⟩ (.int .u32 (doA s.L ⟨1, 1, 0, 0, 0⟩).1.old)).drew).cell? ⟨r, 7, none⟩ = some (.int .u32 (doA s.L ⟨1, 1, 0, 0, 0⟩).1.old) := (H2.facts hop hl rfl rfl).2.2.2.2.2
    go_region_held3 (fun w' => w'.cell? ⟨r, 6, none⟩ = some (.int .u32 s.f.a) ∧ w'.cell? ⟨r, 7, none⟩ = some (.int .u32 (doA s.L ⟨1, 1, 0, 0, 0⟩).1.old) ∧ RunHas S0 w0 m a r rs ((s.did (doA s.L ⟨1, 1, 0, 0, 0⟩)).setB (doA s.L ⟨1, 1, 0, 0, 0⟩).1.old) w')
      (first | (go_split_ands; refine ⟨?_, ?_, ?_⟩ <;> assumption))
      (first | (go_at_call 129; (with_reducible refine (HAH.out _).mono ?_); rintro e w4 ⟨rfl, rfl⟩) | (go_at_call 132; refine (pf_own_up H2 hop hl).mono ?_; rintro e w5 ⟨rfl, rfl⟩))
    all_goals
      go_wp2_with fail
      refine (rn_go H2 5).mono ?_
      rintro e w3 ⟨rfl, H3⟩
      go_wp2_with fail
      go_end0
      exact ⟨rfl, H3⟩

def pft47 (s : Rn) : Rn :=
  pfIn7 s

set_option maxHeartbeats 800000 in
theorem pf_t47 {S0 : List Nat} {w0 w : World} {m a r : Nat} {rs : List Res} {s : Rn} (H : RunHas S0 w0 m a r rs s w) (hop : s.f.op = 7) (hl : s.f.line = 4) (hn : I64 s.n) (ha : 0 ≤ s.f.a ∧ s.f.a < 4294967296) (hb : 0 ≤ s.f.b ∧ s.f.b < 4294967296) (hc : s.notes.length ≤ 900) :
    Calls Try.prog 125 #[.pointer (some ⟨r, 0, none⟩)] w fun e w' => e = .returned (.tuple #[]) ∧ RunHas S0 w0 m a r rs (pft47 s) w' := by
  obtain ⟨z0, z2, z4, z5, z6, z7⟩ := H.facts hop hl rfl rfl
  have HC := Lib.hid hc
  have HA := Lib.hid ha
  have HBB := Lib.hid hb
  have HN := Lib.hid hn
  have HH := Lib.hid H
  clear hc H hn ha hb
  unfold pft47
  (try dsimp only)
  go_enter Try.func125, Try.ntmps125
  go_wp2_with fail
  refine (pf_inside7 HH.out hop hl HA.out HC.out).mono ?_
  rintro e w1 ⟨rfl, H1⟩
  go_wp2_with fail
  go_end0
  exact ⟨rfl, H1⟩

def pfLast6 (s : Rn) : Rn :=
  let s1 := s.waited (waitA s.L s.n s.mode s.task s.f.st 1 (fun v => v == s.f.a))
  let s2 := if (waitA s.L s.n s.mode s.task s.f.st 1 (fun v => v == s.f.a)).seen then s1.note 4 0 else s1
  if (waitA s.L s.n s.mode s.task s.f.st 1 (fun v => v == s.f.a)).done then s2.fin true else s2

set_option maxHeartbeats 1600000 in
theorem pf_last6 {S0 : List Nat} {w0 w : World} {m a r : Nat} {rs : List Res} {s : Rn} (H : RunHas S0 w0 m a r rs s w) {l : Int} (hop : s.f.op = 6) (hl : s.f.line = l) (hn : I64 s.n) (ha : 0 ≤ s.f.a ∧ s.f.a < 4294967296) (hc : s.notes.length ≤ 900) :
    Calls Try.prog 131 #[.pointer (some ⟨r, 0, none⟩)] w fun e w' => e = .returned (.tuple #[]) ∧ RunHas S0 w0 m a r rs (pfLast6 s) w' := by
  obtain ⟨z0, z2, z4, z5, z6, z7⟩ := H.facts hop hl rfl rfl
  have HC := Lib.hid hc
  have HN := Lib.hid hn
  have HH := Lib.hid H
  clear hc H hn
  unfold pfLast6
  dsimp only
  have hwt := fun (t2 : Nat) W (H : RunHas S0 w0 m a r (.blk t2 #[.int .u32 s.f.a] :: rs) s W) => rn_wait H HN.out 1 133 #[] #[.pointer (some ⟨t2, 0, none⟩)] (fun v => v == s.f.a) (enters_of Try.func133 (by kernel_rfl) rfl) (fun W v h0 h1 H => pf_mine2 s.f.a v W H.first)
  cases hs : (waitA s.L s.n s.mode s.task s.f.st 1 (fun v => v == s.f.a)).seen <;> cases hd : (waitA s.L s.n s.mode s.task s.f.st 1 (fun v => v == s.f.a)).done <;> rw [hs, hd] at hwt <;> simp only [if_true, Bool.false_eq_true, if_false] <;> (have HWT := Lib.hid hwt) <;> clear hwt hs hd
  · go_enter Try.func131, Try.ntmps131
    go_wp2_with fail
    refine region_flat_call 5 rfl (by kernel_rfl) (by kernel_rfl) ?_
    simp only [List.take_succ_cons, List.take_zero, List.drop_succ_cons, List.drop_zero, probed, probes, List.nil_append, List.cons_append, probe]
    go_wp2_with fail
    rw [only_normal]
    refine half_static (.int .u32 0) rfl rfl (enters_of Try.func132 (by kernel_rfl) rfl) (by simp [Act.eval]) (fun W t => pf_own_no (HH.out.drew.grow t) hop hl) ?_
    simp only [probed, probes, List.nil_append, List.cons_append, probe]
    go_wp2_with fail
    rw [only_normal]
    rename_i hK
    refine hK _ _ ?_
    clear hK
    refine wp_from (Facts := fun V => RunHas S0 w0 m a r (.blk w.heap.size #[.int .u32 s.f.a] :: rs) s V) ?_ (by first | exact HH.out.drew.box rfl _ _ | exact (HH.out.box rfl _ _).drew)
    clear z0 z2 z4 z5 z6 z7
    intro W HW2
    generalize w.heap.size = tb at HW2 ⊢
    obtain ⟨z0, z2, z4, z5, z6, z7⟩ := HW2.facts hop hl rfl rfl
    go_wp2_with fail
    refine (HWT.out _ _ HW2).mono ?_
    rintro e w1 ⟨rfl, H1⟩
    go_wp2_with fail
    go_end0
    exact ⟨rfl, H1.unbox⟩
  · go_enter Try.func131, Try.ntmps131
    go_wp2_with fail
    refine region_flat_call 5 rfl (by kernel_rfl) (by kernel_rfl) ?_
    simp only [List.take_succ_cons, List.take_zero, List.drop_succ_cons, List.drop_zero, probed, probes, List.nil_append, List.cons_append, probe]
    go_wp2_with fail
    rw [only_normal]
    refine half_static (.int .u32 0) rfl rfl (enters_of Try.func132 (by kernel_rfl) rfl) (by simp [Act.eval]) (fun W t => pf_own_no (HH.out.drew.grow t) hop hl) ?_
    simp only [probed, probes, List.nil_append, List.cons_append, probe]
    go_wp2_with fail
    rw [only_normal]
    rename_i hK
    refine hK _ _ ?_
    clear hK
    refine wp_from (Facts := fun V => RunHas S0 w0 m a r (.blk w.heap.size #[.int .u32 s.f.a] :: rs) s V) ?_ (by first | exact HH.out.drew.box rfl _ _ | exact (HH.out.box rfl _ _).drew)
    clear z0 z2 z4 z5 z6 z7
    intro W HW2
    generalize w.heap.size = tb at HW2 ⊢
    obtain ⟨z0, z2, z4, z5, z6, z7⟩ := HW2.facts hop hl rfl rfl
    go_wp2_with fail
    refine (HWT.out _ _ HW2).mono ?_
    rintro e w1 ⟨rfl, H1⟩
    go_wp2_with fail
    refine (rn_end H1 true).mono ?_
    rintro e w2 ⟨rfl, H2⟩
    go_wp2_with fail
    go_end0
    exact ⟨rfl, H2.unbox⟩
  · go_enter Try.func131, Try.ntmps131
    go_wp2_with fail
    refine region_flat_call 5 rfl (by kernel_rfl) (by kernel_rfl) ?_
    simp only [List.take_succ_cons, List.take_zero, List.drop_succ_cons, List.drop_zero, probed, probes, List.nil_append, List.cons_append, probe]
    go_wp2_with fail
    rw [only_normal]
    refine half_static (.int .u32 0) rfl rfl (enters_of Try.func132 (by kernel_rfl) rfl) (by simp [Act.eval]) (fun W t => pf_own_no (HH.out.drew.grow t) hop hl) ?_
    simp only [probed, probes, List.nil_append, List.cons_append, probe]
    go_wp2_with fail
    rw [only_normal]
    rename_i hK
    refine hK _ _ ?_
    clear hK
    refine wp_from (Facts := fun V => RunHas S0 w0 m a r (.blk w.heap.size #[.int .u32 s.f.a] :: rs) s V) ?_ (by first | exact HH.out.drew.box rfl _ _ | exact (HH.out.box rfl _ _).drew)
    clear z0 z2 z4 z5 z6 z7
    intro W HW2
    generalize w.heap.size = tb at HW2 ⊢
    obtain ⟨z0, z2, z4, z5, z6, z7⟩ := HW2.facts hop hl rfl rfl
    go_wp2_with fail
    refine (HWT.out _ _ HW2).mono ?_
    rintro e w1 ⟨rfl, H1⟩
    go_wp2_with fail
    refine (run_note H1 (by have := HC.out; first | exact Nat.le_trans this (by decide) | (simp [Rn.note, Rn.did, Rn.setA, Rn.setB, Rn.waited, Rn.goto, Rn.noted]; omega)) 4 0).mono ?_
    rintro e w2 ⟨rfl, H2⟩
    go_wp2_with fail
    go_end0
    exact ⟨rfl, H2.unbox⟩
  · go_enter Try.func131, Try.ntmps131
    go_wp2_with fail
    refine region_flat_call 5 rfl (by kernel_rfl) (by kernel_rfl) ?_
    simp only [List.take_succ_cons, List.take_zero, List.drop_succ_cons, List.drop_zero, probed, probes, List.nil_append, List.cons_append, probe]
    go_wp2_with fail
    rw [only_normal]
    refine half_static (.int .u32 0) rfl rfl (enters_of Try.func132 (by kernel_rfl) rfl) (by simp [Act.eval]) (fun W t => pf_own_no (HH.out.drew.grow t) hop hl) ?_
    simp only [probed, probes, List.nil_append, List.cons_append, probe]
    go_wp2_with fail
    rw [only_normal]
    rename_i hK
    refine hK _ _ ?_
    clear hK
    refine wp_from (Facts := fun V => RunHas S0 w0 m a r (.blk w.heap.size #[.int .u32 s.f.a] :: rs) s V) ?_ (by first | exact HH.out.drew.box rfl _ _ | exact (HH.out.box rfl _ _).drew)
    clear z0 z2 z4 z5 z6 z7
    intro W HW2
    generalize w.heap.size = tb at HW2 ⊢
    obtain ⟨z0, z2, z4, z5, z6, z7⟩ := HW2.facts hop hl rfl rfl
    go_wp2_with fail
    refine (HWT.out _ _ HW2).mono ?_
    rintro e w1 ⟨rfl, H1⟩
    go_wp2_with fail
    refine (run_note H1 (by have := HC.out; first | exact Nat.le_trans this (by decide) | (simp [Rn.note, Rn.did, Rn.setA, Rn.setB, Rn.waited, Rn.goto, Rn.noted]; omega)) 4 0).mono ?_
    rintro e w2 ⟨rfl, H2⟩
    go_wp2_with fail
    refine (rn_end H2 true).mono ?_
    rintro e w3 ⟨rfl, H3⟩
    go_wp2_with fail
    go_end0
    exact ⟨rfl, H3.unbox⟩

def pft76 (s : Rn) : Rn :=
  pfLast6 s

set_option maxHeartbeats 800000 in
theorem pf_t76 {S0 : List Nat} {w0 w : World} {m a r : Nat} {rs : List Res} {s : Rn} (H : RunHas S0 w0 m a r rs s w) (hop : s.f.op = 6) (hl : s.f.line = 7) (hn : I64 s.n) (ha : 0 ≤ s.f.a ∧ s.f.a < 4294967296) (hb : 0 ≤ s.f.b ∧ s.f.b < 4294967296) (hc : s.notes.length ≤ 900) :
    Calls Try.prog 125 #[.pointer (some ⟨r, 0, none⟩)] w fun e w' => e = .returned (.tuple #[]) ∧ RunHas S0 w0 m a r rs (pft76 s) w' := by
  obtain ⟨z0, z2, z4, z5, z6, z7⟩ := H.facts hop hl rfl rfl
  have HC := Lib.hid hc
  have HA := Lib.hid ha
  have HBB := Lib.hid hb
  have HN := Lib.hid hn
  have HH := Lib.hid H
  clear hc H hn ha hb
  unfold pft76
  (try dsimp only)
  go_enter Try.func125, Try.ntmps125
  go_wp2_with fail
  refine (pf_last6 HH.out hop hl HN.out HA.out HC.out).mono ?_
  rintro e w1 ⟨rfl, H1⟩
  go_wp2_with fail
  go_end0
  exact ⟨rfl, H1⟩

def pfLast7 (s : Rn) : Rn :=
  let s1 := s.waited (waitA s.L s.n s.mode s.task s.f.st 1 (fun v => v == ((s.f.a - 256) % 4294967296)))
  let s2 := if (waitA s.L s.n s.mode s.task s.f.st 1 (fun v => v == ((s.f.a - 256) % 4294967296))).seen then s1.note 9 0 else s1
  if (waitA s.L s.n s.mode s.task s.f.st 1 (fun v => v == ((s.f.a - 256) % 4294967296))).done then s2.goto 8 else s2

set_option maxHeartbeats 1600000 in
theorem pf_last7 {S0 : List Nat} {w0 w : World} {m a r : Nat} {rs : List Res} {s : Rn} (H : RunHas S0 w0 m a r rs s w) {l : Int} (hop : s.f.op = 7) (hl : s.f.line = l) (hn : I64 s.n) (ha : 0 ≤ s.f.a ∧ s.f.a < 4294967296) (hc : s.notes.length ≤ 900) :
    Calls Try.prog 131 #[.pointer (some ⟨r, 0, none⟩)] w fun e w' => e = .returned (.tuple #[]) ∧ RunHas S0 w0 m a r rs (pfLast7 s) w' := by
  obtain ⟨z0, z2, z4, z5, z6, z7⟩ := H.facts hop hl rfl rfl
  have HC := Lib.hid hc
  have HN := Lib.hid hn
  have HH := Lib.hid H
  clear hc H hn
  unfold pfLast7
  dsimp only
  have hwt := fun (t2 : Nat) W (H : RunHas S0 w0 m a r (.blk t2 #[.int .u32 ((s.f.a - 256) % 4294967296)] :: rs) s W) => rn_wait H HN.out 1 133 #[] #[.pointer (some ⟨t2, 0, none⟩)] (fun v => v == ((s.f.a - 256) % 4294967296)) (enters_of Try.func133 (by kernel_rfl) rfl) (fun W v h0 h1 H => pf_mine2 ((s.f.a - 256) % 4294967296) v W H.first)
  cases hs : (waitA s.L s.n s.mode s.task s.f.st 1 (fun v => v == ((s.f.a - 256) % 4294967296))).seen <;> cases hd : (waitA s.L s.n s.mode s.task s.f.st 1 (fun v => v == ((s.f.a - 256) % 4294967296))).done <;> rw [hs, hd] at hwt <;> simp only [if_true, Bool.false_eq_true, if_false] <;> (have HWT := Lib.hid hwt) <;> clear hwt hs hd
  · go_enter Try.func131, Try.ntmps131
    go_wp2_with fail
    refine region_flat_call 5 rfl (by kernel_rfl) (by kernel_rfl) ?_
    simp only [List.take_succ_cons, List.take_zero, List.drop_succ_cons, List.drop_zero, probed, probes, List.nil_append, List.cons_append, probe]
    go_wp2_with fail
    rw [only_normal]
    refine half_static (.int .u32 256) rfl rfl (enters_of Try.func132 (by kernel_rfl) rfl) (by simp [Act.eval]) (fun W t => pf_own_up (HH.out.drew.grow t) hop hl) ?_
    simp only [probed, probes, List.nil_append, List.cons_append, probe]
    go_wp2_with fail
    rw [only_normal]
    rename_i hK
    refine hK _ _ ?_
    clear hK
    refine wp_from (Facts := fun V => RunHas S0 w0 m a r (.blk w.heap.size #[.int .u32 ((s.f.a - 256) % 4294967296)] :: rs) s V) ?_ (by first | exact HH.out.drew.box rfl _ _ | exact (HH.out.box rfl _ _).drew)
    clear z0 z2 z4 z5 z6 z7
    intro W HW2
    generalize w.heap.size = tb at HW2 ⊢
    obtain ⟨z0, z2, z4, z5, z6, z7⟩ := HW2.facts hop hl rfl rfl
    go_wp2_with fail
    refine (HWT.out _ _ HW2).mono ?_
    rintro e w1 ⟨rfl, H1⟩
    go_wp2_with fail
    go_end0
    exact ⟨rfl, H1.unbox⟩
  · go_enter Try.func131, Try.ntmps131
    go_wp2_with fail
    refine region_flat_call 5 rfl (by kernel_rfl) (by kernel_rfl) ?_
    simp only [List.take_succ_cons, List.take_zero, List.drop_succ_cons, List.drop_zero, probed, probes, List.nil_append, List.cons_append, probe]
    go_wp2_with fail
    rw [only_normal]
    refine half_static (.int .u32 256) rfl rfl (enters_of Try.func132 (by kernel_rfl) rfl) (by simp [Act.eval]) (fun W t => pf_own_up (HH.out.drew.grow t) hop hl) ?_
    simp only [probed, probes, List.nil_append, List.cons_append, probe]
    go_wp2_with fail
    rw [only_normal]
    rename_i hK
    refine hK _ _ ?_
    clear hK
    refine wp_from (Facts := fun V => RunHas S0 w0 m a r (.blk w.heap.size #[.int .u32 ((s.f.a - 256) % 4294967296)] :: rs) s V) ?_ (by first | exact HH.out.drew.box rfl _ _ | exact (HH.out.box rfl _ _).drew)
    clear z0 z2 z4 z5 z6 z7
    intro W HW2
    generalize w.heap.size = tb at HW2 ⊢
    obtain ⟨z0, z2, z4, z5, z6, z7⟩ := HW2.facts hop hl rfl rfl
    go_wp2_with fail
    refine (HWT.out _ _ HW2).mono ?_
    rintro e w1 ⟨rfl, H1⟩
    go_wp2_with fail
    refine (rn_go H1 8).mono ?_
    rintro e w2 ⟨rfl, H2⟩
    go_wp2_with fail
    go_end0
    exact ⟨rfl, H2.unbox⟩
  · go_enter Try.func131, Try.ntmps131
    go_wp2_with fail
    refine region_flat_call 5 rfl (by kernel_rfl) (by kernel_rfl) ?_
    simp only [List.take_succ_cons, List.take_zero, List.drop_succ_cons, List.drop_zero, probed, probes, List.nil_append, List.cons_append, probe]
    go_wp2_with fail
    rw [only_normal]
    refine half_static (.int .u32 256) rfl rfl (enters_of Try.func132 (by kernel_rfl) rfl) (by simp [Act.eval]) (fun W t => pf_own_up (HH.out.drew.grow t) hop hl) ?_
    simp only [probed, probes, List.nil_append, List.cons_append, probe]
    go_wp2_with fail
    rw [only_normal]
    rename_i hK
    refine hK _ _ ?_
    clear hK
    refine wp_from (Facts := fun V => RunHas S0 w0 m a r (.blk w.heap.size #[.int .u32 ((s.f.a - 256) % 4294967296)] :: rs) s V) ?_ (by first | exact HH.out.drew.box rfl _ _ | exact (HH.out.box rfl _ _).drew)
    clear z0 z2 z4 z5 z6 z7
    intro W HW2
    generalize w.heap.size = tb at HW2 ⊢
    obtain ⟨z0, z2, z4, z5, z6, z7⟩ := HW2.facts hop hl rfl rfl
    go_wp2_with fail
    refine (HWT.out _ _ HW2).mono ?_
    rintro e w1 ⟨rfl, H1⟩
    go_wp2_with fail
    refine (run_note H1 (by have := HC.out; first | exact Nat.le_trans this (by decide) | (simp [Rn.note, Rn.did, Rn.setA, Rn.setB, Rn.waited, Rn.goto, Rn.noted]; omega)) 9 0).mono ?_
    rintro e w2 ⟨rfl, H2⟩
    go_wp2_with fail
    go_end0
    exact ⟨rfl, H2.unbox⟩
  · go_enter Try.func131, Try.ntmps131
    go_wp2_with fail
    refine region_flat_call 5 rfl (by kernel_rfl) (by kernel_rfl) ?_
    simp only [List.take_succ_cons, List.take_zero, List.drop_succ_cons, List.drop_zero, probed, probes, List.nil_append, List.cons_append, probe]
    go_wp2_with fail
    rw [only_normal]
    refine half_static (.int .u32 256) rfl rfl (enters_of Try.func132 (by kernel_rfl) rfl) (by simp [Act.eval]) (fun W t => pf_own_up (HH.out.drew.grow t) hop hl) ?_
    simp only [probed, probes, List.nil_append, List.cons_append, probe]
    go_wp2_with fail
    rw [only_normal]
    rename_i hK
    refine hK _ _ ?_
    clear hK
    refine wp_from (Facts := fun V => RunHas S0 w0 m a r (.blk w.heap.size #[.int .u32 ((s.f.a - 256) % 4294967296)] :: rs) s V) ?_ (by first | exact HH.out.drew.box rfl _ _ | exact (HH.out.box rfl _ _).drew)
    clear z0 z2 z4 z5 z6 z7
    intro W HW2
    generalize w.heap.size = tb at HW2 ⊢
    obtain ⟨z0, z2, z4, z5, z6, z7⟩ := HW2.facts hop hl rfl rfl
    go_wp2_with fail
    refine (HWT.out _ _ HW2).mono ?_
    rintro e w1 ⟨rfl, H1⟩
    go_wp2_with fail
    refine (run_note H1 (by have := HC.out; first | exact Nat.le_trans this (by decide) | (simp [Rn.note, Rn.did, Rn.setA, Rn.setB, Rn.waited, Rn.goto, Rn.noted]; omega)) 9 0).mono ?_
    rintro e w2 ⟨rfl, H2⟩
    go_wp2_with fail
    refine (rn_go H2 8).mono ?_
    rintro e w3 ⟨rfl, H3⟩
    go_wp2_with fail
    go_end0
    exact ⟨rfl, H3.unbox⟩

def pft77 (s : Rn) : Rn :=
  pfLast7 s

set_option maxHeartbeats 800000 in
theorem pf_t77 {S0 : List Nat} {w0 w : World} {m a r : Nat} {rs : List Res} {s : Rn} (H : RunHas S0 w0 m a r rs s w) (hop : s.f.op = 7) (hl : s.f.line = 7) (hn : I64 s.n) (ha : 0 ≤ s.f.a ∧ s.f.a < 4294967296) (hb : 0 ≤ s.f.b ∧ s.f.b < 4294967296) (hc : s.notes.length ≤ 900) :
    Calls Try.prog 125 #[.pointer (some ⟨r, 0, none⟩)] w fun e w' => e = .returned (.tuple #[]) ∧ RunHas S0 w0 m a r rs (pft77 s) w' := by
  obtain ⟨z0, z2, z4, z5, z6, z7⟩ := H.facts hop hl rfl rfl
  have HC := Lib.hid hc
  have HA := Lib.hid ha
  have HBB := Lib.hid hb
  have HN := Lib.hid hn
  have HH := Lib.hid H
  clear hc H hn ha hb
  unfold pft77
  (try dsimp only)
  go_enter Try.func125, Try.ntmps125
  go_wp2_with fail
  refine (pf_last7 HH.out hop hl HN.out HA.out HC.out).mono ?_
  rintro e w1 ⟨rfl, H1⟩
  go_wp2_with fail
  go_end0
  exact ⟨rfl, H1⟩

def pft87 (s : Rn) : Rn :=
  (s.did (doA s.L ⟨3, 1, 256, 0, 0⟩)).fin true

set_option maxHeartbeats 800000 in
theorem pf_t87 {S0 : List Nat} {w0 w : World} {m a r : Nat} {rs : List Res} {s : Rn} (H : RunHas S0 w0 m a r rs s w) (hop : s.f.op = 7) (hl : s.f.line = 8) (hn : I64 s.n) (ha : 0 ≤ s.f.a ∧ s.f.a < 4294967296) (hb : 0 ≤ s.f.b ∧ s.f.b < 4294967296) (hc : s.notes.length ≤ 900) :
    Calls Try.prog 125 #[.pointer (some ⟨r, 0, none⟩)] w fun e w' => e = .returned (.tuple #[]) ∧ RunHas S0 w0 m a r rs (pft87 s) w' := by
  obtain ⟨z0, z2, z4, z5, z6, z7⟩ := H.facts hop hl rfl rfl
  have HC := Lib.hid hc
  have HA := Lib.hid ha
  have HBB := Lib.hid hb
  have HN := Lib.hid hn
  have HH := Lib.hid H
  clear hc H hn ha hb
  unfold pft87
  (try dsimp only)
  go_enter Try.func125, Try.ntmps125
  go_wp2_with fail
  refine (rn_add HH.out 1 256 (by decide)).mono ?_
  rintro e w1 ⟨rfl, H1⟩
  go_wp2_with fail
  refine (rn_end H1 true).mono ?_
  rintro e w2 ⟨rfl, H2⟩
  go_wp2_with fail
  go_end0
  exact ⟨rfl, H2⟩

def pft86 (s : Rn) : Rn :=
  s

set_option maxHeartbeats 800000 in
theorem pf_t86 {S0 : List Nat} {w0 w : World} {m a r : Nat} {rs : List Res} {s : Rn} (H : RunHas S0 w0 m a r rs s w) (hop : s.f.op = 6) (hl : s.f.line = 8) (hn : I64 s.n) (ha : 0 ≤ s.f.a ∧ s.f.a < 4294967296) (hb : 0 ≤ s.f.b ∧ s.f.b < 4294967296) (hc : s.notes.length ≤ 900) :
    Calls Try.prog 125 #[.pointer (some ⟨r, 0, none⟩)] w fun e w' => e = .returned (.tuple #[]) ∧ RunHas S0 w0 m a r rs (pft86 s) w' := by
  obtain ⟨z0, z2, z4, z5, z6, z7⟩ := H.facts hop hl rfl rfl
  have HC := Lib.hid hc
  have HA := Lib.hid ha
  have HBB := Lib.hid hb
  have HN := Lib.hid hn
  have HH := Lib.hid H
  clear hc H hn ha hb
  unfold pft86
  (try dsimp only)
  go_enter Try.func125, Try.ntmps125
  go_wp2_with fail
  go_end0
  exact ⟨rfl, HH.out⟩

end Go.Proofs.Ytmbbcgkfankiaaa.Z
