/- Package pf: a writer's lines. Written by genpf2.py. -/
import Derived.Test.YtmbbcgkfankiaaaZPf
import Derived.Deep.RegionHeld3
import Derived.Deep.DrawnRows
set_option linter.unusedVariables false
set_option linter.unusedSimpArgs false
namespace Go.Proofs.Ytmbbcgkfankiaaa.Z
open Go.RowKit

attribute [local go_sem ↓] Go.wp_at_zero Go.wp_at_succ

def pf30 (s : Rn) : Rn :=
  (((s.did (doA s.L ⟨3, 2, 1, 0, 0⟩)).setA (doA s.L ⟨3, 2, 1, 0, 0⟩).1.old).note 2 2).goto 1

set_option maxHeartbeats 800000 in
theorem pf_30 {S0 : List Nat} {w0 w : World} {m a r : Nat} {rs : List Res} {s : Rn} (H : RunHas S0 w0 m a r rs s w) (hop : s.f.op = 3) (hl : s.f.line = 0) (hn : I64 s.n) (ha : 0 ≤ s.f.a ∧ s.f.a < 4294967296) (hb : 0 ≤ s.f.b ∧ s.f.b < 4294967296) (hc : s.notes.length ≤ 900) :
    Calls Try.prog 74 #[.pointer (some ⟨r, 0, none⟩)] w fun e w' => e = .returned (.tuple #[]) ∧ RunHas S0 w0 m a r rs (pf30 s) w' := by
  obtain ⟨z0, z2, z4, z5, z6, z7⟩ := H.facts hop hl rfl rfl
  have HC := Lib.hid hc
  have HA := Lib.hid ha
  have HBB := Lib.hid hb
  have HN := Lib.hid hn
  have HH := Lib.hid H
  clear hc H hn ha hb
  unfold pf30
  (try dsimp only)
  go_enter Try.func74, Try.ntmps74
  go_wp2_with fail
  refine (pf_r_none HH.out hop hl (by decide) (by decide) (by decide) (by decide) (by decide)).mono ?_
  rintro e w1 ⟨rfl, H1⟩
  clear z0 z2 z4 z5 z6 z7
  obtain ⟨z0, z2, z4, z5, z6, z7⟩ := H1.facts hop hl rfl rfl
  go_wp2_with fail
  refine region_flat_call 8 rfl (by kernel_rfl) (by kernel_rfl) ?_
  simp only [List.take_succ_cons, List.take_zero, List.drop_succ_cons, List.drop_zero, probed, probes, List.nil_append, List.cons_append, probe]
  go_wp2_with fail
  rw [only_normal]
  refine half_static (.int .u32 (pfP s.f.b)) rfl rfl (enters_of Try.func108 (by kernel_rfl) rfl) (by simp [Act.eval]) (fun W _ => pf_presence s.f.b W HBB.out) ?_
  simp only [probed, probes, List.nil_append]
  go_wp2_with fail
  rw [only_normal]
  rename_i hK
  refine hK _ _ ?_
  clear hK
  refine wp_from (Facts := fun V => RunHas S0 w0 m a r (.blk w1.heap.size #[.int .u32 s.f.a] :: rs) s V) ?_ (by first | exact H1.drew.box rfl _ _ | exact (H1.box rfl _ _).drew)
  clear z0 z2 z4 z5 z6 z7 H1
  intro W HW
  generalize w1.heap.size = tb at HW ⊢
  obtain ⟨z0, z2, z4, z5, z6, z7⟩ := HW.facts hop hl rfl rfl
  go_wp2_with fail
  go_quiet (fail)
  have HW2 := HW.drewN nq
  clear z0 z2 z4 z5 z6 z7 HW
  generalize W.drewN nq = W2 at HW2 ⊢
  obtain ⟨z0, z2, z4, z5, z6, z7⟩ := HW2.facts hop hl rfl rfl
  go_wp2_with fail
  refine (rn_add HW2 2 1 (by decide)).mono ?_
  rintro e w1 ⟨rfl, H1⟩
  obtain ⟨x0, x2, x4, x5, x6, x7⟩ := H1.facts hop hl rfl rfl
  go_wp2_with fail
  refine (run_note (H1.setA (doA s.L ⟨3, 2, 1, 0, 0⟩).1.old) (by have := HC.out; first | exact Nat.le_trans this (by decide) | (simp [Rn.note, Rn.did, Rn.setA, Rn.setB, Rn.waited, Rn.goto, Rn.noted]; omega)) 2 2).mono ?_
  rintro e w2 ⟨rfl, H2⟩
  go_wp2_with fail
  refine (rn_go H2 1).mono ?_
  rintro e w3 ⟨rfl, H3⟩
  go_wp2_with fail
  go_end0
  exact ⟨rfl, H3.unbox⟩

def pf31 (s : Rn) : Rn :=
  let s1 := s.waited (waitA s.L s.n s.mode s.task s.f.st 3 (fun v => v == s.f.a))
  if (waitA s.L s.n s.mode s.task s.f.st 3 (fun v => v == s.f.a)).done then s1.goto 2 else s1

set_option maxHeartbeats 800000 in
theorem pf_31 {S0 : List Nat} {w0 w : World} {m a r : Nat} {rs : List Res} {s : Rn} (H : RunHas S0 w0 m a r rs s w) (hop : s.f.op = 3) (hl : s.f.line = 1) (hn : I64 s.n) (ha : 0 ≤ s.f.a ∧ s.f.a < 4294967296) (hb : 0 ≤ s.f.b ∧ s.f.b < 4294967296) (hc : s.notes.length ≤ 900) :
    Calls Try.prog 74 #[.pointer (some ⟨r, 0, none⟩)] w fun e w' => e = .returned (.tuple #[]) ∧ RunHas S0 w0 m a r rs (pf31 s) w' := by
  obtain ⟨z0, z2, z4, z5, z6, z7⟩ := H.facts hop hl rfl rfl
  have HC := Lib.hid hc
  have HA := Lib.hid ha
  have HBB := Lib.hid hb
  have HN := Lib.hid hn
  have HH := Lib.hid H
  clear hc H hn ha hb
  unfold pf31
  (try dsimp only)
  have hwt := fun (t2 : Nat) W (H : RunHas S0 w0 m a r (.blk t2 #[.int .u32 s.f.a] :: rs) s W) => rn_wait H HN.out 3 109 #[] #[.pointer (some ⟨t2, 0, none⟩)] (fun v => v == s.f.a) (enters_of Try.func109 (by kernel_rfl) rfl) (fun W v h0 h1 H => pf_mine s.f.a v W H.first)
  cases hs : (waitA s.L s.n s.mode s.task s.f.st 3 (fun v => v == s.f.a)).seen <;> cases hd : (waitA s.L s.n s.mode s.task s.f.st 3 (fun v => v == s.f.a)).done <;> rw [hs, hd] at hwt <;> simp only [if_true, Bool.false_eq_true, if_false] <;> (have HWT := Lib.hid hwt) <;> clear hwt hs hd
  · go_enter Try.func74, Try.ntmps74
    go_wp2_with fail
    refine (pf_r_none HH.out hop hl (by decide) (by decide) (by decide) (by decide) (by decide)).mono ?_
    rintro e w1 ⟨rfl, H1⟩
    clear z0 z2 z4 z5 z6 z7
    obtain ⟨z0, z2, z4, z5, z6, z7⟩ := H1.facts hop hl rfl rfl
    go_wp2_with fail
    refine region_flat_call 8 rfl (by kernel_rfl) (by kernel_rfl) ?_
    simp only [List.take_succ_cons, List.take_zero, List.drop_succ_cons, List.drop_zero, probed, probes, List.nil_append, List.cons_append, probe]
    go_wp2_with fail
    rw [only_normal]
    refine half_static (.int .u32 (pfP s.f.b)) rfl rfl (enters_of Try.func108 (by kernel_rfl) rfl) (by simp [Act.eval]) (fun W _ => pf_presence s.f.b W HBB.out) ?_
    simp only [probed, probes, List.nil_append]
    go_wp2_with fail
    rw [only_normal]
    rename_i hK
    refine hK _ _ ?_
    clear hK
    refine wp_from (Facts := fun V => RunHas S0 w0 m a r (.blk w1.heap.size #[.int .u32 s.f.a] :: rs) s V) ?_ (by first | exact H1.drew.box rfl _ _ | exact (H1.box rfl _ _).drew)
    clear z0 z2 z4 z5 z6 z7 H1
    intro W HW
    generalize w1.heap.size = tb at HW ⊢
    obtain ⟨z0, z2, z4, z5, z6, z7⟩ := HW.facts hop hl rfl rfl
    go_wp2_with fail
    go_quiet (fail)
    have HW2 := HW.drewN nq
    clear z0 z2 z4 z5 z6 z7 HW
    generalize W.drewN nq = W2 at HW2 ⊢
    obtain ⟨z0, z2, z4, z5, z6, z7⟩ := HW2.facts hop hl rfl rfl
    go_wp2_with fail
    refine (HWT.out _ _ HW2).mono ?_
    rintro e w1 ⟨rfl, H1⟩
    go_wp2_with fail
    go_end0
    exact ⟨rfl, H1.unbox⟩
  · go_enter Try.func74, Try.ntmps74
    go_wp2_with fail
    refine (pf_r_none HH.out hop hl (by decide) (by decide) (by decide) (by decide) (by decide)).mono ?_
    rintro e w1 ⟨rfl, H1⟩
    clear z0 z2 z4 z5 z6 z7
    obtain ⟨z0, z2, z4, z5, z6, z7⟩ := H1.facts hop hl rfl rfl
    go_wp2_with fail
    refine region_flat_call 8 rfl (by kernel_rfl) (by kernel_rfl) ?_
    simp only [List.take_succ_cons, List.take_zero, List.drop_succ_cons, List.drop_zero, probed, probes, List.nil_append, List.cons_append, probe]
    go_wp2_with fail
    rw [only_normal]
    refine half_static (.int .u32 (pfP s.f.b)) rfl rfl (enters_of Try.func108 (by kernel_rfl) rfl) (by simp [Act.eval]) (fun W _ => pf_presence s.f.b W HBB.out) ?_
    simp only [probed, probes, List.nil_append]
    go_wp2_with fail
    rw [only_normal]
    rename_i hK
    refine hK _ _ ?_
    clear hK
    refine wp_from (Facts := fun V => RunHas S0 w0 m a r (.blk w1.heap.size #[.int .u32 s.f.a] :: rs) s V) ?_ (by first | exact H1.drew.box rfl _ _ | exact (H1.box rfl _ _).drew)
    clear z0 z2 z4 z5 z6 z7 H1
    intro W HW
    generalize w1.heap.size = tb at HW ⊢
    obtain ⟨z0, z2, z4, z5, z6, z7⟩ := HW.facts hop hl rfl rfl
    go_wp2_with fail
    go_quiet (fail)
    have HW2 := HW.drewN nq
    clear z0 z2 z4 z5 z6 z7 HW
    generalize W.drewN nq = W2 at HW2 ⊢
    obtain ⟨z0, z2, z4, z5, z6, z7⟩ := HW2.facts hop hl rfl rfl
    go_wp2_with fail
    refine (HWT.out _ _ HW2).mono ?_
    rintro e w1 ⟨rfl, H1⟩
    go_wp2_with fail
    refine (rn_go H1 2).mono ?_
    rintro e w2 ⟨rfl, H2⟩
    go_wp2_with fail
    go_end0
    exact ⟨rfl, H2.unbox⟩
  · go_enter Try.func74, Try.ntmps74
    go_wp2_with fail
    refine (pf_r_none HH.out hop hl (by decide) (by decide) (by decide) (by decide) (by decide)).mono ?_
    rintro e w1 ⟨rfl, H1⟩
    clear z0 z2 z4 z5 z6 z7
    obtain ⟨z0, z2, z4, z5, z6, z7⟩ := H1.facts hop hl rfl rfl
    go_wp2_with fail
    refine region_flat_call 8 rfl (by kernel_rfl) (by kernel_rfl) ?_
    simp only [List.take_succ_cons, List.take_zero, List.drop_succ_cons, List.drop_zero, probed, probes, List.nil_append, List.cons_append, probe]
    go_wp2_with fail
    rw [only_normal]
    refine half_static (.int .u32 (pfP s.f.b)) rfl rfl (enters_of Try.func108 (by kernel_rfl) rfl) (by simp [Act.eval]) (fun W _ => pf_presence s.f.b W HBB.out) ?_
    simp only [probed, probes, List.nil_append]
    go_wp2_with fail
    rw [only_normal]
    rename_i hK
    refine hK _ _ ?_
    clear hK
    refine wp_from (Facts := fun V => RunHas S0 w0 m a r (.blk w1.heap.size #[.int .u32 s.f.a] :: rs) s V) ?_ (by first | exact H1.drew.box rfl _ _ | exact (H1.box rfl _ _).drew)
    clear z0 z2 z4 z5 z6 z7 H1
    intro W HW
    generalize w1.heap.size = tb at HW ⊢
    obtain ⟨z0, z2, z4, z5, z6, z7⟩ := HW.facts hop hl rfl rfl
    go_wp2_with fail
    go_quiet (fail)
    have HW2 := HW.drewN nq
    clear z0 z2 z4 z5 z6 z7 HW
    generalize W.drewN nq = W2 at HW2 ⊢
    obtain ⟨z0, z2, z4, z5, z6, z7⟩ := HW2.facts hop hl rfl rfl
    go_wp2_with fail
    refine (HWT.out _ _ HW2).mono ?_
    rintro e w1 ⟨rfl, H1⟩
    go_wp2_with fail
    go_end0
    exact ⟨rfl, H1.unbox⟩
  · go_enter Try.func74, Try.ntmps74
    go_wp2_with fail
    refine (pf_r_none HH.out hop hl (by decide) (by decide) (by decide) (by decide) (by decide)).mono ?_
    rintro e w1 ⟨rfl, H1⟩
    clear z0 z2 z4 z5 z6 z7
    obtain ⟨z0, z2, z4, z5, z6, z7⟩ := H1.facts hop hl rfl rfl
    go_wp2_with fail
    refine region_flat_call 8 rfl (by kernel_rfl) (by kernel_rfl) ?_
    simp only [List.take_succ_cons, List.take_zero, List.drop_succ_cons, List.drop_zero, probed, probes, List.nil_append, List.cons_append, probe]
    go_wp2_with fail
    rw [only_normal]
    refine half_static (.int .u32 (pfP s.f.b)) rfl rfl (enters_of Try.func108 (by kernel_rfl) rfl) (by simp [Act.eval]) (fun W _ => pf_presence s.f.b W HBB.out) ?_
    simp only [probed, probes, List.nil_append]
    go_wp2_with fail
    rw [only_normal]
    rename_i hK
    refine hK _ _ ?_
    clear hK
    refine wp_from (Facts := fun V => RunHas S0 w0 m a r (.blk w1.heap.size #[.int .u32 s.f.a] :: rs) s V) ?_ (by first | exact H1.drew.box rfl _ _ | exact (H1.box rfl _ _).drew)
    clear z0 z2 z4 z5 z6 z7 H1
    intro W HW
    generalize w1.heap.size = tb at HW ⊢
    obtain ⟨z0, z2, z4, z5, z6, z7⟩ := HW.facts hop hl rfl rfl
    go_wp2_with fail
    go_quiet (fail)
    have HW2 := HW.drewN nq
    clear z0 z2 z4 z5 z6 z7 HW
    generalize W.drewN nq = W2 at HW2 ⊢
    obtain ⟨z0, z2, z4, z5, z6, z7⟩ := HW2.facts hop hl rfl rfl
    go_wp2_with fail
    refine (HWT.out _ _ HW2).mono ?_
    rintro e w1 ⟨rfl, H1⟩
    go_wp2_with fail
    refine (rn_go H1 2).mono ?_
    rintro e w2 ⟨rfl, H2⟩
    go_wp2_with fail
    go_end0
    exact ⟨rfl, H2.unbox⟩

def pf32 (s : Rn) : Rn :=
  ((s.did (doA s.L ⟨1, 4, 0, 0, 0⟩)).setB (doA s.L ⟨1, 4, 0, 0, 0⟩).1.old).goto 3

set_option maxHeartbeats 800000 in
theorem pf_32 {S0 : List Nat} {w0 w : World} {m a r : Nat} {rs : List Res} {s : Rn} (H : RunHas S0 w0 m a r rs s w) (hop : s.f.op = 3) (hl : s.f.line = 2) (hn : I64 s.n) (ha : 0 ≤ s.f.a ∧ s.f.a < 4294967296) (hb : 0 ≤ s.f.b ∧ s.f.b < 4294967296) (hc : s.notes.length ≤ 900) :
    Calls Try.prog 74 #[.pointer (some ⟨r, 0, none⟩)] w fun e w' => e = .returned (.tuple #[]) ∧ RunHas S0 w0 m a r rs (pf32 s) w' := by
  obtain ⟨z0, z2, z4, z5, z6, z7⟩ := H.facts hop hl rfl rfl
  have HC := Lib.hid hc
  have HA := Lib.hid ha
  have HBB := Lib.hid hb
  have HN := Lib.hid hn
  have HH := Lib.hid H
  clear hc H hn ha hb
  unfold pf32
  (try dsimp only)
  go_enter Try.func74, Try.ntmps74
  go_wp2_with fail
  refine (pf_r_none HH.out hop hl (by decide) (by decide) (by decide) (by decide) (by decide)).mono ?_
  rintro e w1 ⟨rfl, H1⟩
  clear z0 z2 z4 z5 z6 z7
  obtain ⟨z0, z2, z4, z5, z6, z7⟩ := H1.facts hop hl rfl rfl
  go_wp2_with fail
  refine region_flat_call 8 rfl (by kernel_rfl) (by kernel_rfl) ?_
  simp only [List.take_succ_cons, List.take_zero, List.drop_succ_cons, List.drop_zero, probed, probes, List.nil_append, List.cons_append, probe]
  go_wp2_with fail
  rw [only_normal]
  refine half_static (.int .u32 (pfP s.f.b)) rfl rfl (enters_of Try.func108 (by kernel_rfl) rfl) (by simp [Act.eval]) (fun W _ => pf_presence s.f.b W HBB.out) ?_
  simp only [probed, probes, List.nil_append]
  go_wp2_with fail
  rw [only_normal]
  rename_i hK
  refine hK _ _ ?_
  clear hK
  refine wp_from (Facts := fun V => RunHas S0 w0 m a r (.blk w1.heap.size #[.int .u32 s.f.a] :: rs) s V) ?_ (by first | exact H1.drew.box rfl _ _ | exact (H1.box rfl _ _).drew)
  clear z0 z2 z4 z5 z6 z7 H1
  intro W HW
  generalize w1.heap.size = tb at HW ⊢
  obtain ⟨z0, z2, z4, z5, z6, z7⟩ := HW.facts hop hl rfl rfl
  go_wp2_with fail
  go_quiet (fail)
  have HW2 := HW.drewN nq
  clear z0 z2 z4 z5 z6 z7 HW
  generalize W.drewN nq = W2 at HW2 ⊢
  obtain ⟨z0, z2, z4, z5, z6, z7⟩ := HW2.facts hop hl rfl rfl
  go_wp2_with fail
  refine (rn_load HW2 4).mono ?_
  rintro e w1 ⟨rfl, H1⟩
  obtain ⟨x0, x2, x4, x5, x6, x7⟩ := H1.facts hop hl rfl rfl
  go_wp2_with fail
  refine (rn_go (H1.setB (doA s.L ⟨1, 4, 0, 0, 0⟩).1.old) 3).mono ?_
  rintro e w2 ⟨rfl, H2⟩
  go_wp2_with fail
  go_end0
  exact ⟨rfl, H2.unbox⟩

def pf33 (s : Rn) : Rn :=
  (((s.did (doA s.L ⟨3, 0, pfP s.f.b, 0, 0⟩)).setA (doA s.L ⟨3, 0, pfP s.f.b, 0, 0⟩).1.old).note 3 0).goto 4

set_option maxHeartbeats 800000 in
theorem pf_33 {S0 : List Nat} {w0 w : World} {m a r : Nat} {rs : List Res} {s : Rn} (H : RunHas S0 w0 m a r rs s w) (hop : s.f.op = 3) (hl : s.f.line = 3) (hn : I64 s.n) (ha : 0 ≤ s.f.a ∧ s.f.a < 4294967296) (hb : 0 ≤ s.f.b ∧ s.f.b < 4294967296) (hc : s.notes.length ≤ 900) :
    Calls Try.prog 74 #[.pointer (some ⟨r, 0, none⟩)] w fun e w' => e = .returned (.tuple #[]) ∧ RunHas S0 w0 m a r rs (pf33 s) w' := by
  obtain ⟨z0, z2, z4, z5, z6, z7⟩ := H.facts hop hl rfl rfl
  have HC := Lib.hid hc
  have HA := Lib.hid ha
  have HBB := Lib.hid hb
  have HN := Lib.hid hn
  have HH := Lib.hid H
  clear hc H hn ha hb
  unfold pf33
  (try dsimp only)
  go_enter Try.func74, Try.ntmps74
  go_wp2_with fail
  refine (pf_r_none HH.out hop hl (by decide) (by decide) (by decide) (by decide) (by decide)).mono ?_
  rintro e w1 ⟨rfl, H1⟩
  clear z0 z2 z4 z5 z6 z7
  obtain ⟨z0, z2, z4, z5, z6, z7⟩ := H1.facts hop hl rfl rfl
  go_wp2_with fail
  refine region_flat_call 8 rfl (by kernel_rfl) (by kernel_rfl) ?_
  simp only [List.take_succ_cons, List.take_zero, List.drop_succ_cons, List.drop_zero, probed, probes, List.nil_append, List.cons_append, probe]
  go_wp2_with fail
  rw [only_normal]
  refine half_static (.int .u32 (pfP s.f.b)) rfl rfl (enters_of Try.func108 (by kernel_rfl) rfl) (by simp [Act.eval]) (fun W _ => pf_presence s.f.b W HBB.out) ?_
  simp only [probed, probes, List.nil_append]
  go_wp2_with fail
  rw [only_normal]
  rename_i hK
  refine hK _ _ ?_
  clear hK
  refine wp_from (Facts := fun V => RunHas S0 w0 m a r (.blk w1.heap.size #[.int .u32 s.f.a] :: rs) s V) ?_ (by first | exact H1.drew.box rfl _ _ | exact (H1.box rfl _ _).drew)
  clear z0 z2 z4 z5 z6 z7 H1
  intro W HW
  generalize w1.heap.size = tb at HW ⊢
  obtain ⟨z0, z2, z4, z5, z6, z7⟩ := HW.facts hop hl rfl rfl
  go_wp2_with fail
  go_quiet (fail)
  have HW2 := HW.drewN nq
  clear z0 z2 z4 z5 z6 z7 HW
  generalize W.drewN nq = W2 at HW2 ⊢
  obtain ⟨z0, z2, z4, z5, z6, z7⟩ := HW2.facts hop hl rfl rfl
  go_wp2_with fail
  refine (rn_add HW2 0 (pfP s.f.b) (by have : 0 ≤ pfP s.f.b ∧ pfP s.f.b < 4294967296 := (by unfold pfP; omega); omega)).mono ?_
  rintro e w1 ⟨rfl, H1⟩
  obtain ⟨x0, x2, x4, x5, x6, x7⟩ := H1.facts hop hl rfl rfl
  go_wp2_with fail
  refine (run_note (H1.setA (doA s.L ⟨3, 0, pfP s.f.b, 0, 0⟩).1.old) (by have := HC.out; first | exact Nat.le_trans this (by decide) | (simp [Rn.note, Rn.did, Rn.setA, Rn.setB, Rn.waited, Rn.goto, Rn.noted]; omega)) 3 0).mono ?_
  rintro e w2 ⟨rfl, H2⟩
  go_wp2_with fail
  refine (rn_go H2 4).mono ?_
  rintro e w3 ⟨rfl, H3⟩
  go_wp2_with fail
  go_end0
  exact ⟨rfl, H3.unbox⟩

def pf34 (s : Rn) : Rn :=
  let s1 := s.waited (waitA s.L s.n s.mode s.task s.f.st 1 (fun v => v == s.f.a))
  let s2 := if (waitA s.L s.n s.mode s.task s.f.st 1 (fun v => v == s.f.a)).seen then s1.note 4 0 else s1
  if (waitA s.L s.n s.mode s.task s.f.st 1 (fun v => v == s.f.a)).done then s2.fin true else s2

set_option maxHeartbeats 800000 in
theorem pf_34 {S0 : List Nat} {w0 w : World} {m a r : Nat} {rs : List Res} {s : Rn} (H : RunHas S0 w0 m a r rs s w) (hop : s.f.op = 3) (hl : s.f.line = 4) (hn : I64 s.n) (ha : 0 ≤ s.f.a ∧ s.f.a < 4294967296) (hb : 0 ≤ s.f.b ∧ s.f.b < 4294967296) (hc : s.notes.length ≤ 900) :
    Calls Try.prog 74 #[.pointer (some ⟨r, 0, none⟩)] w fun e w' => e = .returned (.tuple #[]) ∧ RunHas S0 w0 m a r rs (pf34 s) w' := by
  obtain ⟨z0, z2, z4, z5, z6, z7⟩ := H.facts hop hl rfl rfl
  have HC := Lib.hid hc
  have HA := Lib.hid ha
  have HBB := Lib.hid hb
  have HN := Lib.hid hn
  have HH := Lib.hid H
  clear hc H hn ha hb
  unfold pf34
  (try dsimp only)
  have hwt := fun (t2 : Nat) W (H : RunHas S0 w0 m a r (.blk t2 #[.int .u32 s.f.a] :: rs) s W) => rn_wait H HN.out 1 109 #[] #[.pointer (some ⟨t2, 0, none⟩)] (fun v => v == s.f.a) (enters_of Try.func109 (by kernel_rfl) rfl) (fun W v h0 h1 H => pf_mine s.f.a v W H.first)
  cases hs : (waitA s.L s.n s.mode s.task s.f.st 1 (fun v => v == s.f.a)).seen <;> cases hd : (waitA s.L s.n s.mode s.task s.f.st 1 (fun v => v == s.f.a)).done <;> rw [hs, hd] at hwt <;> simp only [if_true, Bool.false_eq_true, if_false] <;> (have HWT := Lib.hid hwt) <;> clear hwt hs hd
  · go_enter Try.func74, Try.ntmps74
    go_wp2_with fail
    refine (pf_r_none HH.out hop hl (by decide) (by decide) (by decide) (by decide) (by decide)).mono ?_
    rintro e w1 ⟨rfl, H1⟩
    clear z0 z2 z4 z5 z6 z7
    obtain ⟨z0, z2, z4, z5, z6, z7⟩ := H1.facts hop hl rfl rfl
    go_wp2_with fail
    refine region_flat_call 8 rfl (by kernel_rfl) (by kernel_rfl) ?_
    simp only [List.take_succ_cons, List.take_zero, List.drop_succ_cons, List.drop_zero, probed, probes, List.nil_append, List.cons_append, probe]
    go_wp2_with fail
    rw [only_normal]
    refine half_static (.int .u32 (pfP s.f.b)) rfl rfl (enters_of Try.func108 (by kernel_rfl) rfl) (by simp [Act.eval]) (fun W _ => pf_presence s.f.b W HBB.out) ?_
    simp only [probed, probes, List.nil_append]
    go_wp2_with fail
    rw [only_normal]
    rename_i hK
    refine hK _ _ ?_
    clear hK
    refine wp_from (Facts := fun V => RunHas S0 w0 m a r (.blk w1.heap.size #[.int .u32 s.f.a] :: rs) s V) ?_ (by first | exact H1.drew.box rfl _ _ | exact (H1.box rfl _ _).drew)
    clear z0 z2 z4 z5 z6 z7 H1
    intro W HW
    generalize w1.heap.size = tb at HW ⊢
    obtain ⟨z0, z2, z4, z5, z6, z7⟩ := HW.facts hop hl rfl rfl
    go_wp2_with fail
    go_quiet (fail)
    have HW2 := HW.drewN nq
    clear z0 z2 z4 z5 z6 z7 HW
    generalize W.drewN nq = W2 at HW2 ⊢
    obtain ⟨z0, z2, z4, z5, z6, z7⟩ := HW2.facts hop hl rfl rfl
    go_wp2_with fail
    refine (HWT.out _ _ HW2).mono ?_
    rintro e w1 ⟨rfl, H1⟩
    go_wp2_with fail
    go_end0
    exact ⟨rfl, H1.unbox⟩
  · go_enter Try.func74, Try.ntmps74
    go_wp2_with fail
    refine (pf_r_none HH.out hop hl (by decide) (by decide) (by decide) (by decide) (by decide)).mono ?_
    rintro e w1 ⟨rfl, H1⟩
    clear z0 z2 z4 z5 z6 z7
    obtain ⟨z0, z2, z4, z5, z6, z7⟩ := H1.facts hop hl rfl rfl
    go_wp2_with fail
    refine region_flat_call 8 rfl (by kernel_rfl) (by kernel_rfl) ?_
    simp only [List.take_succ_cons, List.take_zero, List.drop_succ_cons, List.drop_zero, probed, probes, List.nil_append, List.cons_append, probe]
    go_wp2_with fail
    rw [only_normal]
    refine half_static (.int .u32 (pfP s.f.b)) rfl rfl (enters_of Try.func108 (by kernel_rfl) rfl) (by simp [Act.eval]) (fun W _ => pf_presence s.f.b W HBB.out) ?_
    simp only [probed, probes, List.nil_append]
    go_wp2_with fail
    rw [only_normal]
    rename_i hK
    refine hK _ _ ?_
    clear hK
    refine wp_from (Facts := fun V => RunHas S0 w0 m a r (.blk w1.heap.size #[.int .u32 s.f.a] :: rs) s V) ?_ (by first | exact H1.drew.box rfl _ _ | exact (H1.box rfl _ _).drew)
    clear z0 z2 z4 z5 z6 z7 H1
    intro W HW
    generalize w1.heap.size = tb at HW ⊢
    obtain ⟨z0, z2, z4, z5, z6, z7⟩ := HW.facts hop hl rfl rfl
    go_wp2_with fail
    go_quiet (fail)
    have HW2 := HW.drewN nq
    clear z0 z2 z4 z5 z6 z7 HW
    generalize W.drewN nq = W2 at HW2 ⊢
    obtain ⟨z0, z2, z4, z5, z6, z7⟩ := HW2.facts hop hl rfl rfl
    go_wp2_with fail
    refine (HWT.out _ _ HW2).mono ?_
    rintro e w1 ⟨rfl, H1⟩
    go_wp2_with fail
    refine (rn_end H1 true).mono ?_
    rintro e w2 ⟨rfl, H2⟩
    go_wp2_with fail
    go_end0
    exact ⟨rfl, H2.unbox⟩
  · go_enter Try.func74, Try.ntmps74
    go_wp2_with fail
    refine (pf_r_none HH.out hop hl (by decide) (by decide) (by decide) (by decide) (by decide)).mono ?_
    rintro e w1 ⟨rfl, H1⟩
    clear z0 z2 z4 z5 z6 z7
    obtain ⟨z0, z2, z4, z5, z6, z7⟩ := H1.facts hop hl rfl rfl
    go_wp2_with fail
    refine region_flat_call 8 rfl (by kernel_rfl) (by kernel_rfl) ?_
    simp only [List.take_succ_cons, List.take_zero, List.drop_succ_cons, List.drop_zero, probed, probes, List.nil_append, List.cons_append, probe]
    go_wp2_with fail
    rw [only_normal]
    refine half_static (.int .u32 (pfP s.f.b)) rfl rfl (enters_of Try.func108 (by kernel_rfl) rfl) (by simp [Act.eval]) (fun W _ => pf_presence s.f.b W HBB.out) ?_
    simp only [probed, probes, List.nil_append]
    go_wp2_with fail
    rw [only_normal]
    rename_i hK
    refine hK _ _ ?_
    clear hK
    refine wp_from (Facts := fun V => RunHas S0 w0 m a r (.blk w1.heap.size #[.int .u32 s.f.a] :: rs) s V) ?_ (by first | exact H1.drew.box rfl _ _ | exact (H1.box rfl _ _).drew)
    clear z0 z2 z4 z5 z6 z7 H1
    intro W HW
    generalize w1.heap.size = tb at HW ⊢
    obtain ⟨z0, z2, z4, z5, z6, z7⟩ := HW.facts hop hl rfl rfl
    go_wp2_with fail
    go_quiet (fail)
    have HW2 := HW.drewN nq
    clear z0 z2 z4 z5 z6 z7 HW
    generalize W.drewN nq = W2 at HW2 ⊢
    obtain ⟨z0, z2, z4, z5, z6, z7⟩ := HW2.facts hop hl rfl rfl
    go_wp2_with fail
    refine (HWT.out _ _ HW2).mono ?_
    rintro e w1 ⟨rfl, H1⟩
    go_wp2_with fail
    refine (run_note H1 (by have := HC.out; first | exact Nat.le_trans this (by decide) | (simp [Rn.note, Rn.did, Rn.setA, Rn.setB, Rn.waited, Rn.goto, Rn.noted]; omega)) 4 0).mono ?_
    rintro e w2 ⟨rfl, H2⟩
    go_wp2_with fail
    go_end0
    exact ⟨rfl, H2.unbox⟩
  · go_enter Try.func74, Try.ntmps74
    go_wp2_with fail
    refine (pf_r_none HH.out hop hl (by decide) (by decide) (by decide) (by decide) (by decide)).mono ?_
    rintro e w1 ⟨rfl, H1⟩
    clear z0 z2 z4 z5 z6 z7
    obtain ⟨z0, z2, z4, z5, z6, z7⟩ := H1.facts hop hl rfl rfl
    go_wp2_with fail
    refine region_flat_call 8 rfl (by kernel_rfl) (by kernel_rfl) ?_
    simp only [List.take_succ_cons, List.take_zero, List.drop_succ_cons, List.drop_zero, probed, probes, List.nil_append, List.cons_append, probe]
    go_wp2_with fail
    rw [only_normal]
    refine half_static (.int .u32 (pfP s.f.b)) rfl rfl (enters_of Try.func108 (by kernel_rfl) rfl) (by simp [Act.eval]) (fun W _ => pf_presence s.f.b W HBB.out) ?_
    simp only [probed, probes, List.nil_append]
    go_wp2_with fail
    rw [only_normal]
    rename_i hK
    refine hK _ _ ?_
    clear hK
    refine wp_from (Facts := fun V => RunHas S0 w0 m a r (.blk w1.heap.size #[.int .u32 s.f.a] :: rs) s V) ?_ (by first | exact H1.drew.box rfl _ _ | exact (H1.box rfl _ _).drew)
    clear z0 z2 z4 z5 z6 z7 H1
    intro W HW
    generalize w1.heap.size = tb at HW ⊢
    obtain ⟨z0, z2, z4, z5, z6, z7⟩ := HW.facts hop hl rfl rfl
    go_wp2_with fail
    go_quiet (fail)
    have HW2 := HW.drewN nq
    clear z0 z2 z4 z5 z6 z7 HW
    generalize W.drewN nq = W2 at HW2 ⊢
    obtain ⟨z0, z2, z4, z5, z6, z7⟩ := HW2.facts hop hl rfl rfl
    go_wp2_with fail
    refine (HWT.out _ _ HW2).mono ?_
    rintro e w1 ⟨rfl, H1⟩
    go_wp2_with fail
    refine (run_note H1 (by have := HC.out; first | exact Nat.le_trans this (by decide) | (simp [Rn.note, Rn.did, Rn.setA, Rn.setB, Rn.waited, Rn.goto, Rn.noted]; omega)) 4 0).mono ?_
    rintro e w2 ⟨rfl, H2⟩
    go_wp2_with fail
    refine (rn_end H2 true).mono ?_
    rintro e w3 ⟨rfl, H3⟩
    go_wp2_with fail
    go_end0
    exact ⟨rfl, H3.unbox⟩

end Go.Proofs.Ytmbbcgkfankiaaa.Z
