/- Package pf: whatever the line. Written by genpf3.py. -/
import Derived.Test.YtmbbcgkfankiaaaZPfLines
import Derived.Test.YtmbbcgkfankiaaaZPfTries
import Derived.Test.YtmbbcgkfankiaaaZAlone
set_option linter.unusedVariables false
set_option linter.unusedSimpArgs false
namespace Go.Proofs.Ytmbbcgkfankiaaa.Z
open Go.RowKit

theorem pf_reads {S0 : List Nat} {w0 w : World} {m a r : Nat} {rs : List Res} {s s2 : Rn} (H : RunHas S0 w0 m a r rs s w)
    (hr : ∀ W, RunHas S0 w0 m a r rs s W → Calls Try.prog 107 #[.pointer (some ⟨r, 0, none⟩), .int .i64 0, .int .i64 1] W fun e w' => e = .returned (.bool true) ∧ RunHas S0 w0 m a r rs s2 w') :
    Calls Try.prog 74 #[.pointer (some ⟨r, 0, none⟩)] w fun e w' => e = .returned (.tuple #[]) ∧ RunHas S0 w0 m a r rs s2 w' := by
  have HR := Lib.hid hr
  have HH := Lib.hid H
  clear hr H
  go_enter Try.func74, Try.ntmps74
  go_wp2_with fail
  refine (HR.out _ HH.out).mono ?_
  rintro e w1 ⟨rfl, H1⟩
  go_wp2_with fail
  (try simp only [Exit.inBlock, Exit.then]); refine bodyPost_ret (results_none rfl _ _ _) rfl ?_
  exact ⟨rfl, H1⟩

set_option maxHeartbeats 3200000 in
theorem pf_default {S0 : List Nat} {w0 w : World} {m a r : Nat} {rs : List Res} {s s2 : Rn} (H : RunHas S0 w0 m a r rs s w) {o l : Int} (hop : s.f.op = o) (hl : s.f.line = l) (hb : 0 ≤ s.f.b ∧ s.f.b < 4294967296)
    (h0 : ¬ (o = 1 ∧ l = 0)) (h1 : ¬ (o = 1 ∧ l = 1)) (h2 : ¬ (o = 2 ∧ l = 0)) (h3 : ¬ (o = 5 ∧ l = 0)) (h4 : ¬ (o = 5 ∧ l = 1)) (h5 : ¬ (o = 3 ∧ l = 0)) (h6 : ¬ (o = 3 ∧ l = 1)) (h7 : ¬ (o = 3 ∧ l = 2)) (h8 : ¬ (o = 3 ∧ l = 3)) (h9 : ¬ (o = 3 ∧ l = 4))
    (ht : ∀ rs W, RunHas S0 w0 m a r rs s W → Calls Try.prog 110 #[.pointer (some ⟨r, 0, none⟩)] W fun e w' => e = .returned (.tuple #[]) ∧ RunHas S0 w0 m a r rs s2 w') :
    Calls Try.prog 74 #[.pointer (some ⟨r, 0, none⟩)] w fun e w' => e = .returned (.tuple #[]) ∧ RunHas S0 w0 m a r rs s2 w' := by
  have HT := Lib.hid ht
  have HBB := Lib.hid hb
  obtain ⟨z0, z2, z4, z5, z6, z7⟩ := H.facts hop hl rfl rfl
  have HH := Lib.hid H
  clear H ht hb
  go_enter Try.func74, Try.ntmps74
  go_wp2_with fail
  refine (pf_r_none HH.out hop hl h0 h1 h2 h3 h4).mono ?_
  rintro e w1 ⟨rfl, H1⟩
  clear z0 z2 z4 z5 z6 z7
  obtain ⟨z0, z2, z4, z5, z6, z7⟩ := H1.facts hop hl rfl rfl
  go_wp2_with fail
  refine region_flat_call 8 rfl (by kernel_rfl) (by kernel_rfl) ?_
  simp only [List.take_succ_cons, List.take_zero, List.drop_succ_cons, List.drop_zero, probed, probes, List.nil_append, List.cons_append, probe]
  go_wp2_with fail
  rw [only_normal]
  refine half_static (.int .u32 (pfP s.f.b)) rfl rfl (enters_of Try.func108 (by kernel_rfl) rfl) (by simp [Act.eval]) (fun W _ => pf_presence s.f.b W HBB.out) ?_
  simp only [probed, probes, List.nil_append]
  go_wp2_with fail
  rw [only_normal]
  rename_i hK
  refine hK _ _ ?_
  clear hK
  refine wp_from (Facts := fun V => RunHas S0 w0 m a r (.blk w1.heap.size #[.int .u32 s.f.a] :: rs) s V) ?_ (by first | exact H1.drew.box rfl _ _ | exact (H1.box rfl _ _).drew)
  clear z0 z2 z4 z5 z6 z7 H1
  intro W HW
  generalize w1.heap.size = tb at HW ⊢
  obtain ⟨z0, z2, z4, z5, z6, z7⟩ := HW.facts hop hl rfl rfl
  go_wp2_with fail
  go_quiet (fail)
  have HW2 := HW.drewN nq
  clear z0 z2 z4 z5 z6 z7 HW
  generalize W.drewN nq = W2 at HW2 ⊢
  obtain ⟨z0, z2, z4, z5, z6, z7⟩ := HW2.facts hop hl rfl rfl
  go_wp2_with fail
  all_goals
    refine (HT.out _ _ HW2).mono ?_
    rintro e w1 ⟨rfl, H1⟩
    go_wp2_with fail
    go_end0
    exact ⟨rfl, H1.unbox⟩

set_option maxHeartbeats 1600000 in
theorem pf_to_tries6 {S0 : List Nat} {w0 w : World} {m a r : Nat} {rs : List Res} {s s2 : Rn} (H : RunHas S0 w0 m a r rs s w) {l : Int} (hop : s.f.op = 6) (hl : s.f.line = l) (hb : 0 ≤ s.f.b ∧ s.f.b < 4294967296)
    (ht : ∀ W, RunHas S0 w0 m a r rs s W → Calls Try.prog 125 #[.pointer (some ⟨r, 0, none⟩)] W fun e w' => e = .returned (.tuple #[]) ∧ RunHas S0 w0 m a r rs s2 w') :
    Calls Try.prog 110 #[.pointer (some ⟨r, 0, none⟩)] w fun e w' => e = .returned (.tuple #[]) ∧ RunHas S0 w0 m a r rs s2 w' := by
  have HT := Lib.hid ht
  have HBB := Lib.hid hb
  obtain ⟨z0, z2, z4, z5, z6, z7⟩ := H.facts hop hl rfl rfl
  have HH := Lib.hid H
  clear H ht hb
  go_enter Try.func110, Try.ntmps110
  go_wp2_with fail
  refine (pf_presence _ _ HBB.out).mono ?_
  rintro e w1 ⟨rfl, rfl⟩
  go_wp2_with fail
  go_quiet (fail)
  have HW := HH.out.drewN nq
  clear z0 z2 z4 z5 z6 z7
  generalize w.drewN nq = W at HW ⊢
  obtain ⟨z0, z2, z4, z5, z6, z7⟩ := HW.facts hop hl rfl rfl
  go_wp2_with fail
  refine (HT.out _ HW).mono ?_
  rintro e w1 ⟨rfl, H1⟩
  go_wp2_with fail
  go_end0
  exact ⟨rfl, H1⟩

set_option maxHeartbeats 1600000 in
theorem pf_to_tries7 {S0 : List Nat} {w0 w : World} {m a r : Nat} {rs : List Res} {s s2 : Rn} (H : RunHas S0 w0 m a r rs s w) {l : Int} (hop : s.f.op = 7) (hl : s.f.line = l) (hb : 0 ≤ s.f.b ∧ s.f.b < 4294967296)
    (ht : ∀ W, RunHas S0 w0 m a r rs s W → Calls Try.prog 125 #[.pointer (some ⟨r, 0, none⟩)] W fun e w' => e = .returned (.tuple #[]) ∧ RunHas S0 w0 m a r rs s2 w') :
    Calls Try.prog 110 #[.pointer (some ⟨r, 0, none⟩)] w fun e w' => e = .returned (.tuple #[]) ∧ RunHas S0 w0 m a r rs s2 w' := by
  have HT := Lib.hid ht
  have HBB := Lib.hid hb
  obtain ⟨z0, z2, z4, z5, z6, z7⟩ := H.facts hop hl rfl rfl
  have HH := Lib.hid H
  clear H ht hb
  go_enter Try.func110, Try.ntmps110
  go_wp2_with fail
  refine (pf_presence _ _ HBB.out).mono ?_
  rintro e w1 ⟨rfl, rfl⟩
  go_wp2_with fail
  go_quiet (fail)
  have HW := HH.out.drewN nq
  clear z0 z2 z4 z5 z6 z7
  generalize w.drewN nq = W at HW ⊢
  obtain ⟨z0, z2, z4, z5, z6, z7⟩ := HW.facts hop hl rfl rfl
  go_wp2_with fail
  refine (HT.out _ HW).mono ?_
  rintro e w1 ⟨rfl, H1⟩
  go_wp2_with fail
  go_end0
  exact ⟨rfl, H1⟩

set_option maxHeartbeats 3200000 in
theorem pf_leaves_none {S0 : List Nat} {w0 w : World} {m a r : Nat} {rs : List Res} {s : Rn} (H : RunHas S0 w0 m a r rs s w) {o l : Int} (hop : s.f.op = o) (hl : s.f.line = l) (hb : 0 ≤ s.f.b ∧ s.f.b < 4294967296) (h0 : ¬ (o = 4 ∧ l = 0)) (h1 : ¬ (o = 8 ∧ l = 0)) (h2 : ¬ (o = 4 ∧ l = 1)) (h3 : ¬ (o = 8 ∧ l = 1)) (h4 : ¬ (o = 4 ∧ l = 2)) (h5 : ¬ (o = 8 ∧ l = 2)) (h6 : ¬ (o = 4 ∧ l = 3)) (h7 : ¬ (o = 8 ∧ l = 3)) (k6 : ¬ o = 6) (k7 : ¬ o = 7) :
    Calls Try.prog 110 #[.pointer (some ⟨r, 0, none⟩)] w fun e w' => e = .returned (.tuple #[]) ∧ RunHas S0 w0 m a r rs s w' := by
  have HBB := Lib.hid hb
  have k6' : (o == 6) = false := by simpa using k6
  have k7' : (o == 7) = false := by simpa using k7
  obtain ⟨z0, z2, z4, z5, z6, z7⟩ := H.facts hop hl rfl rfl
  have HH := Lib.hid H
  clear H hb
  go_enter Try.func110, Try.ntmps110
  go_wp2_with fail
  refine (pf_presence _ _ HBB.out).mono ?_
  rintro e w1 ⟨rfl, rfl⟩
  go_wp2_with fail
  go_quiet (fail)
  have HW := HH.out.drewN nq
  clear z0 z2 z4 z5 z6 z7
  generalize w.drewN nq = W at HW ⊢
  obtain ⟨z0, z2, z4, z5, z6, z7⟩ := HW.facts hop hl rfl rfl
  go_wp2_with fail
  all_goals
    go_end0
    exact ⟨rfl, HW⟩

set_option maxHeartbeats 1600000 in
theorem pf_tries_none {S0 : List Nat} {w0 w : World} {m a r : Nat} {rs : List Res} {s : Rn} (H : RunHas S0 w0 m a r rs s w) {o l : Int} (hop : s.f.op = o) (hl : s.f.line = l) (k0 : ¬ l = 0) (k1 : ¬ l = 1) (k2 : ¬ l = 2) (k3 : ¬ l = 3) (k4 : ¬ l = 4) (k5 : ¬ l = 5) (k6 : ¬ l = 6) (k7 : ¬ l = 7) (k8 : ¬ l = 8) (k9 : ¬ l = 9) :
    Calls Try.prog 125 #[.pointer (some ⟨r, 0, none⟩)] w fun e w' => e = .returned (.tuple #[]) ∧ RunHas S0 w0 m a r rs s w' := by
  obtain ⟨z0, z2, z4, z5, z6, z7⟩ := H.facts hop hl rfl rfl
  have j0 : (l == 0) = false := by simpa using k0
  have j1 : (l == 1) = false := by simpa using k1
  have j2 : (l == 2) = false := by simpa using k2
  have j3 : (l == 3) = false := by simpa using k3
  have j4 : (l == 4) = false := by simpa using k4
  have j5 : (l == 5) = false := by simpa using k5
  have j6 : (l == 6) = false := by simpa using k6
  have j7 : (l == 7) = false := by simpa using k7
  have j8 : (l == 8) = false := by simpa using k8
  have j9 : (l == 9) = false := by simpa using k9
  have HH := Lib.hid H
  clear H
  go_enter Try.func125, Try.ntmps125
  go_wp2_with fail
  all_goals
    go_end0
    exact ⟨rfl, HH.out⟩

/-- A step's lines of the phase-fair lock. -/
def pfA (s : Rn) : Rn := if s.f.op = 1 ∧ s.f.line = 0 then pfR10 s else if s.f.op = 1 ∧ s.f.line = 1 then pfR11 s else if s.f.op = 2 ∧ s.f.line = 0 then pfR20 s else if s.f.op = 5 ∧ s.f.line = 0 then pfR50 s else if s.f.op = 5 ∧ s.f.line = 1 then pfR51 s else if s.f.op = 3 ∧ s.f.line = 0 then pf30 s else if s.f.op = 3 ∧ s.f.line = 1 then pf31 s else if s.f.op = 3 ∧ s.f.line = 2 then pf32 s else if s.f.op = 3 ∧ s.f.line = 3 then pf33 s else if s.f.op = 3 ∧ s.f.line = 4 then pf34 s else if s.f.op = 4 ∧ s.f.line = 0 then pf40 s else if s.f.op = 8 ∧ s.f.line = 0 then pf80 s else if s.f.op = 4 ∧ s.f.line = 1 then pf41 s else if s.f.op = 8 ∧ s.f.line = 1 then pf81 s else if s.f.op = 4 ∧ s.f.line = 2 then pf42 s else if s.f.op = 8 ∧ s.f.line = 2 then pf82 s else if s.f.op = 4 ∧ s.f.line = 3 then pf43 s else if s.f.op = 8 ∧ s.f.line = 3 then pf83 s else if s.f.op = 6 ∧ s.f.line = 0 then pft0 s else if s.f.op = 6 ∧ s.f.line = 1 then pft1 s else if s.f.op = 6 ∧ s.f.line = 2 then pft2 s else if s.f.op = 6 ∧ s.f.line = 3 then pft3 s else if s.f.op = 6 ∧ s.f.line = 4 then pft46 s else if s.f.op = 6 ∧ s.f.line = 5 then pft5 s else if s.f.op = 6 ∧ s.f.line = 6 then pft6 s else if s.f.op = 6 ∧ s.f.line = 7 then pft76 s else if s.f.op = 6 ∧ s.f.line = 8 then pft86 s else if s.f.op = 6 ∧ s.f.line = 9 then pft9 s else if s.f.op = 7 ∧ s.f.line = 0 then pft0 s else if s.f.op = 7 ∧ s.f.line = 1 then pft1 s else if s.f.op = 7 ∧ s.f.line = 2 then pft2 s else if s.f.op = 7 ∧ s.f.line = 3 then pft3 s else if s.f.op = 7 ∧ s.f.line = 4 then pft47 s else if s.f.op = 7 ∧ s.f.line = 5 then pft5 s else if s.f.op = 7 ∧ s.f.line = 6 then pft6 s else if s.f.op = 7 ∧ s.f.line = 7 then pft77 s else if s.f.op = 7 ∧ s.f.line = 8 then pft87 s else if s.f.op = 7 ∧ s.f.line = 9 then pft9 s else s

theorem pf_lines {S0 : List Nat} {w0 w : World} {m a r : Nat} {rs : List Res} {s : Rn} (H : RunHas S0 w0 m a r rs s w) (hn : I64 s.n) (ha : 0 ≤ s.f.a ∧ s.f.a < 4294967296) (hb : 0 ≤ s.f.b ∧ s.f.b < 4294967296) (hc : s.notes.length ≤ 900) :
    Calls Try.prog 74 #[.pointer (some ⟨r, 0, none⟩)] w fun e w' => e = .returned (.tuple #[]) ∧ RunHas S0 w0 m a r rs (pfA s) w' := by
  unfold pfA
  by_cases h10 : s.f.op = 1 ∧ s.f.line = 0
  · rw [if_pos h10]; exact pf_reads H (fun W HW => pf_r10 HW h10.1 h10.2 hn ha hc)
  rw [if_neg h10]
  by_cases h11 : s.f.op = 1 ∧ s.f.line = 1
  · rw [if_pos h11]; exact pf_reads H (fun W HW => pf_r11 HW h11.1 h11.2 hn ha hc)
  rw [if_neg h11]
  by_cases h20 : s.f.op = 2 ∧ s.f.line = 0
  · rw [if_pos h20]; exact pf_reads H (fun W HW => pf_r20 HW h20.1 h20.2 hn ha hc)
  rw [if_neg h20]
  by_cases h50 : s.f.op = 5 ∧ s.f.line = 0
  · rw [if_pos h50]; exact pf_reads H (fun W HW => pf_r50 HW h50.1 h50.2 hn ha hc)
  rw [if_neg h50]
  by_cases h51 : s.f.op = 5 ∧ s.f.line = 1
  · rw [if_pos h51]; exact pf_reads H (fun W HW => pf_r51 HW h51.1 h51.2 hn ha hc)
  rw [if_neg h51]
  by_cases h30 : s.f.op = 3 ∧ s.f.line = 0
  · rw [if_pos h30]; exact pf_30 H h30.1 h30.2 hn ha hb hc
  rw [if_neg h30]
  by_cases h31 : s.f.op = 3 ∧ s.f.line = 1
  · rw [if_pos h31]; exact pf_31 H h31.1 h31.2 hn ha hb hc
  rw [if_neg h31]
  by_cases h32 : s.f.op = 3 ∧ s.f.line = 2
  · rw [if_pos h32]; exact pf_32 H h32.1 h32.2 hn ha hb hc
  rw [if_neg h32]
  by_cases h33 : s.f.op = 3 ∧ s.f.line = 3
  · rw [if_pos h33]; exact pf_33 H h33.1 h33.2 hn ha hb hc
  rw [if_neg h33]
  by_cases h34 : s.f.op = 3 ∧ s.f.line = 4
  · rw [if_pos h34]; exact pf_34 H h34.1 h34.2 hn ha hb hc
  rw [if_neg h34]
  refine pf_default H rfl rfl hb h10 h11 h20 h50 h51 h30 h31 h32 h33 h34 (fun rs W HW => ?_)
  by_cases h40 : s.f.op = 4 ∧ s.f.line = 0
  · rw [if_pos h40]; exact pf_40 HW h40.1 h40.2 hn ha hb hc
  rw [if_neg h40]
  by_cases h80 : s.f.op = 8 ∧ s.f.line = 0
  · rw [if_pos h80]; exact pf_80 HW h80.1 h80.2 hn ha hb hc
  rw [if_neg h80]
  by_cases h41 : s.f.op = 4 ∧ s.f.line = 1
  · rw [if_pos h41]; exact pf_41 HW h41.1 h41.2 hn ha hb hc
  rw [if_neg h41]
  by_cases h81 : s.f.op = 8 ∧ s.f.line = 1
  · rw [if_pos h81]; exact pf_81 HW h81.1 h81.2 hn ha hb hc
  rw [if_neg h81]
  by_cases h42 : s.f.op = 4 ∧ s.f.line = 2
  · rw [if_pos h42]; exact pf_42 HW h42.1 h42.2 hn ha hb hc
  rw [if_neg h42]
  by_cases h82 : s.f.op = 8 ∧ s.f.line = 2
  · rw [if_pos h82]; exact pf_82 HW h82.1 h82.2 hn ha hb hc
  rw [if_neg h82]
  by_cases h43 : s.f.op = 4 ∧ s.f.line = 3
  · rw [if_pos h43]; exact pf_43 HW h43.1 h43.2 hn ha hb hc
  rw [if_neg h43]
  by_cases h83 : s.f.op = 8 ∧ s.f.line = 3
  · rw [if_pos h83]; exact pf_83 HW h83.1 h83.2 hn ha hb hc
  rw [if_neg h83]
  by_cases k6 : s.f.op = 6
  · refine pf_to_tries6 HW k6 rfl hb (fun W HX => ?_)
    by_cases l0 : s.f.op = 6 ∧ s.f.line = 0
    · rw [if_pos l0]; exact pf_t0 HX l0.1 l0.2 hn ha hb hc
    rw [if_neg l0]
    by_cases l1 : s.f.op = 6 ∧ s.f.line = 1
    · rw [if_pos l1]; exact pf_t1 HX l1.1 l1.2 hn ha hb hc
    rw [if_neg l1]
    by_cases l2 : s.f.op = 6 ∧ s.f.line = 2
    · rw [if_pos l2]; exact pf_t2 HX l2.1 l2.2 hn ha hb hc
    rw [if_neg l2]
    by_cases l3 : s.f.op = 6 ∧ s.f.line = 3
    · rw [if_pos l3]; exact pf_t3 HX l3.1 l3.2 hn ha hb hc
    rw [if_neg l3]
    by_cases l4 : s.f.op = 6 ∧ s.f.line = 4
    · rw [if_pos l4]; exact pf_t46 HX l4.1 l4.2 hn ha hb hc
    rw [if_neg l4]
    by_cases l5 : s.f.op = 6 ∧ s.f.line = 5
    · rw [if_pos l5]; exact pf_t5 HX l5.1 l5.2 hn ha hb hc
    rw [if_neg l5]
    by_cases l6 : s.f.op = 6 ∧ s.f.line = 6
    · rw [if_pos l6]; exact pf_t6 HX l6.1 l6.2 hn ha hb hc
    rw [if_neg l6]
    by_cases l7 : s.f.op = 6 ∧ s.f.line = 7
    · rw [if_pos l7]; exact pf_t76 HX l7.1 l7.2 hn ha hb hc
    rw [if_neg l7]
    by_cases l8 : s.f.op = 6 ∧ s.f.line = 8
    · rw [if_pos l8]; exact pf_t86 HX l8.1 l8.2 hn ha hb hc
    rw [if_neg l8]
    by_cases l9 : s.f.op = 6 ∧ s.f.line = 9
    · rw [if_pos l9]; exact pf_t9 HX l9.1 l9.2 hn ha hb hc
    rw [if_neg l9]
    rw [if_neg (fun h => by rw [k6] at h; exact absurd h.1 (by decide))]
    rw [if_neg (fun h => by rw [k6] at h; exact absurd h.1 (by decide))]
    rw [if_neg (fun h => by rw [k6] at h; exact absurd h.1 (by decide))]
    rw [if_neg (fun h => by rw [k6] at h; exact absurd h.1 (by decide))]
    rw [if_neg (fun h => by rw [k6] at h; exact absurd h.1 (by decide))]
    rw [if_neg (fun h => by rw [k6] at h; exact absurd h.1 (by decide))]
    rw [if_neg (fun h => by rw [k6] at h; exact absurd h.1 (by decide))]
    rw [if_neg (fun h => by rw [k6] at h; exact absurd h.1 (by decide))]
    rw [if_neg (fun h => by rw [k6] at h; exact absurd h.1 (by decide))]
    rw [if_neg (fun h => by rw [k6] at h; exact absurd h.1 (by decide))]
    exact pf_tries_none HX k6 rfl (fun h => l0 ⟨k6, h⟩) (fun h => l1 ⟨k6, h⟩) (fun h => l2 ⟨k6, h⟩) (fun h => l3 ⟨k6, h⟩) (fun h => l4 ⟨k6, h⟩) (fun h => l5 ⟨k6, h⟩) (fun h => l6 ⟨k6, h⟩) (fun h => l7 ⟨k6, h⟩) (fun h => l8 ⟨k6, h⟩) (fun h => l9 ⟨k6, h⟩)
  by_cases k7 : s.f.op = 7
  · refine pf_to_tries7 HW k7 rfl hb (fun W HX => ?_)
    rw [if_neg (fun h => by rw [k7] at h; exact absurd h.1 (by decide))]
    rw [if_neg (fun h => by rw [k7] at h; exact absurd h.1 (by decide))]
    rw [if_neg (fun h => by rw [k7] at h; exact absurd h.1 (by decide))]
    rw [if_neg (fun h => by rw [k7] at h; exact absurd h.1 (by decide))]
    rw [if_neg (fun h => by rw [k7] at h; exact absurd h.1 (by decide))]
    rw [if_neg (fun h => by rw [k7] at h; exact absurd h.1 (by decide))]
    rw [if_neg (fun h => by rw [k7] at h; exact absurd h.1 (by decide))]
    rw [if_neg (fun h => by rw [k7] at h; exact absurd h.1 (by decide))]
    rw [if_neg (fun h => by rw [k7] at h; exact absurd h.1 (by decide))]
    rw [if_neg (fun h => by rw [k7] at h; exact absurd h.1 (by decide))]
    by_cases l0 : s.f.op = 7 ∧ s.f.line = 0
    · rw [if_pos l0]; exact pf_t0 HX l0.1 l0.2 hn ha hb hc
    rw [if_neg l0]
    by_cases l1 : s.f.op = 7 ∧ s.f.line = 1
    · rw [if_pos l1]; exact pf_t1 HX l1.1 l1.2 hn ha hb hc
    rw [if_neg l1]
    by_cases l2 : s.f.op = 7 ∧ s.f.line = 2
    · rw [if_pos l2]; exact pf_t2 HX l2.1 l2.2 hn ha hb hc
    rw [if_neg l2]
    by_cases l3 : s.f.op = 7 ∧ s.f.line = 3
    · rw [if_pos l3]; exact pf_t3 HX l3.1 l3.2 hn ha hb hc
    rw [if_neg l3]
    by_cases l4 : s.f.op = 7 ∧ s.f.line = 4
    · rw [if_pos l4]; exact pf_t47 HX l4.1 l4.2 hn ha hb hc
    rw [if_neg l4]
    by_cases l5 : s.f.op = 7 ∧ s.f.line = 5
    · rw [if_pos l5]; exact pf_t5 HX l5.1 l5.2 hn ha hb hc
    rw [if_neg l5]
    by_cases l6 : s.f.op = 7 ∧ s.f.line = 6
    · rw [if_pos l6]; exact pf_t6 HX l6.1 l6.2 hn ha hb hc
    rw [if_neg l6]
    by_cases l7 : s.f.op = 7 ∧ s.f.line = 7
    · rw [if_pos l7]; exact pf_t77 HX l7.1 l7.2 hn ha hb hc
    rw [if_neg l7]
    by_cases l8 : s.f.op = 7 ∧ s.f.line = 8
    · rw [if_pos l8]; exact pf_t87 HX l8.1 l8.2 hn ha hb hc
    rw [if_neg l8]
    by_cases l9 : s.f.op = 7 ∧ s.f.line = 9
    · rw [if_pos l9]; exact pf_t9 HX l9.1 l9.2 hn ha hb hc
    rw [if_neg l9]
    exact pf_tries_none HX k7 rfl (fun h => l0 ⟨k7, h⟩) (fun h => l1 ⟨k7, h⟩) (fun h => l2 ⟨k7, h⟩) (fun h => l3 ⟨k7, h⟩) (fun h => l4 ⟨k7, h⟩) (fun h => l5 ⟨k7, h⟩) (fun h => l6 ⟨k7, h⟩) (fun h => l7 ⟨k7, h⟩) (fun h => l8 ⟨k7, h⟩) (fun h => l9 ⟨k7, h⟩)
  rw [if_neg (fun h => k6 h.1)]
  rw [if_neg (fun h => k6 h.1)]
  rw [if_neg (fun h => k6 h.1)]
  rw [if_neg (fun h => k6 h.1)]
  rw [if_neg (fun h => k6 h.1)]
  rw [if_neg (fun h => k6 h.1)]
  rw [if_neg (fun h => k6 h.1)]
  rw [if_neg (fun h => k6 h.1)]
  rw [if_neg (fun h => k6 h.1)]
  rw [if_neg (fun h => k6 h.1)]
  rw [if_neg (fun h => k7 h.1)]
  rw [if_neg (fun h => k7 h.1)]
  rw [if_neg (fun h => k7 h.1)]
  rw [if_neg (fun h => k7 h.1)]
  rw [if_neg (fun h => k7 h.1)]
  rw [if_neg (fun h => k7 h.1)]
  rw [if_neg (fun h => k7 h.1)]
  rw [if_neg (fun h => k7 h.1)]
  rw [if_neg (fun h => k7 h.1)]
  rw [if_neg (fun h => k7 h.1)]
  exact pf_leaves_none HW rfl rfl hb h40 h80 h41 h81 h42 h82 h43 h83 k6 k7

theorem pf_lines_nil (w : World) : Calls Try.prog 74 #[.pointer none] w fun e w' => e = .returned (.tuple #[]) ∧ Touch [] w w' := by
  go_enter Try.func74, Try.ntmps74
  go_wp2
  refine bodyPost_ret (v := .tuple #[]) (by simp [results, Try.results74, go_sem]) rfl ⟨rfl, Touch.refl _ _⟩

end Go.Proofs.Ytmbbcgkfankiaaa.Z
