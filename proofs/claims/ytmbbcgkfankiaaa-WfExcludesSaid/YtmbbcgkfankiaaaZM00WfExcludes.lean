/- 6 texts of this claim, joined: what each shows stands at its own head. -/
import Derived.Test.YtmbbcgkfankiaaaZWf
import Derived.Deep.RegionHeld3
import Derived.Deep.DrawnRows
import Derived.Test.YtmbbcgkfankiaaaZWfLines
import Derived.Test.YtmbbcgkfankiaaaZAlone
import Derived.Test.YtmbbcgkfankiaaaZHas3
import Derived.Test.YtmbbcgkfankiaaaZMat2
/- Package wf: the lines of who leaves, and of a try. Written by genwf2.py. -/
set_option linter.unusedVariables false
set_option linter.unusedSimpArgs false
namespace Go.Proofs.Ytmbbcgkfankiaaa.Z
open Go.RowKit

attribute [local go_sem ↓] Go.wp_at_zero Go.wp_at_succ

def wf40 (s : Rn) : Rn :=
  ((s.did (doA s.L ⟨1, 0, 0, 0, 0⟩)).setA (doA s.L ⟨1, 0, 0, 0, 0⟩).1.old).goto 1

set_option maxHeartbeats 1600000 in
theorem wf_40 {S0 : List Nat} {w0 w : World} {m a r : Nat} {rs : List Res} {s : Rn} (H : RunHas S0 w0 m a r rs s w) (hop : s.f.op = 4) (hl : s.f.line = 0) (hn : I64 s.n) (ha : 0 ≤ s.f.a ∧ s.f.a < 4294967296) (hc : s.notes.length ≤ 900) :
    Calls Try.prog 56 #[.pointer (some ⟨r, 0, none⟩)] w fun e w' => e = .returned (.tuple #[]) ∧ RunHas S0 w0 m a r rs (wf40 s) w' := by
  obtain ⟨z0, z2, z4, z5, z6, z7⟩ := H.facts hop hl rfl rfl
  have HC := Lib.hid hc
  have HA := Lib.hid ha
  have HN := Lib.hid hn
  have HH := Lib.hid H
  clear hc H hn ha
  unfold wf40
  go_enter Try.func56, Try.ntmps56
  go_wp2_with fail
  go_quiet (fail)
  have HW := HH.out.drewN nq
  clear z0 z2 z4 z5 z6 z7
  generalize w.drewN nq = W at HW ⊢
  obtain ⟨z0, z2, z4, z5, z6, z7⟩ := HW.facts hop hl rfl rfl
  go_wp2_with fail
  refine (rn_load HW 0).mono ?_
  rintro e w1 ⟨rfl, H1⟩
  obtain ⟨x0, x2, x4, x5, x6, x7⟩ := H1.facts hop hl rfl rfl
  go_wp2_with fail
  refine (rn_go (H1.setA (doA s.L ⟨1, 0, 0, 0, 0⟩).1.old) 1).mono ?_
  rintro e w2 ⟨rfl, H2⟩
  go_wp2_with fail
  go_end0
  exact ⟨rfl, H2⟩

def wf80 (s : Rn) : Rn :=
  ((s.did (doA s.L ⟨1, 0, 0, 0, 0⟩)).setA (doA s.L ⟨1, 0, 0, 0, 0⟩).1.old).goto 1

set_option maxHeartbeats 1600000 in
theorem wf_80 {S0 : List Nat} {w0 w : World} {m a r : Nat} {rs : List Res} {s : Rn} (H : RunHas S0 w0 m a r rs s w) (hop : s.f.op = 8) (hl : s.f.line = 0) (hn : I64 s.n) (ha : 0 ≤ s.f.a ∧ s.f.a < 4294967296) (hc : s.notes.length ≤ 900) :
    Calls Try.prog 56 #[.pointer (some ⟨r, 0, none⟩)] w fun e w' => e = .returned (.tuple #[]) ∧ RunHas S0 w0 m a r rs (wf80 s) w' := by
  obtain ⟨z0, z2, z4, z5, z6, z7⟩ := H.facts hop hl rfl rfl
  have HC := Lib.hid hc
  have HA := Lib.hid ha
  have HN := Lib.hid hn
  have HH := Lib.hid H
  clear hc H hn ha
  unfold wf80
  go_enter Try.func56, Try.ntmps56
  go_wp2_with fail
  go_quiet (fail)
  have HW := HH.out.drewN nq
  clear z0 z2 z4 z5 z6 z7
  generalize w.drewN nq = W at HW ⊢
  obtain ⟨z0, z2, z4, z5, z6, z7⟩ := HW.facts hop hl rfl rfl
  go_wp2_with fail
  refine (rn_load HW 0).mono ?_
  rintro e w1 ⟨rfl, H1⟩
  obtain ⟨x0, x2, x4, x5, x6, x7⟩ := H1.facts hop hl rfl rfl
  go_wp2_with fail
  refine (rn_go (H1.setA (doA s.L ⟨1, 0, 0, 0, 0⟩).1.old) 1).mono ?_
  rintro e w2 ⟨rfl, H2⟩
  go_wp2_with fail
  go_end0
  exact ⟨rfl, H2⟩

def wf41 (s : Rn) : Rn :=
  (s.did (doA s.L ⟨3, 0, bump8 s.f.a, 0, 0⟩)).wends true [7, 8]

set_option maxHeartbeats 1600000 in
theorem wf_41 {S0 : List Nat} {w0 w : World} {m a r : Nat} {rs : List Res} {s : Rn} (H : RunHas S0 w0 m a r rs s w) (hop : s.f.op = 4) (hl : s.f.line = 1) (hn : I64 s.n) (ha : 0 ≤ s.f.a ∧ s.f.a < 4294967296) (hc : s.notes.length ≤ 900) :
    Calls Try.prog 56 #[.pointer (some ⟨r, 0, none⟩)] w fun e w' => e = .returned (.tuple #[]) ∧ RunHas S0 w0 m a r rs (wf41 s) w' := by
  obtain ⟨z0, z2, z4, z5, z6, z7⟩ := H.facts hop hl rfl rfl
  have HC := Lib.hid hc
  have HA := Lib.hid ha
  have HN := Lib.hid hn
  have HH := Lib.hid H
  clear hc H hn ha
  unfold wf41
  go_enter Try.func56, Try.ntmps56
  go_wp2_with fail
  go_quiet (fail)
  have HW := HH.out.drewN nq
  clear z0 z2 z4 z5 z6 z7
  generalize w.drewN nq = W at HW ⊢
  obtain ⟨z0, z2, z4, z5, z6, z7⟩ := HW.facts hop hl rfl rfl
  go_wp2_with fail
  refine (wf_next _ _ HA.out).mono ?_
  rintro e w9 ⟨rfl, rfl⟩
  go_wp2_with fail
  refine (rn_add HW 0 (bump8 s.f.a) (by have : 0 ≤ bump8 s.f.a ∧ bump8 s.f.a < 4294967296 := (by unfold bump8; omega); omega)).mono ?_
  rintro e w1 ⟨rfl, H1⟩
  go_wp2_with fail
  refine (wf_end (l := [7, 8]) (H1.box rfl _ _) rfl (by have := HC.out; first | exact Nat.le_trans this (by decide) | (simp [List.length_cons, Rn.note, Rn.did, Rn.setA, Rn.setB, Rn.waited, Rn.goto, Rn.noted]; omega)) true).mono ?_
  rintro e w8 ⟨rfl, H8⟩
  go_wp2_with fail
  go_end0
  exact ⟨rfl, H8.unbox⟩

def wf81 (s : Rn) : Rn :=
  (s.did (doA s.L ⟨3, 0, ((bump8 s.f.a + 1) % 4294967296), 0, 0⟩)).wends true [10]

set_option maxHeartbeats 1600000 in
theorem wf_81 {S0 : List Nat} {w0 w : World} {m a r : Nat} {rs : List Res} {s : Rn} (H : RunHas S0 w0 m a r rs s w) (hop : s.f.op = 8) (hl : s.f.line = 1) (hn : I64 s.n) (ha : 0 ≤ s.f.a ∧ s.f.a < 4294967296) (hc : s.notes.length ≤ 900) :
    Calls Try.prog 56 #[.pointer (some ⟨r, 0, none⟩)] w fun e w' => e = .returned (.tuple #[]) ∧ RunHas S0 w0 m a r rs (wf81 s) w' := by
  obtain ⟨z0, z2, z4, z5, z6, z7⟩ := H.facts hop hl rfl rfl
  have HC := Lib.hid hc
  have HA := Lib.hid ha
  have HN := Lib.hid hn
  have HH := Lib.hid H
  clear hc H hn ha
  unfold wf81
  go_enter Try.func56, Try.ntmps56
  go_wp2_with fail
  go_quiet (fail)
  have HW := HH.out.drewN nq
  clear z0 z2 z4 z5 z6 z7
  generalize w.drewN nq = W at HW ⊢
  obtain ⟨z0, z2, z4, z5, z6, z7⟩ := HW.facts hop hl rfl rfl
  go_wp2_with fail
  refine (wf_next _ _ HA.out).mono ?_
  rintro e w9 ⟨rfl, rfl⟩
  go_wp2_with fail
  refine (rn_add HW 0 (((bump8 s.f.a + 1) % 4294967296)) (by have : 0 ≤ bump8 s.f.a ∧ bump8 s.f.a < 4294967296 := (by unfold bump8; omega); omega)).mono ?_
  rintro e w1 ⟨rfl, H1⟩
  go_wp2_with fail
  refine (wf_end (l := [10]) (H1.box rfl _ _) rfl (by have := HC.out; first | exact Nat.le_trans this (by decide) | (simp [List.length_cons, Rn.note, Rn.did, Rn.setA, Rn.setB, Rn.waited, Rn.goto, Rn.noted]; omega)) true).mono ?_
  rintro e w8 ⟨rfl, H8⟩
  go_wp2_with fail
  go_end0
  exact ⟨rfl, H8.unbox⟩

def wf50 (s : Rn) : Rn :=
  s.wchosen (fun _ => true)

set_option maxHeartbeats 1600000 in
theorem wf_50 {S0 : List Nat} {w0 w : World} {m a r : Nat} {rs : List Res} {s : Rn} (H : RunHas S0 w0 m a r rs s w) (hop : s.f.op = 5) (hl : s.f.line = 0) (hn : I64 s.n) (ha : 0 ≤ s.f.a ∧ s.f.a < 4294967296) (hc : s.notes.length ≤ 900) :
    Calls Try.prog 56 #[.pointer (some ⟨r, 0, none⟩)] w fun e w' => e = .returned (.tuple #[]) ∧ RunHas S0 w0 m a r rs (wf50 s) w' := by
  obtain ⟨z0, z2, z4, z5, z6, z7⟩ := H.facts hop hl rfl rfl
  have HC := Lib.hid hc
  have HA := Lib.hid ha
  have HN := Lib.hid hn
  have HH := Lib.hid H
  clear hc H hn ha
  unfold wf50
  go_enter Try.func56, Try.ntmps56
  go_wp2_with fail
  go_quiet (fail)
  have HW := HH.out.drewN nq
  clear z0 z2 z4 z5 z6 z7
  generalize w.drewN nq = W at HW ⊢
  obtain ⟨z0, z2, z4, z5, z6, z7⟩ := HW.facts hop hl rfl rfl
  go_wp2_with fail
  refine (wf_choose HW HC.out hop hl 91 #[] #[] (fun _ => true) (enters_of Try.func91 (by kernel_rfl) rfl) (fun W v s' hv _ => wf_may1 v W hv)).mono ?_
  rintro e w1 ⟨rfl, H1⟩
  go_wp2_with fail
  go_end0
  exact ⟨rfl, H1⟩

def wf60 (s : Rn) : Rn :=
  s.wchosen (fun v => wfR v == 0)

set_option maxHeartbeats 1600000 in
theorem wf_60 {S0 : List Nat} {w0 w : World} {m a r : Nat} {rs : List Res} {s : Rn} (H : RunHas S0 w0 m a r rs s w) (hop : s.f.op = 6) (hl : s.f.line = 0) (hn : I64 s.n) (ha : 0 ≤ s.f.a ∧ s.f.a < 4294967296) (hc : s.notes.length ≤ 900) :
    Calls Try.prog 56 #[.pointer (some ⟨r, 0, none⟩)] w fun e w' => e = .returned (.tuple #[]) ∧ RunHas S0 w0 m a r rs (wf60 s) w' := by
  obtain ⟨z0, z2, z4, z5, z6, z7⟩ := H.facts hop hl rfl rfl
  have HC := Lib.hid hc
  have HA := Lib.hid ha
  have HN := Lib.hid hn
  have HH := Lib.hid H
  clear hc H hn ha
  unfold wf60
  go_enter Try.func56, Try.ntmps56
  go_wp2_with fail
  go_quiet (fail)
  have HW := HH.out.drewN nq
  clear z0 z2 z4 z5 z6 z7
  generalize w.drewN nq = W at HW ⊢
  obtain ⟨z0, z2, z4, z5, z6, z7⟩ := HW.facts hop hl rfl rfl
  go_wp2_with fail
  refine (wf_choose HW HC.out hop hl 92 #[] #[] (fun v => wfR v == 0) (enters_of Try.func92 (by kernel_rfl) rfl) (fun W v s' hv _ => wf_may2 v W hv)).mono ?_
  rintro e w1 ⟨rfl, H1⟩
  go_wp2_with fail
  go_end0
  exact ⟨rfl, H1⟩

def wf70 (s : Rn) : Rn :=
  s.wchosen (fun v => wfR v == 1)

set_option maxHeartbeats 1600000 in
theorem wf_70 {S0 : List Nat} {w0 w : World} {m a r : Nat} {rs : List Res} {s : Rn} (H : RunHas S0 w0 m a r rs s w) (hop : s.f.op = 7) (hl : s.f.line = 0) (hn : I64 s.n) (ha : 0 ≤ s.f.a ∧ s.f.a < 4294967296) (hc : s.notes.length ≤ 900) :
    Calls Try.prog 56 #[.pointer (some ⟨r, 0, none⟩)] w fun e w' => e = .returned (.tuple #[]) ∧ RunHas S0 w0 m a r rs (wf70 s) w' := by
  obtain ⟨z0, z2, z4, z5, z6, z7⟩ := H.facts hop hl rfl rfl
  have HC := Lib.hid hc
  have HA := Lib.hid ha
  have HN := Lib.hid hn
  have HH := Lib.hid H
  clear hc H hn ha
  unfold wf70
  go_enter Try.func56, Try.ntmps56
  go_wp2_with fail
  go_quiet (fail)
  have HW := HH.out.drewN nq
  clear z0 z2 z4 z5 z6 z7
  generalize w.drewN nq = W at HW ⊢
  obtain ⟨z0, z2, z4, z5, z6, z7⟩ := HW.facts hop hl rfl rfl
  go_wp2_with fail
  refine (wf_choose HW HC.out hop hl 93 #[] #[] (fun v => wfR v == 1) (enters_of Try.func93 (by kernel_rfl) rfl) (fun W v s' hv _ => wf_may3 v W hv)).mono ?_
  rintro e w1 ⟨rfl, H1⟩
  go_wp2_with fail
  go_end0
  exact ⟨rfl, H1⟩

def wf51 (s : Rn) : Rn :=
  s.wswapped 1 1 4

set_option maxHeartbeats 1600000 in
theorem wf_51 {S0 : List Nat} {w0 w : World} {m a r : Nat} {rs : List Res} {s : Rn} (H : RunHas S0 w0 m a r rs s w) (hop : s.f.op = 5) (hl : s.f.line = 1) (hn : I64 s.n) (ha : 0 ≤ s.f.a ∧ s.f.a < 4294967296) (hc : s.notes.length ≤ 900) :
    Calls Try.prog 56 #[.pointer (some ⟨r, 0, none⟩)] w fun e w' => e = .returned (.tuple #[]) ∧ RunHas S0 w0 m a r rs (wf51 s) w' := by
  obtain ⟨z0, z2, z4, z5, z6, z7⟩ := H.facts hop hl rfl rfl
  have HC := Lib.hid hc
  have HA := Lib.hid ha
  have HN := Lib.hid hn
  have HH := Lib.hid H
  clear hc H hn ha
  unfold wf51
  go_enter Try.func56, Try.ntmps56
  go_wp2_with fail
  go_quiet (fail)
  have HW := HH.out.drewN nq
  clear z0 z2 z4 z5 z6 z7
  generalize w.drewN nq = W at HW ⊢
  obtain ⟨z0, z2, z4, z5, z6, z7⟩ := HW.facts hop hl rfl rfl
  go_wp2_with fail
  refine (wf_swap HW HC.out hop hl HA.out 1 1 4 (by decide)).mono ?_
  rintro e w1 ⟨rfl, H1⟩
  go_wp2_with fail
  go_end0
  exact ⟨rfl, H1⟩

def wf61 (s : Rn) : Rn :=
  s.wswapped 65536 2 4

set_option maxHeartbeats 1600000 in
theorem wf_61 {S0 : List Nat} {w0 w : World} {m a r : Nat} {rs : List Res} {s : Rn} (H : RunHas S0 w0 m a r rs s w) (hop : s.f.op = 6) (hl : s.f.line = 1) (hn : I64 s.n) (ha : 0 ≤ s.f.a ∧ s.f.a < 4294967296) (hc : s.notes.length ≤ 900) :
    Calls Try.prog 56 #[.pointer (some ⟨r, 0, none⟩)] w fun e w' => e = .returned (.tuple #[]) ∧ RunHas S0 w0 m a r rs (wf61 s) w' := by
  obtain ⟨z0, z2, z4, z5, z6, z7⟩ := H.facts hop hl rfl rfl
  have HC := Lib.hid hc
  have HA := Lib.hid ha
  have HN := Lib.hid hn
  have HH := Lib.hid H
  clear hc H hn ha
  unfold wf61
  go_enter Try.func56, Try.ntmps56
  go_wp2_with fail
  go_quiet (fail)
  have HW := HH.out.drewN nq
  clear z0 z2 z4 z5 z6 z7
  generalize w.drewN nq = W at HW ⊢
  obtain ⟨z0, z2, z4, z5, z6, z7⟩ := HW.facts hop hl rfl rfl
  go_wp2_with fail
  refine (wf_swap HW HC.out hop hl HA.out 65536 2 4 (by decide)).mono ?_
  rintro e w1 ⟨rfl, H1⟩
  go_wp2_with fail
  go_end0
  exact ⟨rfl, H1⟩

def wf71 (s : Rn) : Rn :=
  s.wswapped 65535 0 9

set_option maxHeartbeats 1600000 in
theorem wf_71 {S0 : List Nat} {w0 w : World} {m a r : Nat} {rs : List Res} {s : Rn} (H : RunHas S0 w0 m a r rs s w) (hop : s.f.op = 7) (hl : s.f.line = 1) (hn : I64 s.n) (ha : 0 ≤ s.f.a ∧ s.f.a < 4294967296) (hc : s.notes.length ≤ 900) :
    Calls Try.prog 56 #[.pointer (some ⟨r, 0, none⟩)] w fun e w' => e = .returned (.tuple #[]) ∧ RunHas S0 w0 m a r rs (wf71 s) w' := by
  obtain ⟨z0, z2, z4, z5, z6, z7⟩ := H.facts hop hl rfl rfl
  have HC := Lib.hid hc
  have HA := Lib.hid ha
  have HN := Lib.hid hn
  have HH := Lib.hid H
  clear hc H hn ha
  unfold wf71
  go_enter Try.func56, Try.ntmps56
  go_wp2_with fail
  go_quiet (fail)
  have HW := HH.out.drewN nq
  clear z0 z2 z4 z5 z6 z7
  generalize w.drewN nq = W at HW ⊢
  obtain ⟨z0, z2, z4, z5, z6, z7⟩ := HW.facts hop hl rfl rfl
  go_wp2_with fail
  refine (wf_swap HW HC.out hop hl HA.out 65535 0 9 (by decide)).mono ?_
  rintro e w1 ⟨rfl, H1⟩
  go_wp2_with fail
  go_end0
  exact ⟨rfl, H1⟩

end Go.Proofs.Ytmbbcgkfankiaaa.Z

/- Package wf: whatever the line. Written by genwf2.py. -/
set_option linter.unusedVariables false
set_option linter.unusedSimpArgs false
namespace Go.Proofs.Ytmbbcgkfankiaaa.Z
open Go.RowKit

set_option maxHeartbeats 3200000 in
theorem wf_default {S0 : List Nat} {w0 w : World} {m a r : Nat} {rs : List Res} {s s2 : Rn} (H : RunHas S0 w0 m a r rs s w) {o l : Int} (hop : s.f.op = o) (hl : s.f.line = l)
    (h0 : ¬ (o = 1 ∧ l = 0)) (h1 : ¬ (o = 1 ∧ l = 1)) (h2 : ¬ (o = 1 ∧ l = 2)) (h3 : ¬ (o = 1 ∧ l = 3)) (h4 : ¬ (o = 2 ∧ l = 0)) (h5 : ¬ (o = 3 ∧ l = 0)) (h6 : ¬ (o = 3 ∧ l = 1))
    (ht : ∀ rs W, RunHas S0 w0 m a r rs s W → Calls Try.prog 56 #[.pointer (some ⟨r, 0, none⟩)] W fun e w' => e = .returned (.tuple #[]) ∧ RunHas S0 w0 m a r rs s2 w') :
    Calls Try.prog 19 #[.pointer (some ⟨r, 0, none⟩)] w fun e w' => e = .returned (.tuple #[]) ∧ RunHas S0 w0 m a r rs s2 w' := by
  have HT := Lib.hid ht
  obtain ⟨z0, z2, z4, z5, z6, z7⟩ := H.facts hop hl rfl rfl
  have HH := Lib.hid (H.box rfl #[.pointer (some ⟨r, 4, none⟩)] 96)
  clear H ht
  go_enter Try.func19, Try.ntmps19
  go_wp2_with fail
  go_quiet (fail)
  have HW := HH.out.drewN nq
  clear z0 z2 z4 z5 z6 z7
  generalize w.heap.size = tb at HW ⊢
  generalize (World.drewN _ nq) = W at HW ⊢
  obtain ⟨z0, z2, z4, z5, z6, z7⟩ := HW.facts hop hl rfl rfl
  obtain ⟨u0, u1, u2⟩ := HW.first.own
  go_wp2_with fail
  all_goals
    refine (HT.out _ _ HW).mono ?_
    rintro e w1 ⟨rfl, H1⟩
    go_wp2_with fail
    go_end0
    exact ⟨rfl, H1.unbox⟩

set_option maxHeartbeats 3200000 in
theorem wf_none {S0 : List Nat} {w0 w : World} {m a r : Nat} {rs : List Res} {s : Rn} (H : RunHas S0 w0 m a r rs s w) {o l : Int} (hop : s.f.op = o) (hl : s.f.line = l) (h0 : ¬ (o = 4 ∧ l = 0)) (h1 : ¬ (o = 8 ∧ l = 0)) (h2 : ¬ (o = 4 ∧ l = 1)) (h3 : ¬ (o = 8 ∧ l = 1)) (h4 : ¬ (o = 5 ∧ l = 0)) (h5 : ¬ (o = 6 ∧ l = 0)) (h6 : ¬ (o = 7 ∧ l = 0)) (h7 : ¬ (o = 5 ∧ l = 1)) (h8 : ¬ (o = 6 ∧ l = 1)) (h9 : ¬ (o = 7 ∧ l = 1)) :
    Calls Try.prog 56 #[.pointer (some ⟨r, 0, none⟩)] w fun e w' => e = .returned (.tuple #[]) ∧ RunHas S0 w0 m a r rs s w' := by
  obtain ⟨z0, z2, z4, z5, z6, z7⟩ := H.facts hop hl rfl rfl
  have HH := Lib.hid H
  clear H
  go_enter Try.func56, Try.ntmps56
  go_wp2_with fail
  go_quiet (fail)
  have HW := HH.out.drewN nq
  clear z0 z2 z4 z5 z6 z7
  generalize w.drewN nq = W at HW ⊢
  obtain ⟨z0, z2, z4, z5, z6, z7⟩ := HW.facts hop hl rfl rfl
  go_wp2_with fail
  all_goals
    go_end0
    exact ⟨rfl, HW⟩

/-- A step's lines of the lock in which writers go first. -/
def wfA (s : Rn) : Rn := if s.f.op = 1 ∧ s.f.line = 0 then wf10 s else if s.f.op = 1 ∧ s.f.line = 1 then wf11 s else if s.f.op = 1 ∧ s.f.line = 2 then wf12 s else if s.f.op = 1 ∧ s.f.line = 3 then wf13 s else if s.f.op = 2 ∧ s.f.line = 0 then wf20 s else if s.f.op = 3 ∧ s.f.line = 0 then wf30 s else if s.f.op = 3 ∧ s.f.line = 1 then wf31 s else if s.f.op = 4 ∧ s.f.line = 0 then wf40 s else if s.f.op = 8 ∧ s.f.line = 0 then wf80 s else if s.f.op = 4 ∧ s.f.line = 1 then wf41 s else if s.f.op = 8 ∧ s.f.line = 1 then wf81 s else if s.f.op = 5 ∧ s.f.line = 0 then wf50 s else if s.f.op = 6 ∧ s.f.line = 0 then wf60 s else if s.f.op = 7 ∧ s.f.line = 0 then wf70 s else if s.f.op = 5 ∧ s.f.line = 1 then wf51 s else if s.f.op = 6 ∧ s.f.line = 1 then wf61 s else if s.f.op = 7 ∧ s.f.line = 1 then wf71 s else s

theorem wf_lines {S0 : List Nat} {w0 w : World} {m a r : Nat} {rs : List Res} {s : Rn} (H : RunHas S0 w0 m a r rs s w) (hn : I64 s.n) (ha : 0 ≤ s.f.a ∧ s.f.a < 4294967296) (hc : s.notes.length ≤ 900) :
    Calls Try.prog 19 #[.pointer (some ⟨r, 0, none⟩)] w fun e w' => e = .returned (.tuple #[]) ∧ RunHas S0 w0 m a r rs (wfA s) w' := by
  unfold wfA
  by_cases h10 : s.f.op = 1 ∧ s.f.line = 0
  · rw [if_pos h10]; exact wf_10 H h10.1 h10.2 hn ha hc
  rw [if_neg h10]
  by_cases h11 : s.f.op = 1 ∧ s.f.line = 1
  · rw [if_pos h11]; exact wf_11 H h11.1 h11.2 hn ha hc
  rw [if_neg h11]
  by_cases h12 : s.f.op = 1 ∧ s.f.line = 2
  · rw [if_pos h12]; exact wf_12 H h12.1 h12.2 hn ha hc
  rw [if_neg h12]
  by_cases h13 : s.f.op = 1 ∧ s.f.line = 3
  · rw [if_pos h13]; exact wf_13 H h13.1 h13.2 hn ha hc
  rw [if_neg h13]
  by_cases h20 : s.f.op = 2 ∧ s.f.line = 0
  · rw [if_pos h20]; exact wf_20 H h20.1 h20.2 hn ha hc
  rw [if_neg h20]
  by_cases h30 : s.f.op = 3 ∧ s.f.line = 0
  · rw [if_pos h30]; exact wf_30 H h30.1 h30.2 hn ha hc
  rw [if_neg h30]
  by_cases h31 : s.f.op = 3 ∧ s.f.line = 1
  · rw [if_pos h31]; exact wf_31 H h31.1 h31.2 hn ha hc
  rw [if_neg h31]
  refine wf_default H rfl rfl h10 h11 h12 h13 h20 h30 h31 (fun rs W HW => ?_)
  by_cases h40 : s.f.op = 4 ∧ s.f.line = 0
  · rw [if_pos h40]; exact wf_40 HW h40.1 h40.2 hn ha hc
  rw [if_neg h40]
  by_cases h80 : s.f.op = 8 ∧ s.f.line = 0
  · rw [if_pos h80]; exact wf_80 HW h80.1 h80.2 hn ha hc
  rw [if_neg h80]
  by_cases h41 : s.f.op = 4 ∧ s.f.line = 1
  · rw [if_pos h41]; exact wf_41 HW h41.1 h41.2 hn ha hc
  rw [if_neg h41]
  by_cases h81 : s.f.op = 8 ∧ s.f.line = 1
  · rw [if_pos h81]; exact wf_81 HW h81.1 h81.2 hn ha hc
  rw [if_neg h81]
  by_cases h50 : s.f.op = 5 ∧ s.f.line = 0
  · rw [if_pos h50]; exact wf_50 HW h50.1 h50.2 hn ha hc
  rw [if_neg h50]
  by_cases h60 : s.f.op = 6 ∧ s.f.line = 0
  · rw [if_pos h60]; exact wf_60 HW h60.1 h60.2 hn ha hc
  rw [if_neg h60]
  by_cases h70 : s.f.op = 7 ∧ s.f.line = 0
  · rw [if_pos h70]; exact wf_70 HW h70.1 h70.2 hn ha hc
  rw [if_neg h70]
  by_cases h51 : s.f.op = 5 ∧ s.f.line = 1
  · rw [if_pos h51]; exact wf_51 HW h51.1 h51.2 hn ha hc
  rw [if_neg h51]
  by_cases h61 : s.f.op = 6 ∧ s.f.line = 1
  · rw [if_pos h61]; exact wf_61 HW h61.1 h61.2 hn ha hc
  rw [if_neg h61]
  by_cases h71 : s.f.op = 7 ∧ s.f.line = 1
  · rw [if_pos h71]; exact wf_71 HW h71.1 h71.2 hn ha hc
  rw [if_neg h71]
  exact wf_none HW rfl rfl h40 h80 h41 h81 h50 h60 h70 h51 h61 h71

theorem wf_lines_nil (w : World) : Calls Try.prog 19 #[.pointer none] w fun e w' => e = .returned (.tuple #[]) ∧ Touch [] w w' := by
  go_enter Try.func19, Try.ntmps19
  go_wp2
  refine bodyPost_ret (v := .tuple #[]) (by simp [results, Try.results19, go_sem]) rfl ⟨rfl, Touch.refl _ _⟩

end Go.Proofs.Ytmbbcgkfankiaaa.Z

/- Package wf: what a line keeps. Written by genwf2.py. -/
set_option linter.unusedVariables false
set_option linter.unusedSimpArgs false
namespace Go.Proofs.Ytmbbcgkfankiaaa.Z
open Go.RowKit

theorem keep_fine {s : Rn} (hw : Words s.L) {n mode task st c : Int} {p : Int → Bool} (h2 : 0 ≤ s.f.a ∧ s.f.a < 4294967296) : 0 ≤ (s.keep (waitA s.L n mode task st c p)).f.a ∧ (s.keep (waitA s.L n mode task st c p)).f.a < 4294967296 := by
  unfold Rn.keep
  split
  · rcases stageA_is mode st with e | e | e | e | e
    · rw [waitA0 e]; exact doA_old s.L hw _
    · rw [waitA1 e]; exact doA_old s.L hw _
    · rw [waitA2 e]; exact doA_old s.L hw _
    · rename_i h; rw [waitA3 e] at h; cases h
    · rw [waitA4 e]; exact doA_old s.L hw _
  · exact h2
theorem keep_rest (s : Rn) (R : WaitR) : (s.keep R).n = s.n ∧ (s.keep R).f.b = s.f.b ∧ (s.keep R).notes = s.notes := by
  unfold Rn.keep
  split <;> exact ⟨rfl, rfl, rfl⟩

set_option maxHeartbeats 800000 in
theorem wf10_fine (s : Rn) (hw : Words s.L) (h : I64 s.n ∧ (0 ≤ s.f.a ∧ s.f.a < 4294967296) ∧ (0 ≤ s.f.b ∧ s.f.b < 4294967296)) : Fine s (wf10 s) := by
  have hold := fun b => doA_old s.L hw b
  obtain ⟨h1, h2, h3⟩ := h
  unfold wf10 wfCalmly
  (try dsimp only)
  (repeat' split) <;> first
    | exact fine_mk ⟨⟨h1, h2, h3⟩, by simp [Rn.wends, wfCalmly, Rn.keep, Rn.noted, Rn.did, Rn.setA, Rn.setB, Rn.note, Rn.goto, Rn.fin, Rn.wake, Rn.waited]⟩
    | exact fine_mk ⟨⟨h1, hold _, h3⟩, by simp [Rn.wends, wfCalmly, Rn.keep, Rn.noted, Rn.did, Rn.setA, Rn.setB, Rn.note, Rn.goto, Rn.fin, Rn.wake, Rn.waited]⟩
    | exact fine_mk ⟨⟨h1, h2, hold _⟩, by simp [Rn.wends, wfCalmly, Rn.keep, Rn.noted, Rn.did, Rn.setA, Rn.setB, Rn.note, Rn.goto, Rn.fin, Rn.wake, Rn.waited]⟩

set_option maxHeartbeats 800000 in
theorem wf11_fine (s : Rn) (hw : Words s.L) (h : I64 s.n ∧ (0 ≤ s.f.a ∧ s.f.a < 4294967296) ∧ (0 ≤ s.f.b ∧ s.f.b < 4294967296)) : Fine s (wf11 s) := by
  have hold := fun b => doA_old s.L hw b
  obtain ⟨h1, h2, h3⟩ := h
  unfold wf11
  (try dsimp only)
  (repeat' split) <;> first
    | exact fine_mk ⟨⟨h1, h2, h3⟩, by simp [Rn.wends, wfCalmly, Rn.keep, Rn.noted, Rn.did, Rn.setA, Rn.setB, Rn.note, Rn.goto, Rn.fin, Rn.wake, Rn.waited]⟩
    | exact fine_mk ⟨⟨h1, hold _, h3⟩, by simp [Rn.wends, wfCalmly, Rn.keep, Rn.noted, Rn.did, Rn.setA, Rn.setB, Rn.note, Rn.goto, Rn.fin, Rn.wake, Rn.waited]⟩
    | exact fine_mk ⟨⟨h1, h2, hold _⟩, by simp [Rn.wends, wfCalmly, Rn.keep, Rn.noted, Rn.did, Rn.setA, Rn.setB, Rn.note, Rn.goto, Rn.fin, Rn.wake, Rn.waited]⟩

theorem wf12_fine (s : Rn) (hw : Words s.L) (h : I64 s.n ∧ (0 ≤ s.f.a ∧ s.f.a < 4294967296) ∧ (0 ≤ s.f.b ∧ s.f.b < 4294967296)) : Fine s (wf12 s) := by
  obtain ⟨h1, h2, h3⟩ := h
  have hk := keep_fine (n := s.n) (mode := s.mode) (task := s.task) (st := s.f.st) (c := 0) (p := wfCalm) hw h2
  unfold wf12
  dsimp only
  obtain ⟨e1, e2, e3⟩ := keep_rest s (waitA s.L s.n s.mode s.task s.f.st 0 wfCalm)
  generalize s.keep (waitA s.L s.n s.mode s.task s.f.st 0 wfCalm) = s1 at hk e1 e2 e3 ⊢
  have hb : I64 s1.n ∧ (0 ≤ s1.f.a ∧ s1.f.a < 4294967296) ∧ (0 ≤ s1.f.b ∧ s1.f.b < 4294967296) := ⟨by rw [e1]; exact h1, hk, by rw [e2]; exact h3⟩
  split
  · exact fine_mk ⟨hb, by show s1.notes.length ≤ _; rw [e3]; omega⟩
  · exact fine_mk ⟨hb, by show s1.notes.length ≤ _; rw [e3]; omega⟩

set_option maxHeartbeats 800000 in
theorem wf13_fine (s : Rn) (hw : Words s.L) (h : I64 s.n ∧ (0 ≤ s.f.a ∧ s.f.a < 4294967296) ∧ (0 ≤ s.f.b ∧ s.f.b < 4294967296)) : Fine s (wf13 s) := by
  have hold := fun b => doA_old s.L hw b
  obtain ⟨h1, h2, h3⟩ := h
  unfold wf13 wfCalmly
  (try dsimp only)
  (repeat' split) <;> first
    | exact fine_mk ⟨⟨h1, h2, h3⟩, by simp [Rn.wends, wfCalmly, Rn.keep, Rn.noted, Rn.did, Rn.setA, Rn.setB, Rn.note, Rn.goto, Rn.fin, Rn.wake, Rn.waited]⟩
    | exact fine_mk ⟨⟨h1, hold _, h3⟩, by simp [Rn.wends, wfCalmly, Rn.keep, Rn.noted, Rn.did, Rn.setA, Rn.setB, Rn.note, Rn.goto, Rn.fin, Rn.wake, Rn.waited]⟩
    | exact fine_mk ⟨⟨h1, h2, hold _⟩, by simp [Rn.wends, wfCalmly, Rn.keep, Rn.noted, Rn.did, Rn.setA, Rn.setB, Rn.note, Rn.goto, Rn.fin, Rn.wake, Rn.waited]⟩

set_option maxHeartbeats 800000 in
theorem wf20_fine (s : Rn) (hw : Words s.L) (h : I64 s.n ∧ (0 ≤ s.f.a ∧ s.f.a < 4294967296) ∧ (0 ≤ s.f.b ∧ s.f.b < 4294967296)) : Fine s (wf20 s) := by
  have hold := fun b => doA_old s.L hw b
  obtain ⟨h1, h2, h3⟩ := h
  unfold wf20
  (try dsimp only)
  (repeat' split) <;> first
    | exact fine_mk ⟨⟨h1, h2, h3⟩, by simp [Rn.wends, wfCalmly, Rn.keep, Rn.noted, Rn.did, Rn.setA, Rn.setB, Rn.note, Rn.goto, Rn.fin, Rn.wake, Rn.waited]⟩
    | exact fine_mk ⟨⟨h1, hold _, h3⟩, by simp [Rn.wends, wfCalmly, Rn.keep, Rn.noted, Rn.did, Rn.setA, Rn.setB, Rn.note, Rn.goto, Rn.fin, Rn.wake, Rn.waited]⟩
    | exact fine_mk ⟨⟨h1, h2, hold _⟩, by simp [Rn.wends, wfCalmly, Rn.keep, Rn.noted, Rn.did, Rn.setA, Rn.setB, Rn.note, Rn.goto, Rn.fin, Rn.wake, Rn.waited]⟩

set_option maxHeartbeats 800000 in
theorem wf30_fine (s : Rn) (hw : Words s.L) (h : I64 s.n ∧ (0 ≤ s.f.a ∧ s.f.a < 4294967296) ∧ (0 ≤ s.f.b ∧ s.f.b < 4294967296)) : Fine s (wf30 s) := by
  have hold := fun b => doA_old s.L hw b
  obtain ⟨h1, h2, h3⟩ := h
  unfold wf30
  (try dsimp only)
  (repeat' split) <;> first
    | exact fine_mk ⟨⟨h1, h2, h3⟩, by simp [Rn.wends, wfCalmly, Rn.keep, Rn.noted, Rn.did, Rn.setA, Rn.setB, Rn.note, Rn.goto, Rn.fin, Rn.wake, Rn.waited]⟩
    | exact fine_mk ⟨⟨h1, hold _, h3⟩, by simp [Rn.wends, wfCalmly, Rn.keep, Rn.noted, Rn.did, Rn.setA, Rn.setB, Rn.note, Rn.goto, Rn.fin, Rn.wake, Rn.waited]⟩
    | exact fine_mk ⟨⟨h1, h2, hold _⟩, by simp [Rn.wends, wfCalmly, Rn.keep, Rn.noted, Rn.did, Rn.setA, Rn.setB, Rn.note, Rn.goto, Rn.fin, Rn.wake, Rn.waited]⟩

set_option maxHeartbeats 800000 in
theorem wf31_fine (s : Rn) (hw : Words s.L) (h : I64 s.n ∧ (0 ≤ s.f.a ∧ s.f.a < 4294967296) ∧ (0 ≤ s.f.b ∧ s.f.b < 4294967296)) : Fine s (wf31 s) := by
  have hold := fun b => doA_old s.L hw b
  obtain ⟨h1, h2, h3⟩ := h
  unfold wf31
  (try dsimp only)
  (repeat' split) <;> first
    | exact fine_mk ⟨⟨h1, h2, h3⟩, by simp [Rn.wends, wfCalmly, Rn.keep, Rn.noted, Rn.did, Rn.setA, Rn.setB, Rn.note, Rn.goto, Rn.fin, Rn.wake, Rn.waited]⟩
    | exact fine_mk ⟨⟨h1, hold _, h3⟩, by simp [Rn.wends, wfCalmly, Rn.keep, Rn.noted, Rn.did, Rn.setA, Rn.setB, Rn.note, Rn.goto, Rn.fin, Rn.wake, Rn.waited]⟩
    | exact fine_mk ⟨⟨h1, h2, hold _⟩, by simp [Rn.wends, wfCalmly, Rn.keep, Rn.noted, Rn.did, Rn.setA, Rn.setB, Rn.note, Rn.goto, Rn.fin, Rn.wake, Rn.waited]⟩

set_option maxHeartbeats 800000 in
theorem wf40_fine (s : Rn) (hw : Words s.L) (h : I64 s.n ∧ (0 ≤ s.f.a ∧ s.f.a < 4294967296) ∧ (0 ≤ s.f.b ∧ s.f.b < 4294967296)) : Fine s (wf40 s) := by
  have hold := fun b => doA_old s.L hw b
  obtain ⟨h1, h2, h3⟩ := h
  unfold wf40
  (try dsimp only)
  (repeat' split) <;> first
    | exact fine_mk ⟨⟨h1, h2, h3⟩, by simp [Rn.wends, wfCalmly, Rn.keep, Rn.noted, Rn.did, Rn.setA, Rn.setB, Rn.note, Rn.goto, Rn.fin, Rn.wake, Rn.waited]⟩
    | exact fine_mk ⟨⟨h1, hold _, h3⟩, by simp [Rn.wends, wfCalmly, Rn.keep, Rn.noted, Rn.did, Rn.setA, Rn.setB, Rn.note, Rn.goto, Rn.fin, Rn.wake, Rn.waited]⟩
    | exact fine_mk ⟨⟨h1, h2, hold _⟩, by simp [Rn.wends, wfCalmly, Rn.keep, Rn.noted, Rn.did, Rn.setA, Rn.setB, Rn.note, Rn.goto, Rn.fin, Rn.wake, Rn.waited]⟩

set_option maxHeartbeats 800000 in
theorem wf80_fine (s : Rn) (hw : Words s.L) (h : I64 s.n ∧ (0 ≤ s.f.a ∧ s.f.a < 4294967296) ∧ (0 ≤ s.f.b ∧ s.f.b < 4294967296)) : Fine s (wf80 s) := by
  have hold := fun b => doA_old s.L hw b
  obtain ⟨h1, h2, h3⟩ := h
  unfold wf80
  (try dsimp only)
  (repeat' split) <;> first
    | exact fine_mk ⟨⟨h1, h2, h3⟩, by simp [Rn.wends, wfCalmly, Rn.keep, Rn.noted, Rn.did, Rn.setA, Rn.setB, Rn.note, Rn.goto, Rn.fin, Rn.wake, Rn.waited]⟩
    | exact fine_mk ⟨⟨h1, hold _, h3⟩, by simp [Rn.wends, wfCalmly, Rn.keep, Rn.noted, Rn.did, Rn.setA, Rn.setB, Rn.note, Rn.goto, Rn.fin, Rn.wake, Rn.waited]⟩
    | exact fine_mk ⟨⟨h1, h2, hold _⟩, by simp [Rn.wends, wfCalmly, Rn.keep, Rn.noted, Rn.did, Rn.setA, Rn.setB, Rn.note, Rn.goto, Rn.fin, Rn.wake, Rn.waited]⟩

set_option maxHeartbeats 800000 in
theorem wf41_fine (s : Rn) (hw : Words s.L) (h : I64 s.n ∧ (0 ≤ s.f.a ∧ s.f.a < 4294967296) ∧ (0 ≤ s.f.b ∧ s.f.b < 4294967296)) : Fine s (wf41 s) := by
  have hold := fun b => doA_old s.L hw b
  obtain ⟨h1, h2, h3⟩ := h
  unfold wf41
  (try dsimp only)
  (repeat' split) <;> first
    | exact fine_mk ⟨⟨h1, h2, h3⟩, by simp [Rn.wends, wfCalmly, Rn.keep, Rn.noted, Rn.did, Rn.setA, Rn.setB, Rn.note, Rn.goto, Rn.fin, Rn.wake, Rn.waited]⟩
    | exact fine_mk ⟨⟨h1, hold _, h3⟩, by simp [Rn.wends, wfCalmly, Rn.keep, Rn.noted, Rn.did, Rn.setA, Rn.setB, Rn.note, Rn.goto, Rn.fin, Rn.wake, Rn.waited]⟩
    | exact fine_mk ⟨⟨h1, h2, hold _⟩, by simp [Rn.wends, wfCalmly, Rn.keep, Rn.noted, Rn.did, Rn.setA, Rn.setB, Rn.note, Rn.goto, Rn.fin, Rn.wake, Rn.waited]⟩

set_option maxHeartbeats 800000 in
theorem wf81_fine (s : Rn) (hw : Words s.L) (h : I64 s.n ∧ (0 ≤ s.f.a ∧ s.f.a < 4294967296) ∧ (0 ≤ s.f.b ∧ s.f.b < 4294967296)) : Fine s (wf81 s) := by
  have hold := fun b => doA_old s.L hw b
  obtain ⟨h1, h2, h3⟩ := h
  unfold wf81
  (try dsimp only)
  (repeat' split) <;> first
    | exact fine_mk ⟨⟨h1, h2, h3⟩, by simp [Rn.wends, wfCalmly, Rn.keep, Rn.noted, Rn.did, Rn.setA, Rn.setB, Rn.note, Rn.goto, Rn.fin, Rn.wake, Rn.waited]⟩
    | exact fine_mk ⟨⟨h1, hold _, h3⟩, by simp [Rn.wends, wfCalmly, Rn.keep, Rn.noted, Rn.did, Rn.setA, Rn.setB, Rn.note, Rn.goto, Rn.fin, Rn.wake, Rn.waited]⟩
    | exact fine_mk ⟨⟨h1, h2, hold _⟩, by simp [Rn.wends, wfCalmly, Rn.keep, Rn.noted, Rn.did, Rn.setA, Rn.setB, Rn.note, Rn.goto, Rn.fin, Rn.wake, Rn.waited]⟩

set_option maxHeartbeats 800000 in
theorem wf50_fine (s : Rn) (hw : Words s.L) (h : I64 s.n ∧ (0 ≤ s.f.a ∧ s.f.a < 4294967296) ∧ (0 ≤ s.f.b ∧ s.f.b < 4294967296)) : Fine s (wf50 s) := by
  have hold := fun b => doA_old s.L hw b
  obtain ⟨h1, h2, h3⟩ := h
  unfold wf50 Rn.wchosen
  (try dsimp only)
  (repeat' split) <;> first
    | exact fine_mk ⟨⟨h1, h2, h3⟩, by simp [Rn.wends, wfCalmly, Rn.keep, Rn.noted, Rn.did, Rn.setA, Rn.setB, Rn.note, Rn.goto, Rn.fin, Rn.wake, Rn.waited]⟩
    | exact fine_mk ⟨⟨h1, hold _, h3⟩, by simp [Rn.wends, wfCalmly, Rn.keep, Rn.noted, Rn.did, Rn.setA, Rn.setB, Rn.note, Rn.goto, Rn.fin, Rn.wake, Rn.waited]⟩
    | exact fine_mk ⟨⟨h1, h2, hold _⟩, by simp [Rn.wends, wfCalmly, Rn.keep, Rn.noted, Rn.did, Rn.setA, Rn.setB, Rn.note, Rn.goto, Rn.fin, Rn.wake, Rn.waited]⟩

set_option maxHeartbeats 800000 in
theorem wf60_fine (s : Rn) (hw : Words s.L) (h : I64 s.n ∧ (0 ≤ s.f.a ∧ s.f.a < 4294967296) ∧ (0 ≤ s.f.b ∧ s.f.b < 4294967296)) : Fine s (wf60 s) := by
  have hold := fun b => doA_old s.L hw b
  obtain ⟨h1, h2, h3⟩ := h
  unfold wf60 Rn.wchosen
  (try dsimp only)
  (repeat' split) <;> first
    | exact fine_mk ⟨⟨h1, h2, h3⟩, by simp [Rn.wends, wfCalmly, Rn.keep, Rn.noted, Rn.did, Rn.setA, Rn.setB, Rn.note, Rn.goto, Rn.fin, Rn.wake, Rn.waited]⟩
    | exact fine_mk ⟨⟨h1, hold _, h3⟩, by simp [Rn.wends, wfCalmly, Rn.keep, Rn.noted, Rn.did, Rn.setA, Rn.setB, Rn.note, Rn.goto, Rn.fin, Rn.wake, Rn.waited]⟩
    | exact fine_mk ⟨⟨h1, h2, hold _⟩, by simp [Rn.wends, wfCalmly, Rn.keep, Rn.noted, Rn.did, Rn.setA, Rn.setB, Rn.note, Rn.goto, Rn.fin, Rn.wake, Rn.waited]⟩

set_option maxHeartbeats 800000 in
theorem wf70_fine (s : Rn) (hw : Words s.L) (h : I64 s.n ∧ (0 ≤ s.f.a ∧ s.f.a < 4294967296) ∧ (0 ≤ s.f.b ∧ s.f.b < 4294967296)) : Fine s (wf70 s) := by
  have hold := fun b => doA_old s.L hw b
  obtain ⟨h1, h2, h3⟩ := h
  unfold wf70 Rn.wchosen
  (try dsimp only)
  (repeat' split) <;> first
    | exact fine_mk ⟨⟨h1, h2, h3⟩, by simp [Rn.wends, wfCalmly, Rn.keep, Rn.noted, Rn.did, Rn.setA, Rn.setB, Rn.note, Rn.goto, Rn.fin, Rn.wake, Rn.waited]⟩
    | exact fine_mk ⟨⟨h1, hold _, h3⟩, by simp [Rn.wends, wfCalmly, Rn.keep, Rn.noted, Rn.did, Rn.setA, Rn.setB, Rn.note, Rn.goto, Rn.fin, Rn.wake, Rn.waited]⟩
    | exact fine_mk ⟨⟨h1, h2, hold _⟩, by simp [Rn.wends, wfCalmly, Rn.keep, Rn.noted, Rn.did, Rn.setA, Rn.setB, Rn.note, Rn.goto, Rn.fin, Rn.wake, Rn.waited]⟩

set_option maxHeartbeats 800000 in
theorem wf51_fine (s : Rn) (hw : Words s.L) (h : I64 s.n ∧ (0 ≤ s.f.a ∧ s.f.a < 4294967296) ∧ (0 ≤ s.f.b ∧ s.f.b < 4294967296)) : Fine s (wf51 s) := by
  have hold := fun b => doA_old s.L hw b
  obtain ⟨h1, h2, h3⟩ := h
  unfold wf51 Rn.wswapped
  (try dsimp only)
  (repeat' split) <;> first
    | exact fine_mk ⟨⟨h1, h2, h3⟩, by simp [Rn.wends, wfCalmly, Rn.keep, Rn.noted, Rn.did, Rn.setA, Rn.setB, Rn.note, Rn.goto, Rn.fin, Rn.wake, Rn.waited]⟩
    | exact fine_mk ⟨⟨h1, hold _, h3⟩, by simp [Rn.wends, wfCalmly, Rn.keep, Rn.noted, Rn.did, Rn.setA, Rn.setB, Rn.note, Rn.goto, Rn.fin, Rn.wake, Rn.waited]⟩
    | exact fine_mk ⟨⟨h1, h2, hold _⟩, by simp [Rn.wends, wfCalmly, Rn.keep, Rn.noted, Rn.did, Rn.setA, Rn.setB, Rn.note, Rn.goto, Rn.fin, Rn.wake, Rn.waited]⟩

set_option maxHeartbeats 800000 in
theorem wf61_fine (s : Rn) (hw : Words s.L) (h : I64 s.n ∧ (0 ≤ s.f.a ∧ s.f.a < 4294967296) ∧ (0 ≤ s.f.b ∧ s.f.b < 4294967296)) : Fine s (wf61 s) := by
  have hold := fun b => doA_old s.L hw b
  obtain ⟨h1, h2, h3⟩ := h
  unfold wf61 Rn.wswapped
  (try dsimp only)
  (repeat' split) <;> first
    | exact fine_mk ⟨⟨h1, h2, h3⟩, by simp [Rn.wends, wfCalmly, Rn.keep, Rn.noted, Rn.did, Rn.setA, Rn.setB, Rn.note, Rn.goto, Rn.fin, Rn.wake, Rn.waited]⟩
    | exact fine_mk ⟨⟨h1, hold _, h3⟩, by simp [Rn.wends, wfCalmly, Rn.keep, Rn.noted, Rn.did, Rn.setA, Rn.setB, Rn.note, Rn.goto, Rn.fin, Rn.wake, Rn.waited]⟩
    | exact fine_mk ⟨⟨h1, h2, hold _⟩, by simp [Rn.wends, wfCalmly, Rn.keep, Rn.noted, Rn.did, Rn.setA, Rn.setB, Rn.note, Rn.goto, Rn.fin, Rn.wake, Rn.waited]⟩

set_option maxHeartbeats 800000 in
theorem wf71_fine (s : Rn) (hw : Words s.L) (h : I64 s.n ∧ (0 ≤ s.f.a ∧ s.f.a < 4294967296) ∧ (0 ≤ s.f.b ∧ s.f.b < 4294967296)) : Fine s (wf71 s) := by
  have hold := fun b => doA_old s.L hw b
  obtain ⟨h1, h2, h3⟩ := h
  unfold wf71 Rn.wswapped
  (try dsimp only)
  (repeat' split) <;> first
    | exact fine_mk ⟨⟨h1, h2, h3⟩, by simp [Rn.wends, wfCalmly, Rn.keep, Rn.noted, Rn.did, Rn.setA, Rn.setB, Rn.note, Rn.goto, Rn.fin, Rn.wake, Rn.waited]⟩
    | exact fine_mk ⟨⟨h1, hold _, h3⟩, by simp [Rn.wends, wfCalmly, Rn.keep, Rn.noted, Rn.did, Rn.setA, Rn.setB, Rn.note, Rn.goto, Rn.fin, Rn.wake, Rn.waited]⟩
    | exact fine_mk ⟨⟨h1, h2, hold _⟩, by simp [Rn.wends, wfCalmly, Rn.keep, Rn.noted, Rn.did, Rn.setA, Rn.setB, Rn.note, Rn.goto, Rn.fin, Rn.wake, Rn.waited]⟩

/-- What is kept stays words; few notes come. -/
theorem wfA_fine (s : Rn) (hw : Words s.L) (h : I64 s.n ∧ (0 ≤ s.f.a ∧ s.f.a < 4294967296) ∧ (0 ≤ s.f.b ∧ s.f.b < 4294967296)) : (I64 (wfA s).n ∧ (0 ≤ (wfA s).f.a ∧ (wfA s).f.a < 4294967296) ∧ (0 ≤ (wfA s).f.b ∧ (wfA s).f.b < 4294967296)) ∧ (wfA s).notes.length ≤ s.notes.length + 10 := by
  suffices h0 : Fine s (wfA s) from h0
  unfold wfA
  by_cases h10 : s.f.op = 1 ∧ s.f.line = 0
  · rw [if_pos h10]; exact wf10_fine s hw h
  rw [if_neg h10]
  by_cases h11 : s.f.op = 1 ∧ s.f.line = 1
  · rw [if_pos h11]; exact wf11_fine s hw h
  rw [if_neg h11]
  by_cases h12 : s.f.op = 1 ∧ s.f.line = 2
  · rw [if_pos h12]; exact wf12_fine s hw h
  rw [if_neg h12]
  by_cases h13 : s.f.op = 1 ∧ s.f.line = 3
  · rw [if_pos h13]; exact wf13_fine s hw h
  rw [if_neg h13]
  by_cases h20 : s.f.op = 2 ∧ s.f.line = 0
  · rw [if_pos h20]; exact wf20_fine s hw h
  rw [if_neg h20]
  by_cases h30 : s.f.op = 3 ∧ s.f.line = 0
  · rw [if_pos h30]; exact wf30_fine s hw h
  rw [if_neg h30]
  by_cases h31 : s.f.op = 3 ∧ s.f.line = 1
  · rw [if_pos h31]; exact wf31_fine s hw h
  rw [if_neg h31]
  by_cases h40 : s.f.op = 4 ∧ s.f.line = 0
  · rw [if_pos h40]; exact wf40_fine s hw h
  rw [if_neg h40]
  by_cases h80 : s.f.op = 8 ∧ s.f.line = 0
  · rw [if_pos h80]; exact wf80_fine s hw h
  rw [if_neg h80]
  by_cases h41 : s.f.op = 4 ∧ s.f.line = 1
  · rw [if_pos h41]; exact wf41_fine s hw h
  rw [if_neg h41]
  by_cases h81 : s.f.op = 8 ∧ s.f.line = 1
  · rw [if_pos h81]; exact wf81_fine s hw h
  rw [if_neg h81]
  by_cases h50 : s.f.op = 5 ∧ s.f.line = 0
  · rw [if_pos h50]; exact wf50_fine s hw h
  rw [if_neg h50]
  by_cases h60 : s.f.op = 6 ∧ s.f.line = 0
  · rw [if_pos h60]; exact wf60_fine s hw h
  rw [if_neg h60]
  by_cases h70 : s.f.op = 7 ∧ s.f.line = 0
  · rw [if_pos h70]; exact wf70_fine s hw h
  rw [if_neg h70]
  by_cases h51 : s.f.op = 5 ∧ s.f.line = 1
  · rw [if_pos h51]; exact wf51_fine s hw h
  rw [if_neg h51]
  by_cases h61 : s.f.op = 6 ∧ s.f.line = 1
  · rw [if_pos h61]; exact wf61_fine s hw h
  rw [if_neg h61]
  by_cases h71 : s.f.op = 7 ∧ s.f.line = 1
  · rw [if_pos h71]; exact wf71_fine s hw h
  rw [if_neg h71]
  exact fine_mk ⟨h, by simp⟩

end Go.Proofs.Ytmbbcgkfankiaaa.Z

/- Law 16: a step; an operation by itself. Written by genlaw.py. -/
set_option linter.unusedVariables false
set_option linter.unusedSimpArgs false
namespace Go.Proofs.Ytmbbcgkfankiaaa.Z
open Go.RowKit

theorem wf_stepR {S0 : List Nat} {w0 w : World} {m a r : Nat} {rs : List Res} {s : Rn} (H : RunHas S0 w0 m a r rs s w) (hok : s.ok) :
    Calls Try.prog 18 #[.pointer (some ⟨r, 0, none⟩), .func (.func 19) #[] #[]] w fun e w' => e = .returned (.bool (stepR wfA s).over) ∧ RunHas S0 w0 m a r rs (stepR wfA s) w' := by
  cases hw : s.f.wk.on with
  | true =>
    have e : stepR wfA s = s.woke := by unfold stepR; rw [hw]; rfl
    rw [e]
    exact run_step_wake H hw hok.1 _
  | false =>
    have e : stepR wfA s = wfA s.fresh := by unfold stepR; rw [hw]; rfl
    rw [e]
    exact run_step_lines H hw 19 #[] #[] (enters_of Try.func19 (by kernel_rfl) rfl) (fun W HW => wf_lines HW hok.1 hok.2.1 (by simp [Rn.fresh]))

theorem wf_stepok {s : Rn} (hw : Words s.L) (h : s.ok) : (stepR wfA s).ok ∧ (stepR wfA s).notes.length ≤ 10 := by
  unfold stepR
  split
  · exact ⟨woke_ok h, by simp [Rn.woke]⟩
  · have := wfA_fine s.fresh hw (fresh_ok h)
    exact ⟨this.1, by simpa [Rn.fresh] using this.2⟩

set_option maxHeartbeats 3200000 in
set_option maxRecDepth 100000 in
theorem wf_alone {S0 : List Nat} {w0 w : World} {m a : Nat} {L : List Int} {rs : List Res} (H : Has S0 w0 w (.mem m a L :: rs)) (n mode op : Int) (hn : I64 n) (most : Nat) (hm : most ≤ 2000) :
    Calls Try.prog 14 #[.pointer (some ⟨m, 0, none⟩), .int .i64 n, .int .i64 mode, .int .i64 op, .int .i64 most] w
      (AloneEnd S0 w0 m a rs (aloneA wfA most (start n mode op L))) := by
  have hnew := RunHas.fresh_ (rs := .own 115 4 (.slice none 0 0) 0 [] :: rs) (start n mode op L) (H.ownNil 115 4).swap rfl 52
  obtain ⟨i0, hi0, hz0, hz1, hz2⟩ := info_parts note_info
  have HI := Lib.hid (show _ ∧ _ ∧ _ ∧ _ from ⟨hi0, hz0, hz1, hz2⟩)
  have hok0 := start_ok hn mode op L
  generalize hR : aloneA wfA most (start n mode op L) = R
  have HN := Lib.hid hnew
  have HR := Lib.hid hR
  have HOK := Lib.hid hok0
  clear H hnew hi0 hz0 hz1 hz2 hR hok0 hn
  go_enter Try.func14, Try.ntmps14
  go_wp2_with fail
  refine wp_from (Facts := fun W => RunHas S0 w0 m a w.heap.size (.own 115 4 (.slice none 0 0) 0 [] :: rs) (start n mode op L) W) ?_ HN.out
  intro W HW
  clear HN
  generalize w.heap.size = B at HW ⊢
  have HV := Lib.hid HW
  clear HW
  go_loopw [13, 14] (fun nt i wr => ∃ (k : Nat) (s : Rn) (nn : Nat) (xs : List Value), k ≤ most ∧ i = .int .i64 k ∧ RunHas S0 w0 m a B (.own 115 4 nt nn xs :: rs) s wr ∧ s.ok ∧ nn ≤ 10 * k ∧ aloneA wfA (most - k) s = R) (fun _ i _ => most - (intOf i).toNat)
  case atStart => exact ⟨0, _, 0, [], Nat.zero_le _, rfl, HV.out, HOK.out, by simp, HR.out⟩
  case round =>
    obtain ⟨k, s, nn, xs, hk, rfl, hH, hok, hnn, hal⟩ := hrel
    clear HV HR HOK
    by_cases hlt : k < most
    · obtain ⟨q, hq⟩ : ∃ q, most - k = q + 1 := ⟨most - k - 1, by omega⟩
      rw [hq] at hal
      have hal2 : (if (stepR wfA s).over then ((stepR wfA s).f.ret, stepR wfA s) else aloneA wfA q (stepR wfA s)) = R := hal
      have hso := wf_stepok hH.words hok
      have hst := wf_stepR hH hok
      cases hov : (stepR wfA s).over with
      | true =>
        rw [hov] at hst hal2
        simp only [if_true] at hal2
        subst hal2
        generalize stepR wfA s = s2 at hst hso
        have HST := Lib.hid hst
        have HSO := Lib.hid hso
        have HNN := Lib.hid hnn
        clear hst hso hH hok hnn hal hov
        have hi : (k : Int) < (most : Int) := by omega
        go_wp2_with fail
        refine HST.out.mono ?_
        rintro e w1 ⟨rfl, nv, H3⟩
        obtain ⟨pn, cn, rfl⟩ := owns_slice H3.own3
        have c19 : w1.cell? ⟨B, 19, none⟩ = some (.slice pn s2.notes.length cn) := H3.blk1.cell 19
        go_wp2_with (at_builtin; refine wpList_append_rd (P := Try.prog) _ rfl (.tmp 31) (.tmp 35) _ rfl 0 115 i0 _ 4 32 Try.underlying32 HI.out.1 HI.out.2.1 HI.out.2.2.1 HI.out.2.2.2 rfl (by omega) _ nn xs rfl (Has.ownAt H3 3 rfl) pn s2.notes.length cn (nts s2.notes) rfl (Rd.own H3.own3) (nts_one _) (by have h1 := HSO.out.2; have h2 := HNN.out; simp only [maxLen]; omega) (by have h1 := HSO.out.2; have h2 := HNN.out; omega) (by omega) ?_; intro v' w' hown hg hat; have H4 := H3.grown4 hown hg hat; clear H3 hown hg hat c19; have c13 : w'.cell? ⟨B, 13, none⟩ = some (.int .i64 s2.f.ret) := H4.blk1.cell 13)
        go_wp2
        go_ret2
        exact ⟨_, rfl, H4.cut3⟩
      | false =>
        rw [hov] at hst hal2
        simp only [Bool.false_eq_true, if_false] at hal2
        generalize stepR wfA s = s2 at hst hso hal2
        have HST := Lib.hid hst
        have HSO := Lib.hid hso
        have HNN := Lib.hid hnn
        have HAL := Lib.hid hal2
        clear hst hso hH hok hnn hal hov hal2
        have hi : (k : Int) < (most : Int) := by omega
        go_wp2_with fail
        refine HST.out.mono ?_
        rintro e w1 ⟨rfl, nv, H3⟩
        obtain ⟨pn, cn, rfl⟩ := owns_slice H3.own3
        have c19 : w1.cell? ⟨B, 19, none⟩ = some (.slice pn s2.notes.length cn) := H3.blk1.cell 19
        go_wp2_with (at_builtin; refine wpList_append_rd (P := Try.prog) _ rfl (.tmp 31) (.tmp 35) _ rfl 0 115 i0 _ 4 32 Try.underlying32 HI.out.1 HI.out.2.1 HI.out.2.2.1 HI.out.2.2.2 rfl (by omega) _ nn xs rfl (Has.ownAt H3 3 rfl) pn s2.notes.length cn (nts s2.notes) rfl (Rd.own H3.own3) (nts_one _) (by have h1 := HSO.out.2; have h2 := HNN.out; simp only [maxLen]; omega) (by have h1 := HSO.out.2; have h2 := HNN.out; omega) (by omega) ?_; intro v' w' hown hg hat; have H4 := H3.grown4 hown hg hat; clear H3 hown hg hat c19)
        go_wp2
        go_roundw
        case rel => exact ⟨k + 1, s2, nn + s2.notes.length, xs ++ nts s2.notes, by omega, by go_num, ⟨_, H4⟩, HSO.out.1, by have h1 := HSO.out.2; have h2 := HNN.out; omega, by rw [show most - (k + 1) = q from by omega]; exact HAL.out⟩
        case measure => simp [intOf]; omega
    · have hkm : k = most := by omega
      subst hkm
      rw [Nat.sub_self] at hal
      have hal2 : ((0 : Int), s) = R := hal
      subst hal2
      have HH := Lib.hid hH
      clear hH hok hnn hal hk hlt
      have hi : (k : Int) ≤ (k : Int) := Int.le_refl _
      go_wp2_with fail
      go_ret2
      obtain ⟨nv, H4⟩ := HH.out
      exact ⟨_, rfl, H4.cut3⟩

end Go.Proofs.Ytmbbcgkfankiaaa.Z

/- Law 16: the document's example. Written by genlaw.py. -/
set_option linter.unusedVariables false
set_option linter.unusedSimpArgs false
namespace Go.Proofs.Ytmbbcgkfankiaaa.Z
open Go.RowKit

theorem wf_awake_pure : (aloneA wfA 2 (start 1 1 3 (own6 255 ++ List.replicate ((8 + 4 * (1 : Int)).toNat - 1) 0))).1 = 2 ∧ ldA (aloneA wfA 2 (start 1 1 3 (own6 255 ++ List.replicate ((8 + 4 * (1 : Int)).toNat - 1) 0))).2.L 0 = 16842496 := by
  decide +kernel

set_option maxHeartbeats 1600000 in
theorem wf_awake (w : World) : Calls Try.prog 16 #[] w fun e w' => e = .returned (.bool true) ∧ Touch [] w w' := by
  have hp := wf_awake_pure
  have hf := fun W => first6 1 255 W (by decide) (by decide)
  generalize hL : own6 255 ++ List.replicate ((8 + 4 * (1 : Int)).toNat - 1) 0 = L at hf hp
  have HF := Lib.hid hf
  clear hf hL
  go_enter Try.func16, Try.ntmps16
  go_wp2_with fail
  refine (HF.out _).mono ?_
  rintro e w1 h1
  obtain ⟨p, g, cap, rfl, H1⟩ := has_newwords (Has.start [] w) h1
  clear h1
  go_wp2_with fail
  refine (fromRow_has H1 rfl).mono ?_
  rintro e w2 ⟨m, a, rfl, H2⟩
  clear H1
  go_wp2_with fail
  refine (wf_alone H2 1 1 3 (by unfold I64; decide) 2 (by decide)).mono ?_
  rintro e w3 ⟨v, he, H3⟩
  generalize aloneA wfA 2 (start 1 1 3 L) = R at hp he H3
  obtain ⟨r1, s3⟩ := R
  obtain ⟨rfl, hp2⟩ := hp
  simp only at he H3 hp2
  subst he
  clear H2
  have hld := fun W (H : Has [] w W (.mem m a s3.L :: .row p g cap L :: [])) => load_has H 0
  rw [hp2] at hld
  have HLD := Lib.hid hld
  clear hld hp2
  go_wp2_with fail
  refine (HLD.out _ H3).mono ?_
  rintro e w4 ⟨rfl, H4⟩
  go_wp2_with fail
  go_ret
  exact ⟨by simp, H4.touch⟩

end Go.Proofs.Ytmbbcgkfankiaaa.Z

/- Law 16: how many hold something; how a match begins. Written by genmat.py. -/
set_option linter.unusedVariables false
set_option linter.unusedSimpArgs false
namespace Go.Proofs.Ytmbbcgkfankiaaa.Z
open Go.RowKit

set_option maxHeartbeats 1600000 in
theorem wf_many {S0 : List Nat} {w0 w : World} {m a x hb : Nat} {rs : List Res} {M : Mt} (H : MatchHas S0 w0 m a x hb rs M w) (what : Int) :
    Calls Try.prog 28 #[.pointer (some ⟨x, 0, none⟩), .int .i64 what] w fun e w' => e = .returned (.int .i64 (M.many what)) ∧ w = w' := by
  obtain ⟨hf1, hf2, hf3, hf4⟩ := H.fit
  obtain ⟨x0, x1, x2, x3⟩ := H.held
  generalize hk : M.fs.length = k at hf1 hf4 x1 x3
  have HX3 := Lib.hid x3
  have HL := Lib.hid hf1
  have HK := Lib.hid hf4
  clear hf1 hf2 hf3 hf4 x3 hk H
  go_enter Try.func28, Try.ntmps28
  go_wp2_with fail
  go_loopw [5, 6] (fun c i wr => wr = w ∧ ∃ j : Nat, j ≤ k ∧ i = .int .i64 j ∧ c = .int .i64 ((M.hold.take j).countP (· == what) : Nat)) (fun _ i _ => k - (intOf i).toNat)
  case atStart => exact ⟨rfl, 0, Nat.zero_le _, rfl, by simp⟩
  case round =>
    obtain ⟨rfl, j, hj, rfl, rfl⟩ := hrel
    by_cases hjk : j < k
    · have hc := HX3.out j hjk
      have hcs := count_snoc M.hold what j (by rw [HL.out]; exact hjk)
      have hcl : (M.hold.take j).countP (· == what) ≤ k := Nat.le_trans List.countP_le_length (by rw [List.length_take]; omega)
      have hk64 := HK.out
      generalize (M.hold.take j).countP (· == what) = cnt at hcs hcl ⊢
      generalize M.hold.getD j 0 = v at hc hcs
      have HCS := Lib.hid hcs
      have hi1 : (0 : Int) ≤ (j : Int) := Int.natCast_nonneg _
      have hi2 : (j : Int) < (k : Int) := by omega
      clear hcs
      by_cases hv : v = what
      · subst hv
        go_wp2
        go_roundw
        case rel => exact ⟨trivial, j + 1, by omega, by go_num, by rw [HCS.out, if_pos rfl]; go_num⟩
        case measure => simp [intOf]; omega
      · have hv2 : (v == what) = false := by simpa using hv
        have HV := Lib.hid hv
        clear hv
        go_wp2
        go_roundw
        case rel => exact ⟨trivial, j + 1, by omega, by go_num, by rw [HCS.out, if_neg HV.out, Nat.add_zero]⟩
        case measure => simp [intOf]; omega
    · have hjk2 : j = k := by omega
      subst hjk2
      have e : (M.hold.take j).countP (· == what) = M.many what := by unfold Mt.many; rw [← HL.out, List.take_length]
      rw [e]
      clear HX3 HL e
      have hi2 : (j : Int) ≤ (j : Int) := Int.le_refl _
      go_wp2
      go_ret
      exact ⟨rfl, rfl⟩

theorem ptr_info : (Try.prog.info? 46).map (fun i => (i.zero, i.size, i.bytes)) = some (some (.pointer none), 1, 8) := by kernel_rfl
theorem int_info : (Try.prog.info? 3).map (fun i => (i.zero, i.size, i.bytes)) = some (some (.int .i64 0), 1, 8) := by kernel_rfl

def WfBegun (S0 : List Nat) (w0 : World) (k : Nat) (mode : Int) (Z : List Int) (rs : List Res) (e : Ending) (w' : World) : Prop :=
  ∃ x m a hb p g cap, e = .returned (.pointer (some ⟨x, 0, none⟩)) ∧ MatchHas S0 w0 m a x hb (.row p g cap Z :: rs) (Mt.start k mode Z) w'

set_option maxHeartbeats 3200000 in
set_option maxRecDepth 100000 in
theorem wf_begun {S0 : List Nat} {w0 w : World} {rs : List Res} (H : Has S0 w0 w rs) (k : Nat) (h1 : 1 ≤ k) (h2 : k ≤ 64) (mode base : Int) (hb : 0 ≤ base ∧ base < 4294967296) :
    Calls Try.prog 26 #[.int .i64 k, .int .i64 mode, .int .u32 base] w (WfBegun S0 w0 k mode (own6 base ++ List.replicate ((8 + 4 * (k : Int)).toNat - 1) 0) rs) := by
  have hf := fun W => first6 k base W ⟨by omega, by omega⟩ hb
  generalize own6 base ++ List.replicate ((8 + 4 * (k : Int)).toNat - 1) 0 = Z at hf
  obtain ⟨i0, hi0, hz0, hz1, hz2⟩ := info_parts ptr_info
  have HI := Lib.hid (show _ ∧ _ ∧ _ ∧ _ from ⟨hi0, hz0, hz1, hz2⟩)
  clear hi0 hz0 hz1 hz2
  obtain ⟨j0, hj0, hy0, hy1, hy2⟩ := info_parts int_info
  have HJ := Lib.hid (show _ ∧ _ ∧ _ ∧ _ from ⟨hj0, hy0, hy1, hy2⟩)
  clear hj0 hy0 hy1 hy2
  have HF := Lib.hid hf
  have HH := Lib.hid H
  clear hf H
  go_enter Try.func26, Try.ntmps26
  go_wp2_with fail
  refine (HF.out _).mono ?_
  rintro e w1 g1
  obtain ⟨p, g, cap, rfl, H1⟩ := has_newwords HH.out g1
  clear g1
  go_wp2_with fail
  refine (fromRow_has H1 rfl).mono ?_
  rintro e w2 ⟨m, a, rfl, H2⟩
  clear H1
  have HS2 := Lib.hid H2
  clear H2
  go_wp2_with (at_make; refine wpList_make_full _ rfl _ _ 23 rfl 0 3 j0 _ 1 Try.underlying23 HJ.out.1 HJ.out.2.1 HJ.out.2.2.1 _ _ _ _ k rfl rfl rfl rfl (by rw [HJ.out.2.2.2]; omega) (by unfold maxLen; omega) (Nat.zero_le _) ?_; intro w4 hown hg)
  have hB := own_full hown
  rw [Nat.mul_one, show (madeCells (Value.int IntKind.i64 0).cells k).toList = List.replicate k (Value.int .i64 0) from toList_madeCells_one _ k] at hB
  have hz : (List.replicate k (Value.int .i64 0)).toArray = (i64s (List.replicate k 0)).toArray := by simp [i64s]
  rw [hz] at hB
  have H3 := HS2.out.came (.blk w2.heap.size (i64s (List.replicate k 0)).toArray) ((Touch.refl [] w2).grown hg (by simp)) (by simp) hB (by intro b hb; simp [Res.foot] at hb; omega)
  have H4 := (H3.new rfl #[.slice none 0 0, .slice (some ⟨w2.heap.size, 0, none⟩) k k] 73).ownNil 46 1
  have H5 := (((H4.front 2 (by simp)).front 1 (by simp)).front 2 (by simp)).front 3 (by simp)
  have HB0 : BegunHas S0 w0 m a w4.heap.size w2.heap.size k k mode Z (.row p g cap Z :: rs) 0 (w4.alloc (.cells #[.slice none 0 0, .slice (some ⟨w2.heap.size, 0, none⟩) k k] 73)) :=
    ⟨.slice none 0 0, [], rfl, by simp, H5⟩
  clear hown hg hB hz H3 H4 H5 HS2
  refine wp_from (Facts := fun W => BegunHas S0 w0 m a w4.heap.size w2.heap.size k k mode Z (.row p g cap Z :: rs) 0 W) ?_ HB0
  clear HB0
  intro W HW
  generalize w4.heap.size = X at HW ⊢
  generalize w2.heap.size = B at HW ⊢
  have HV := Lib.hid HW
  clear HW
  go_loopw [12] (fun i wr => ∃ j : Nat, j ≤ k ∧ i = .int .i64 j ∧ BegunHas S0 w0 m a X B k k mode Z (.row p g cap Z :: rs) j wr) (fun i _ => k - (intOf i).toNat)
  case atStart => exact ⟨0, Nat.zero_le _, rfl, HV.out⟩
  case round =>
    obtain ⟨j, hj, rfl, hR⟩ := hrel
    clear HV
    by_cases hjk : j < k
    · obtain ⟨lv, ts, hl, hts, hH⟩ := hR
      obtain ⟨x0, x1, x2⟩ := hH.blk1.own
      have HL := Lib.hid hl
      have HTS := Lib.hid hts
      have HR := Lib.hid hH
      have hi1 : (0 : Int) ≤ (j : Int) := Int.natCast_nonneg _
      have hi2 : (j : Int) < (k : Int) := by omega
      clear hl hts hH
      go_wp2_with (at_builtin; refine wpList_from (Facts := fun W => Has S0 w0 W (.blk (wr.heap.size + 1) #[.pointer (some ⟨wr.heap.size, 0, none⟩)] :: .blk wr.heap.size (rcells m ⟨k, mode, j, Fr.zero, Acc.zero, [], Z⟩ (.slice none 0 0)) :: .mem m a Z :: .blk X #[lv, .slice (some ⟨B, 0, none⟩) k k] :: .own 46 1 lv j (ts.map Tk.ptr) :: .blk B (i64s (List.replicate k 0)).toArray :: (tksRes m ts ++ .row p g cap Z :: rs))) ?_ ((HR.out.new rfl _ _).new (by simp) _ _); intro W HW; refine wpList_append_rd (P := Try.prog) _ rfl (.tmp 43) (.tmp 51) _ rfl 0 46 i0 _ 1 8 Try.underlying71 HI.out.1 HI.out.2.1 HI.out.2.2.1 HI.out.2.2.2 rfl (by omega) lv j (ts.map Tk.ptr) rfl (Has.ownAt HW 4 rfl) (some ⟨wr.heap.size + 1, 0, none⟩) 1 1 [.pointer (some ⟨wr.heap.size, 0, none⟩)] rfl (rd_cells (HW.at_ 0 rfl)) (by simp [Value.oneCell']) (by simp only [maxLen]; omega) (by omega) (by omega) ?_; intro v' w' hown hg hat; obtain ⟨p', c', rfl⟩ := owns_slice hown; have HB := begun_more HL.out HTS.out HW hown hg hat; have HG := Has.grown1 4 (by simp) HW rfl hown hg hat; clear x0 x1 x2; obtain ⟨y0, y1, y2⟩ := (HG.at_ 4 rfl).own; clear HG hown hg hat HW)
      go_roundw
      case rel => exact ⟨j + 1, by omega, by go_num, HB⟩
      case measure => simp [intOf]; omega
    · have hjk2 : j = k := by omega
      subst hjk2
      have HR := Lib.hid hR
      clear hR
      have hi2 : (j : Int) ≤ (j : Int) := Int.le_refl _
      go_wp2
      go_ret
      exact ⟨X, m, a, B, p, g, cap, rfl, begun_done h2 HR.out⟩

end Go.Proofs.Ytmbbcgkfankiaaa.Z
