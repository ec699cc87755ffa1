/- Package tf: its lines. Written by gentf2.py. -/
import Derived.Test.YtdffdppkdbbdoaaZTf
import Derived.Deep.RegionHeld3
import Derived.Deep.DrawnRows
set_option linter.unusedVariables false
set_option linter.unusedSimpArgs false
namespace Go.Proofs.Ytdffdppkdbbdoaa.Z
open Go.RowKit

attribute [local go_sem ↓] Go.wp_at_zero Go.wp_at_succ

def tf10 (s : Rn) : Rn :=
  tfTicket s 1

set_option maxHeartbeats 800000 in
theorem tf_10 {S0 : List Nat} {w0 w : World} {m a r : Nat} {rs : List Res} {s : Rn} (H : RunHas S0 w0 m a r rs s w) (hop : s.f.op = 1) (hl : s.f.line = 0) (hn : I64 s.n) (ha : 0 ≤ s.f.a ∧ s.f.a < 4294967296) (hc : s.notes.length ≤ 900) :
    Calls Try.prog 33 #[.pointer (some ⟨r, 0, none⟩)] w fun e w' => e = .returned (.tuple #[]) ∧ RunHas S0 w0 m a r rs (tf10 s) w' := by
  obtain ⟨z0, z2, z4, z5, z6, z7⟩ := H.facts hop hl rfl rfl
  have HC := Lib.hid hc
  have HA := Lib.hid ha
  have HN := Lib.hid hn
  have HH := Lib.hid (H.box rfl #[.int .u32 s.f.a] 22)
  clear hc H hn ha
  unfold tf10
  go_enter Try.func33, Try.ntmps33
  go_wp2_with fail
  go_quiet (fail)
  have HW := HH.out.drewN nq
  clear z0 z2 z4 z5 z6 z7
  generalize w.heap.size = tb at HW ⊢
  generalize (World.drewN _ nq) = W at HW ⊢
  obtain ⟨z0, z2, z4, z5, z6, z7⟩ := HW.facts hop hl rfl rfl
  go_wp2_with fail
  refine (tf_ticket HW hop hl HC.out 1).mono ?_
  rintro e w1 ⟨rfl, H1⟩
  go_wp2_with fail
  go_end0
  exact ⟨rfl, H1.unbox⟩

def tf30 (s : Rn) : Rn :=
  tfTicket s 2

set_option maxHeartbeats 800000 in
theorem tf_30 {S0 : List Nat} {w0 w : World} {m a r : Nat} {rs : List Res} {s : Rn} (H : RunHas S0 w0 m a r rs s w) (hop : s.f.op = 3) (hl : s.f.line = 0) (hn : I64 s.n) (ha : 0 ≤ s.f.a ∧ s.f.a < 4294967296) (hc : s.notes.length ≤ 900) :
    Calls Try.prog 33 #[.pointer (some ⟨r, 0, none⟩)] w fun e w' => e = .returned (.tuple #[]) ∧ RunHas S0 w0 m a r rs (tf30 s) w' := by
  obtain ⟨z0, z2, z4, z5, z6, z7⟩ := H.facts hop hl rfl rfl
  have HC := Lib.hid hc
  have HA := Lib.hid ha
  have HN := Lib.hid hn
  have HH := Lib.hid (H.box rfl #[.int .u32 s.f.a] 22)
  clear hc H hn ha
  unfold tf30
  go_enter Try.func33, Try.ntmps33
  go_wp2_with fail
  go_quiet (fail)
  have HW := HH.out.drewN nq
  clear z0 z2 z4 z5 z6 z7
  generalize w.heap.size = tb at HW ⊢
  generalize (World.drewN _ nq) = W at HW ⊢
  obtain ⟨z0, z2, z4, z5, z6, z7⟩ := HW.facts hop hl rfl rfl
  go_wp2_with fail
  refine (tf_ticket HW hop hl HC.out 2).mono ?_
  rintro e w1 ⟨rfl, H1⟩
  go_wp2_with fail
  go_end0
  exact ⟨rfl, H1.unbox⟩

def tf12 (s : Rn) : Rn :=
  tfEnter s 4

set_option maxHeartbeats 800000 in
theorem tf_12 {S0 : List Nat} {w0 w : World} {m a r : Nat} {rs : List Res} {s : Rn} (H : RunHas S0 w0 m a r rs s w) (hop : s.f.op = 1) (hl : s.f.line = 2) (hn : I64 s.n) (ha : 0 ≤ s.f.a ∧ s.f.a < 4294967296) (hc : s.notes.length ≤ 900) :
    Calls Try.prog 33 #[.pointer (some ⟨r, 0, none⟩)] w fun e w' => e = .returned (.tuple #[]) ∧ RunHas S0 w0 m a r rs (tf12 s) w' := by
  obtain ⟨z0, z2, z4, z5, z6, z7⟩ := H.facts hop hl rfl rfl
  have HC := Lib.hid hc
  have HA := Lib.hid ha
  have HN := Lib.hid hn
  have HH := Lib.hid (H.box rfl #[.int .u32 s.f.a] 22)
  clear hc H hn ha
  unfold tf12
  go_enter Try.func33, Try.ntmps33
  go_wp2_with fail
  go_quiet (fail)
  have HW := HH.out.drewN nq
  clear z0 z2 z4 z5 z6 z7
  generalize w.heap.size = tb at HW ⊢
  generalize (World.drewN _ nq) = W at HW ⊢
  obtain ⟨z0, z2, z4, z5, z6, z7⟩ := HW.facts hop hl rfl rfl
  go_wp2_with fail
  refine (tf_enter HW hop hl HC.out 4).mono ?_
  rintro e w1 ⟨rfl, H1⟩
  go_wp2_with fail
  go_end0
  exact ⟨rfl, H1.unbox⟩

def tf53 (s : Rn) : Rn :=
  tfEnter s 4

set_option maxHeartbeats 800000 in
theorem tf_53 {S0 : List Nat} {w0 w : World} {m a r : Nat} {rs : List Res} {s : Rn} (H : RunHas S0 w0 m a r rs s w) (hop : s.f.op = 5) (hl : s.f.line = 3) (hn : I64 s.n) (ha : 0 ≤ s.f.a ∧ s.f.a < 4294967296) (hc : s.notes.length ≤ 900) :
    Calls Try.prog 33 #[.pointer (some ⟨r, 0, none⟩)] w fun e w' => e = .returned (.tuple #[]) ∧ RunHas S0 w0 m a r rs (tf53 s) w' := by
  obtain ⟨z0, z2, z4, z5, z6, z7⟩ := H.facts hop hl rfl rfl
  have HC := Lib.hid hc
  have HA := Lib.hid ha
  have HN := Lib.hid hn
  have HH := Lib.hid (H.box rfl #[.int .u32 s.f.a] 22)
  clear hc H hn ha
  unfold tf53
  go_enter Try.func33, Try.ntmps33
  go_wp2_with fail
  go_quiet (fail)
  have HW := HH.out.drewN nq
  clear z0 z2 z4 z5 z6 z7
  generalize w.heap.size = tb at HW ⊢
  generalize (World.drewN _ nq) = W at HW ⊢
  obtain ⟨z0, z2, z4, z5, z6, z7⟩ := HW.facts hop hl rfl rfl
  go_wp2_with fail
  refine (tf_enter HW hop hl HC.out 4).mono ?_
  rintro e w1 ⟨rfl, H1⟩
  go_wp2_with fail
  go_end0
  exact ⟨rfl, H1.unbox⟩

def tf80 (s : Rn) : Rn :=
  tfEnter s 10

set_option maxHeartbeats 800000 in
theorem tf_80 {S0 : List Nat} {w0 w : World} {m a r : Nat} {rs : List Res} {s : Rn} (H : RunHas S0 w0 m a r rs s w) (hop : s.f.op = 8) (hl : s.f.line = 0) (hn : I64 s.n) (ha : 0 ≤ s.f.a ∧ s.f.a < 4294967296) (hc : s.notes.length ≤ 900) :
    Calls Try.prog 33 #[.pointer (some ⟨r, 0, none⟩)] w fun e w' => e = .returned (.tuple #[]) ∧ RunHas S0 w0 m a r rs (tf80 s) w' := by
  obtain ⟨z0, z2, z4, z5, z6, z7⟩ := H.facts hop hl rfl rfl
  have HC := Lib.hid hc
  have HA := Lib.hid ha
  have HN := Lib.hid hn
  have HH := Lib.hid (H.box rfl #[.int .u32 s.f.a] 22)
  clear hc H hn ha
  unfold tf80
  go_enter Try.func33, Try.ntmps33
  go_wp2_with fail
  go_quiet (fail)
  have HW := HH.out.drewN nq
  clear z0 z2 z4 z5 z6 z7
  generalize w.heap.size = tb at HW ⊢
  generalize (World.drewN _ nq) = W at HW ⊢
  obtain ⟨z0, z2, z4, z5, z6, z7⟩ := HW.facts hop hl rfl rfl
  go_wp2_with fail
  refine (tf_enter HW hop hl HC.out 10).mono ?_
  rintro e w1 ⟨rfl, H1⟩
  go_wp2_with fail
  go_end0
  exact ⟨rfl, H1.unbox⟩

def tf20 (s : Rn) : Rn :=
  (((s.did (doA s.L ⟨3, 2, 1, 0, 0⟩)).note 6 0).wake 2).fin true

set_option maxHeartbeats 800000 in
theorem tf_20 {S0 : List Nat} {w0 w : World} {m a r : Nat} {rs : List Res} {s : Rn} (H : RunHas S0 w0 m a r rs s w) (hop : s.f.op = 2) (hl : s.f.line = 0) (hn : I64 s.n) (ha : 0 ≤ s.f.a ∧ s.f.a < 4294967296) (hc : s.notes.length ≤ 900) :
    Calls Try.prog 33 #[.pointer (some ⟨r, 0, none⟩)] w fun e w' => e = .returned (.tuple #[]) ∧ RunHas S0 w0 m a r rs (tf20 s) w' := by
  obtain ⟨z0, z2, z4, z5, z6, z7⟩ := H.facts hop hl rfl rfl
  have HC := Lib.hid hc
  have HA := Lib.hid ha
  have HN := Lib.hid hn
  have HH := Lib.hid (H.box rfl #[.int .u32 s.f.a] 22)
  clear hc H hn ha
  unfold tf20
  go_enter Try.func33, Try.ntmps33
  go_wp2_with fail
  go_quiet (fail)
  have HW := HH.out.drewN nq
  clear z0 z2 z4 z5 z6 z7
  generalize w.heap.size = tb at HW ⊢
  generalize (World.drewN _ nq) = W at HW ⊢
  obtain ⟨z0, z2, z4, z5, z6, z7⟩ := HW.facts hop hl rfl rfl
  go_wp2_with fail
  refine (rn_add HW 2 1 (by decide)).mono ?_
  rintro e w1 ⟨rfl, H1⟩
  go_wp2_with fail
  refine (run_note H1 (by have := HC.out; first | exact Nat.le_trans this (by decide) | (simp [Rn.note, Rn.did, Rn.setA, Rn.setB, Rn.waited, Rn.goto, Rn.noted]; omega)) 6 0).mono ?_
  rintro e w2 ⟨rfl, H2⟩
  go_wp2_with fail
  refine (rn_wake H2 2).mono ?_
  rintro e w3 ⟨rfl, H3⟩
  go_wp2_with fail
  refine (rn_end H3 true).mono ?_
  rintro e w4 ⟨rfl, H4⟩
  go_wp2_with fail
  go_end0
  exact ⟨rfl, H4.unbox⟩

def tf40 (s : Rn) : Rn :=
  (((s.did (doA s.L ⟨3, 1, 1, 0, 0⟩)).note 7 0).wake 1).goto 1

set_option maxHeartbeats 800000 in
theorem tf_40 {S0 : List Nat} {w0 w : World} {m a r : Nat} {rs : List Res} {s : Rn} (H : RunHas S0 w0 m a r rs s w) (hop : s.f.op = 4) (hl : s.f.line = 0) (hn : I64 s.n) (ha : 0 ≤ s.f.a ∧ s.f.a < 4294967296) (hc : s.notes.length ≤ 900) :
    Calls Try.prog 33 #[.pointer (some ⟨r, 0, none⟩)] w fun e w' => e = .returned (.tuple #[]) ∧ RunHas S0 w0 m a r rs (tf40 s) w' := by
  obtain ⟨z0, z2, z4, z5, z6, z7⟩ := H.facts hop hl rfl rfl
  have HC := Lib.hid hc
  have HA := Lib.hid ha
  have HN := Lib.hid hn
  have HH := Lib.hid (H.box rfl #[.int .u32 s.f.a] 22)
  clear hc H hn ha
  unfold tf40
  go_enter Try.func33, Try.ntmps33
  go_wp2_with fail
  go_quiet (fail)
  have HW := HH.out.drewN nq
  clear z0 z2 z4 z5 z6 z7
  generalize w.heap.size = tb at HW ⊢
  generalize (World.drewN _ nq) = W at HW ⊢
  obtain ⟨z0, z2, z4, z5, z6, z7⟩ := HW.facts hop hl rfl rfl
  go_wp2_with fail
  refine (rn_add HW 1 1 (by decide)).mono ?_
  rintro e w1 ⟨rfl, H1⟩
  go_wp2_with fail
  refine (run_note H1 (by have := HC.out; first | exact Nat.le_trans this (by decide) | (simp [Rn.note, Rn.did, Rn.setA, Rn.setB, Rn.waited, Rn.goto, Rn.noted]; omega)) 7 0).mono ?_
  rintro e w2 ⟨rfl, H2⟩
  go_wp2_with fail
  refine (rn_wake H2 1).mono ?_
  rintro e w3 ⟨rfl, H3⟩
  go_wp2_with fail
  refine (rn_go H3 1).mono ?_
  rintro e w4 ⟨rfl, H4⟩
  go_wp2_with fail
  go_end0
  exact ⟨rfl, H4.unbox⟩

def tf41 (s : Rn) : Rn :=
  (((s.did (doA s.L ⟨3, 2, 1, 0, 0⟩)).note 8 0).wake 2).fin true

set_option maxHeartbeats 800000 in
theorem tf_41 {S0 : List Nat} {w0 w : World} {m a r : Nat} {rs : List Res} {s : Rn} (H : RunHas S0 w0 m a r rs s w) (hop : s.f.op = 4) (hl : s.f.line = 1) (hn : I64 s.n) (ha : 0 ≤ s.f.a ∧ s.f.a < 4294967296) (hc : s.notes.length ≤ 900) :
    Calls Try.prog 33 #[.pointer (some ⟨r, 0, none⟩)] w fun e w' => e = .returned (.tuple #[]) ∧ RunHas S0 w0 m a r rs (tf41 s) w' := by
  obtain ⟨z0, z2, z4, z5, z6, z7⟩ := H.facts hop hl rfl rfl
  have HC := Lib.hid hc
  have HA := Lib.hid ha
  have HN := Lib.hid hn
  have HH := Lib.hid (H.box rfl #[.int .u32 s.f.a] 22)
  clear hc H hn ha
  unfold tf41
  go_enter Try.func33, Try.ntmps33
  go_wp2_with fail
  go_quiet (fail)
  have HW := HH.out.drewN nq
  clear z0 z2 z4 z5 z6 z7
  generalize w.heap.size = tb at HW ⊢
  generalize (World.drewN _ nq) = W at HW ⊢
  obtain ⟨z0, z2, z4, z5, z6, z7⟩ := HW.facts hop hl rfl rfl
  go_wp2_with fail
  refine (rn_add HW 2 1 (by decide)).mono ?_
  rintro e w1 ⟨rfl, H1⟩
  go_wp2_with fail
  refine (run_note H1 (by have := HC.out; first | exact Nat.le_trans this (by decide) | (simp [Rn.note, Rn.did, Rn.setA, Rn.setB, Rn.waited, Rn.goto, Rn.noted]; omega)) 8 0).mono ?_
  rintro e w2 ⟨rfl, H2⟩
  go_wp2_with fail
  refine (rn_wake H2 2).mono ?_
  rintro e w3 ⟨rfl, H3⟩
  go_wp2_with fail
  refine (rn_end H3 true).mono ?_
  rintro e w4 ⟨rfl, H4⟩
  go_wp2_with fail
  go_end0
  exact ⟨rfl, H4.unbox⟩

def tf11 (s : Rn) : Rn :=
  let s1 := s.waited (waitA s.L s.n s.mode s.task s.f.st 1 (fun v => v == s.f.a))
  if (waitA s.L s.n s.mode s.task s.f.st 1 (fun v => v == s.f.a)).done then s1.goto 2 else s1

set_option maxHeartbeats 800000 in
theorem tf_11 {S0 : List Nat} {w0 w : World} {m a r : Nat} {rs : List Res} {s : Rn} (H : RunHas S0 w0 m a r rs s w) (hop : s.f.op = 1) (hl : s.f.line = 1) (hn : I64 s.n) (ha : 0 ≤ s.f.a ∧ s.f.a < 4294967296) (hc : s.notes.length ≤ 900) :
    Calls Try.prog 33 #[.pointer (some ⟨r, 0, none⟩)] w fun e w' => e = .returned (.tuple #[]) ∧ RunHas S0 w0 m a r rs (tf11 s) w' := by
  obtain ⟨z0, z2, z4, z5, z6, z7⟩ := H.facts hop hl rfl rfl
  have HC := Lib.hid hc
  have HA := Lib.hid ha
  have HN := Lib.hid hn
  have HH := Lib.hid (H.box rfl #[.int .u32 s.f.a] 22)
  clear hc H hn ha
  unfold tf11
  have hwt := fun (tb : Nat) W (H : RunHas S0 w0 m a r (.blk tb #[.int .u32 s.f.a] :: rs) s W) => rn_wait H HN.out 1 70 #[] #[.pointer (some ⟨tb, 0, none⟩)] (fun v => v == s.f.a) (enters_of Try.func70 (by kernel_rfl) rfl) (fun W v _ _ H => tf_mine s.f.a v W H.first)
  cases hs : (waitA s.L s.n s.mode s.task s.f.st 1 (fun v => v == s.f.a)).seen <;> cases hd : (waitA s.L s.n s.mode s.task s.f.st 1 (fun v => v == s.f.a)).done <;> rw [hs, hd] at hwt <;> simp only [if_true, Bool.false_eq_true, if_false] <;> (have HWT := Lib.hid hwt) <;> clear hwt hs hd
  · go_enter Try.func33, Try.ntmps33
    go_wp2_with fail
    go_quiet (fail)
    have HW := HH.out.drewN nq
    clear z0 z2 z4 z5 z6 z7
    generalize w.heap.size = tb at HW ⊢
    generalize (World.drewN _ nq) = W at HW ⊢
    obtain ⟨z0, z2, z4, z5, z6, z7⟩ := HW.facts hop hl rfl rfl
    go_wp2_with fail
    refine (HWT.out _ _ HW).mono ?_
    rintro e w1 ⟨rfl, H1⟩
    go_wp2_with fail
    go_end0
    exact ⟨rfl, H1.unbox⟩
  · go_enter Try.func33, Try.ntmps33
    go_wp2_with fail
    go_quiet (fail)
    have HW := HH.out.drewN nq
    clear z0 z2 z4 z5 z6 z7
    generalize w.heap.size = tb at HW ⊢
    generalize (World.drewN _ nq) = W at HW ⊢
    obtain ⟨z0, z2, z4, z5, z6, z7⟩ := HW.facts hop hl rfl rfl
    go_wp2_with fail
    refine (HWT.out _ _ HW).mono ?_
    rintro e w1 ⟨rfl, H1⟩
    go_wp2_with fail
    refine (rn_go H1 2).mono ?_
    rintro e w2 ⟨rfl, H2⟩
    go_wp2_with fail
    go_end0
    exact ⟨rfl, H2.unbox⟩
  · go_enter Try.func33, Try.ntmps33
    go_wp2_with fail
    go_quiet (fail)
    have HW := HH.out.drewN nq
    clear z0 z2 z4 z5 z6 z7
    generalize w.heap.size = tb at HW ⊢
    generalize (World.drewN _ nq) = W at HW ⊢
    obtain ⟨z0, z2, z4, z5, z6, z7⟩ := HW.facts hop hl rfl rfl
    go_wp2_with fail
    refine (HWT.out _ _ HW).mono ?_
    rintro e w1 ⟨rfl, H1⟩
    go_wp2_with fail
    go_end0
    exact ⟨rfl, H1.unbox⟩
  · go_enter Try.func33, Try.ntmps33
    go_wp2_with fail
    go_quiet (fail)
    have HW := HH.out.drewN nq
    clear z0 z2 z4 z5 z6 z7
    generalize w.heap.size = tb at HW ⊢
    generalize (World.drewN _ nq) = W at HW ⊢
    obtain ⟨z0, z2, z4, z5, z6, z7⟩ := HW.facts hop hl rfl rfl
    go_wp2_with fail
    refine (HWT.out _ _ HW).mono ?_
    rintro e w1 ⟨rfl, H1⟩
    go_wp2_with fail
    refine (rn_go H1 2).mono ?_
    rintro e w2 ⟨rfl, H2⟩
    go_wp2_with fail
    go_end0
    exact ⟨rfl, H2.unbox⟩

def tf31 (s : Rn) : Rn :=
  let s1 := s.waited (waitA s.L s.n s.mode s.task s.f.st 2 (fun v => v == s.f.a))
  let s2 := if (waitA s.L s.n s.mode s.task s.f.st 2 (fun v => v == s.f.a)).seen then s1.note 4 0 else s1
  if (waitA s.L s.n s.mode s.task s.f.st 2 (fun v => v == s.f.a)).done then s2.fin true else s2

set_option maxHeartbeats 800000 in
theorem tf_31 {S0 : List Nat} {w0 w : World} {m a r : Nat} {rs : List Res} {s : Rn} (H : RunHas S0 w0 m a r rs s w) (hop : s.f.op = 3) (hl : s.f.line = 1) (hn : I64 s.n) (ha : 0 ≤ s.f.a ∧ s.f.a < 4294967296) (hc : s.notes.length ≤ 900) :
    Calls Try.prog 33 #[.pointer (some ⟨r, 0, none⟩)] w fun e w' => e = .returned (.tuple #[]) ∧ RunHas S0 w0 m a r rs (tf31 s) w' := by
  obtain ⟨z0, z2, z4, z5, z6, z7⟩ := H.facts hop hl rfl rfl
  have HC := Lib.hid hc
  have HA := Lib.hid ha
  have HN := Lib.hid hn
  have HH := Lib.hid (H.box rfl #[.int .u32 s.f.a] 22)
  clear hc H hn ha
  unfold tf31
  have hwt := fun (tb : Nat) W (H : RunHas S0 w0 m a r (.blk tb #[.int .u32 s.f.a] :: rs) s W) => rn_wait H HN.out 2 70 #[] #[.pointer (some ⟨tb, 0, none⟩)] (fun v => v == s.f.a) (enters_of Try.func70 (by kernel_rfl) rfl) (fun W v _ _ H => tf_mine s.f.a v W H.first)
  cases hs : (waitA s.L s.n s.mode s.task s.f.st 2 (fun v => v == s.f.a)).seen <;> cases hd : (waitA s.L s.n s.mode s.task s.f.st 2 (fun v => v == s.f.a)).done <;> rw [hs, hd] at hwt <;> simp only [if_true, Bool.false_eq_true, if_false] <;> (have HWT := Lib.hid hwt) <;> clear hwt hs hd
  · go_enter Try.func33, Try.ntmps33
    go_wp2_with fail
    go_quiet (fail)
    have HW := HH.out.drewN nq
    clear z0 z2 z4 z5 z6 z7
    generalize w.heap.size = tb at HW ⊢
    generalize (World.drewN _ nq) = W at HW ⊢
    obtain ⟨z0, z2, z4, z5, z6, z7⟩ := HW.facts hop hl rfl rfl
    go_wp2_with fail
    refine (HWT.out _ _ HW).mono ?_
    rintro e w1 ⟨rfl, H1⟩
    go_wp2_with fail
    go_end0
    exact ⟨rfl, H1.unbox⟩
  · go_enter Try.func33, Try.ntmps33
    go_wp2_with fail
    go_quiet (fail)
    have HW := HH.out.drewN nq
    clear z0 z2 z4 z5 z6 z7
    generalize w.heap.size = tb at HW ⊢
    generalize (World.drewN _ nq) = W at HW ⊢
    obtain ⟨z0, z2, z4, z5, z6, z7⟩ := HW.facts hop hl rfl rfl
    go_wp2_with fail
    refine (HWT.out _ _ HW).mono ?_
    rintro e w1 ⟨rfl, H1⟩
    go_wp2_with fail
    refine (rn_end H1 true).mono ?_
    rintro e w2 ⟨rfl, H2⟩
    go_wp2_with fail
    go_end0
    exact ⟨rfl, H2.unbox⟩
  · go_enter Try.func33, Try.ntmps33
    go_wp2_with fail
    go_quiet (fail)
    have HW := HH.out.drewN nq
    clear z0 z2 z4 z5 z6 z7
    generalize w.heap.size = tb at HW ⊢
    generalize (World.drewN _ nq) = W at HW ⊢
    obtain ⟨z0, z2, z4, z5, z6, z7⟩ := HW.facts hop hl rfl rfl
    go_wp2_with fail
    refine (HWT.out _ _ HW).mono ?_
    rintro e w1 ⟨rfl, H1⟩
    go_wp2_with fail
    refine (run_note H1 (by have := HC.out; first | exact Nat.le_trans this (by decide) | (simp [Rn.note, Rn.did, Rn.setA, Rn.setB, Rn.waited, Rn.goto, Rn.noted]; omega)) 4 0).mono ?_
    rintro e w2 ⟨rfl, H2⟩
    go_wp2_with fail
    go_end0
    exact ⟨rfl, H2.unbox⟩
  · go_enter Try.func33, Try.ntmps33
    go_wp2_with fail
    go_quiet (fail)
    have HW := HH.out.drewN nq
    clear z0 z2 z4 z5 z6 z7
    generalize w.heap.size = tb at HW ⊢
    generalize (World.drewN _ nq) = W at HW ⊢
    obtain ⟨z0, z2, z4, z5, z6, z7⟩ := HW.facts hop hl rfl rfl
    go_wp2_with fail
    refine (HWT.out _ _ HW).mono ?_
    rintro e w1 ⟨rfl, H1⟩
    go_wp2_with fail
    refine (run_note H1 (by have := HC.out; first | exact Nat.le_trans this (by decide) | (simp [Rn.note, Rn.did, Rn.setA, Rn.setB, Rn.waited, Rn.goto, Rn.noted]; omega)) 4 0).mono ?_
    rintro e w2 ⟨rfl, H2⟩
    go_wp2_with fail
    refine (rn_end H2 true).mono ?_
    rintro e w3 ⟨rfl, H3⟩
    go_wp2_with fail
    go_end0
    exact ⟨rfl, H3.unbox⟩

end Go.Proofs.Ytdffdppkdbbdoaa.Z
