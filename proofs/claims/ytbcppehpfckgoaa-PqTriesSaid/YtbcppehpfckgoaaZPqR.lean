/- Package pq: its small functions; the readers of pf. Written by genpq.py. -/
import Derived.Test.YtbcppehpfckgoaaZRun7t
import Derived.Test.YtbcppehpfckgoaaZFlat5
import Derived.Test.YtbcppehpfckgoaaZBits
import Derived.Test.YtbcppehpfckgoaaZAhead
import Derived.Deep.RegionHeld3
import Derived.Deep.DrawnRows
set_option linter.unusedVariables false
set_option linter.unusedSimpArgs false
namespace Go.Proofs.Ytbcppehpfckgoaa.Z
open Go.RowKit

attribute [local go_sem ↓] Go.wp_at_zero Go.wp_at_succ

/-- The bits of a writer that is present. -/
def pfP (b : Int) : Int := 2 + b % 2
theorem and_1 (v : Int) (hv : 0 ≤ v ∧ v < 4294967296) : Go.bits .and .u32 v 1 = v % 2 := by
  obtain ⟨n, rfl⟩ : ∃ n : Nat, v = n := ⟨v.toNat, by omega⟩
  have h := ZB.bits_and n 1 (by omega) (by decide)
  have h2 : n &&& 1 = n / 1 % 2 * 1 := ZB.and_mask n 0 1
  rw [h2] at h
  refine Eq.trans h ?_
  omega
theorem and_3 (v : Int) (hv : 0 ≤ v ∧ v < 4294967296) : Go.bits .and .u32 v 3 = v % 4 := by
  obtain ⟨n, rfl⟩ : ∃ n : Nat, v = n := ⟨v.toNat, by omega⟩
  have h := ZB.bits_and n 3 (by omega) (by decide)
  have h2 : n &&& 3 = n / 1 % 4 * 1 := ZB.and_mask n 0 2
  rw [h2] at h
  refine Eq.trans h ?_
  omega
theorem or_2 (x : Int) (hx : x = 0 ∨ x = 1) : Go.bits .or .u32 2 x = 2 + x := by
  rcases hx with rfl | rfl <;> decide +kernel
theorem pf_presence (b : Int) (w : World) (hb : 0 ≤ b ∧ b < 4294967296) : Calls Try.prog 127 #[.int .u32 b] w fun e w' => e = .returned (.int .u32 (pfP b)) ∧ w = w' := by
  have h1 := and_1 b hb
  have h2 := or_2 (b % 2) (by omega)
  have H1 := Lib.hid h1
  have H2 := Lib.hid h2
  clear h1 h2
  go_enter Try.func127, Try.ntmps127
  go_wp2
  go_ret
  refine ⟨?_, rfl⟩
  show Ending.returned (Value.int .u32 _) = Ending.returned (Value.int .u32 _)
  unfold pfP
  rw [H1.out, H2.out]
theorem pf_mine (x v : Int) {b : Nat} (w : World) (hb : Blk w b #[.int .u32 x]) :
    Calls Try.prog 128 #[.int .u32 v, .pointer (some ⟨b, 0, none⟩)] w fun e w' => e = .returned (.bool (v == x)) ∧ Touch [] w w' := by
  obtain ⟨x0, x1, x2⟩ := hb.own
  go_enter Try.func128, Try.ntmps128
  go_wp2
  go_ret
  exact ⟨rfl, Touch.refl _ _⟩
theorem pf_mine2 (x v : Int) {b : Nat} (w : World) (hb : Blk w b #[.int .u32 x]) :
    Calls Try.prog 136 #[.int .u32 v, .pointer (some ⟨b, 0, none⟩)] w fun e w' => e = .returned (.bool (v == x)) ∧ Touch [] w w' := by
  obtain ⟨x0, x1, x2⟩ := hb.own
  go_enter Try.func136, Try.ntmps136
  go_wp2
  go_ret
  exact ⟨rfl, Touch.refl _ _⟩
theorem pf_other (x v : Int) {b : Nat} (w : World) (hv : 0 ≤ v ∧ v < 4294967296) (hb : Blk w b #[.int .u32 x]) :
    Calls Try.prog 126 #[.int .u32 v, .pointer (some ⟨b, 0, none⟩)] w fun e w' => e = .returned (.bool (v % 4 != x)) ∧ Touch [] w w' := by
  obtain ⟨x0, x1, x2⟩ := hb.own
  have h3 := and_3 v hv
  have H3 := Lib.hid h3
  clear h3
  go_enter Try.func126, Try.ntmps126
  go_wp2
  go_ret
  refine ⟨?_, Touch.refl _ _⟩
  show Ending.returned (Value.bool _) = Ending.returned (Value.bool _)
  rw [H3.out]

theorem pf_own_up {S0 : List Nat} {w0 w : World} {m a r : Nat} {rs : List Res} {s : Rn} (H : RunHas S0 w0 m a r rs s w) {l : Int} (hop : s.f.op = 7) (hl : s.f.line = l) : Calls Try.prog 135 #[.pointer (some ⟨r, 0, none⟩)] w fun e w' => e = .returned (.int .u32 256) ∧ w = w' := by
  obtain ⟨x0, x2, x4, x5, x6, x7⟩ := H.facts hop hl rfl rfl
  go_enter Try.func135, Try.ntmps135
  go_wp2
  go_ret
  exact ⟨rfl, rfl⟩
theorem pf_own_no {S0 : List Nat} {w0 w : World} {m a r : Nat} {rs : List Res} {s : Rn} (H : RunHas S0 w0 m a r rs s w) {l : Int} (hop : s.f.op = 6) (hl : s.f.line = l) : Calls Try.prog 135 #[.pointer (some ⟨r, 0, none⟩)] w fun e w' => e = .returned (.int .u32 0) ∧ w = w' := by
  obtain ⟨x0, x2, x4, x5, x6, x7⟩ := H.facts hop hl rfl rfl
  go_enter Try.func135, Try.ntmps135
  go_wp2
  go_ret
  exact ⟨rfl, rfl⟩

def pfR10 (s : Rn) : Rn :=
  let s1 := ((s.did (doA s.L ⟨3, 0, 256, 0, 0⟩)).setA (doA s.L ⟨3, 0, 256, 0, 0⟩).1.old).note 2 1
  if (doA s.L ⟨3, 0, 256, 0, 0⟩).1.old % 4 = 0 then (s1.note 4 0).fin true else s1.goto 1

set_option maxHeartbeats 800000 in
theorem pf_r10 {S0 : List Nat} {w0 w : World} {m a r : Nat} {rs : List Res} {s : Rn} (H : RunHas S0 w0 m a r rs s w) (hop : s.f.op = 1) (hl : s.f.line = 0) (hn : I64 s.n) (ha : 0 ≤ s.f.a ∧ s.f.a < 4294967296) (hc : s.notes.length ≤ 900) :
    Calls Try.prog 98 #[.pointer (some ⟨r, 0, none⟩), .int .i64 0, .int .i64 1] w fun e w' => e = .returned (.bool true) ∧ RunHas S0 w0 m a r rs (pfR10 s) w' := by
  obtain ⟨z0, z2, z4, z5, z6, z7⟩ := H.facts hop hl rfl rfl
  have HC := Lib.hid hc
  have HA := Lib.hid ha
  have HN := Lib.hid hn
  have HV := Lib.hid (H.old ⟨3, 0, 256, 0, 0⟩)
  have HH := Lib.hid H
  clear hc H hn ha
  unfold pfR10
  (try dsimp only)
  by_cases hq : (doA s.L ⟨3, 0, 256, 0, 0⟩).1.old % 4 = 0
  · simp only [if_pos hq]
    have HQ := Lib.hid hq
    clear hq
    go_enter Try.func98, Try.ntmps98
    go_wp2_with fail
    go_quiet (fail)
    have HW := HH.out.drewN nq
    clear z0 z2 z4 z5 z6 z7
    generalize w.drewN nq = W at HW ⊢
    obtain ⟨z0, z2, z4, z5, z6, z7⟩ := HW.facts hop hl rfl rfl
    go_wp2_with fail
    refine (rn_add HW 0 256 (by decide)).mono ?_
    rintro e w1 ⟨rfl, H1⟩
    obtain ⟨x0, x2, x4, x5, x6, x7⟩ := H1.facts hop hl rfl rfl
    go_wp2_with fail
    refine (run_note (H1.setA (doA s.L ⟨3, 0, 256, 0, 0⟩).1.old) (by have := HC.out; first | exact Nat.le_trans this (by decide) | (simp [Rn.note, Rn.did, Rn.setA, Rn.setB, Rn.waited, Rn.goto, Rn.noted]; omega)) 2 1).mono ?_
    rintro e w2 ⟨rfl, H2⟩
    obtain ⟨x0, x2, x4, x5, x6, x7⟩ := H2.facts hop hl (x := (doA s.L ⟨3, 0, 256, 0, 0⟩).1.old) rfl rfl
    have hv := HV.out
    have hbit := and_3 (doA s.L ⟨3, 0, 256, 0, 0⟩).1.old hv
    have hz : (Go.bits .and .u32 (doA s.L ⟨3, 0, 256, 0, 0⟩).1.old 3 == 0) = true := by rw [hbit]; simpa using HQ.out
    clear hv hbit
    go_wp2_with fail
    refine (run_note H2 (by have := HC.out; first | exact Nat.le_trans this (by decide) | (simp [Rn.note, Rn.did, Rn.setA, Rn.setB, Rn.waited, Rn.goto, Rn.noted]; omega)) 4 0).mono ?_
    rintro e w3 ⟨rfl, H3⟩
    go_wp2_with fail
    refine (rn_end H3 true).mono ?_
    rintro e w4 ⟨rfl, H4⟩
    go_wp2_with fail
    go_ret
    exact ⟨rfl, H4⟩
  · simp only [if_neg hq]
    have HQ := Lib.hid hq
    clear hq
    go_enter Try.func98, Try.ntmps98
    go_wp2_with fail
    go_quiet (fail)
    have HW := HH.out.drewN nq
    clear z0 z2 z4 z5 z6 z7
    generalize w.drewN nq = W at HW ⊢
    obtain ⟨z0, z2, z4, z5, z6, z7⟩ := HW.facts hop hl rfl rfl
    go_wp2_with fail
    refine (rn_add HW 0 256 (by decide)).mono ?_
    rintro e w1 ⟨rfl, H1⟩
    obtain ⟨x0, x2, x4, x5, x6, x7⟩ := H1.facts hop hl rfl rfl
    go_wp2_with fail
    refine (run_note (H1.setA (doA s.L ⟨3, 0, 256, 0, 0⟩).1.old) (by have := HC.out; first | exact Nat.le_trans this (by decide) | (simp [Rn.note, Rn.did, Rn.setA, Rn.setB, Rn.waited, Rn.goto, Rn.noted]; omega)) 2 1).mono ?_
    rintro e w2 ⟨rfl, H2⟩
    obtain ⟨x0, x2, x4, x5, x6, x7⟩ := H2.facts hop hl (x := (doA s.L ⟨3, 0, 256, 0, 0⟩).1.old) rfl rfl
    have hv := HV.out
    have hbit := and_3 (doA s.L ⟨3, 0, 256, 0, 0⟩).1.old hv
    have hz : (Go.bits .and .u32 (doA s.L ⟨3, 0, 256, 0, 0⟩).1.old 3 == 0) = false := by rw [hbit]; simpa using HQ.out
    clear hv hbit
    go_wp2_with fail
    refine (rn_go H2 1).mono ?_
    rintro e w3 ⟨rfl, H3⟩
    go_wp2_with fail
    go_ret
    exact ⟨rfl, H3⟩

def pfR11 (s : Rn) : Rn :=
  let s1 := s.waited (waitA s.L s.n s.mode s.task s.f.st 0 (fun v => v % 4 != s.f.a % 4))
  let s2 := if (waitA s.L s.n s.mode s.task s.f.st 0 (fun v => v % 4 != s.f.a % 4)).seen then s1.note 4 0 else s1
  if (waitA s.L s.n s.mode s.task s.f.st 0 (fun v => v % 4 != s.f.a % 4)).done then s2.fin true else s2

set_option maxHeartbeats 800000 in
theorem pf_r11 {S0 : List Nat} {w0 w : World} {m a r : Nat} {rs : List Res} {s : Rn} (H : RunHas S0 w0 m a r rs s w) (hop : s.f.op = 1) (hl : s.f.line = 1) (hn : I64 s.n) (ha : 0 ≤ s.f.a ∧ s.f.a < 4294967296) (hc : s.notes.length ≤ 900) :
    Calls Try.prog 98 #[.pointer (some ⟨r, 0, none⟩), .int .i64 0, .int .i64 1] w fun e w' => e = .returned (.bool true) ∧ RunHas S0 w0 m a r rs (pfR11 s) w' := by
  obtain ⟨z0, z2, z4, z5, z6, z7⟩ := H.facts hop hl rfl rfl
  have HC := Lib.hid hc
  have HA := Lib.hid ha
  have HN := Lib.hid hn
  have HH := Lib.hid H
  clear hc H hn ha
  unfold pfR11
  (try dsimp only)
  have hbit := and_3 s.f.a HA.out
  have HBIT := Lib.hid hbit
  clear hbit
  have hwt := fun (t2 : Nat) W (H : RunHas S0 w0 m a r (.blk t2 #[.int .u32 (s.f.a % 4)] :: rs) s W) => rn_wait H HN.out 0 126 #[] #[.pointer (some ⟨t2, 0, none⟩)] (fun v => v % 4 != s.f.a % 4) (enters_of Try.func126 (by kernel_rfl) rfl) (fun W v h0 h1 H => pf_other (s.f.a % 4) v W ⟨h0, h1⟩ H.first)
  cases hs : (waitA s.L s.n s.mode s.task s.f.st 0 (fun v => v % 4 != s.f.a % 4)).seen <;> cases hd : (waitA s.L s.n s.mode s.task s.f.st 0 (fun v => v % 4 != s.f.a % 4)).done <;> rw [hs, hd] at hwt <;> simp only [if_true, Bool.false_eq_true, if_false] <;> (have HWT := Lib.hid hwt) <;> clear hwt hs hd
  · go_enter Try.func98, Try.ntmps98
    go_wp2_with fail
    go_quiet (fail)
    have HW := HH.out.drewN nq
    clear z0 z2 z4 z5 z6 z7
    generalize w.drewN nq = W at HW ⊢
    obtain ⟨z0, z2, z4, z5, z6, z7⟩ := HW.facts hop hl rfl rfl
    have HW0 := Lib.hid HW
    skip
    go_wp2_with fail
    refine calls_from (Facts := fun V => RunHas S0 w0 m a r (.blk W.heap.size #[.int .u32 (s.f.a % 4)] :: rs) s V) ?_ (by rw [← HBIT.out]; exact HW0.out.box rfl _ _)
    intro W1 HW1
    refine (HWT.out _ _ HW1).mono ?_
    rintro e w1 ⟨rfl, H1⟩
    go_wp2_with fail
    go_ret
    exact ⟨rfl, H1.unbox⟩
  · go_enter Try.func98, Try.ntmps98
    go_wp2_with fail
    go_quiet (fail)
    have HW := HH.out.drewN nq
    clear z0 z2 z4 z5 z6 z7
    generalize w.drewN nq = W at HW ⊢
    obtain ⟨z0, z2, z4, z5, z6, z7⟩ := HW.facts hop hl rfl rfl
    have HW0 := Lib.hid HW
    skip
    go_wp2_with fail
    refine calls_from (Facts := fun V => RunHas S0 w0 m a r (.blk W.heap.size #[.int .u32 (s.f.a % 4)] :: rs) s V) ?_ (by rw [← HBIT.out]; exact HW0.out.box rfl _ _)
    intro W1 HW1
    refine (HWT.out _ _ HW1).mono ?_
    rintro e w1 ⟨rfl, H1⟩
    go_wp2_with fail
    refine (rn_end H1 true).mono ?_
    rintro e w2 ⟨rfl, H2⟩
    go_wp2_with fail
    go_ret
    exact ⟨rfl, H2.unbox⟩
  · go_enter Try.func98, Try.ntmps98
    go_wp2_with fail
    go_quiet (fail)
    have HW := HH.out.drewN nq
    clear z0 z2 z4 z5 z6 z7
    generalize w.drewN nq = W at HW ⊢
    obtain ⟨z0, z2, z4, z5, z6, z7⟩ := HW.facts hop hl rfl rfl
    have HW0 := Lib.hid HW
    skip
    go_wp2_with fail
    refine calls_from (Facts := fun V => RunHas S0 w0 m a r (.blk W.heap.size #[.int .u32 (s.f.a % 4)] :: rs) s V) ?_ (by rw [← HBIT.out]; exact HW0.out.box rfl _ _)
    intro W1 HW1
    refine (HWT.out _ _ HW1).mono ?_
    rintro e w1 ⟨rfl, H1⟩
    go_wp2_with fail
    refine (run_note H1 (by have := HC.out; first | exact Nat.le_trans this (by decide) | (simp [Rn.note, Rn.did, Rn.setA, Rn.setB, Rn.waited, Rn.goto, Rn.noted]; omega)) 4 0).mono ?_
    rintro e w2 ⟨rfl, H2⟩
    go_wp2_with fail
    go_ret
    exact ⟨rfl, H2.unbox⟩
  · go_enter Try.func98, Try.ntmps98
    go_wp2_with fail
    go_quiet (fail)
    have HW := HH.out.drewN nq
    clear z0 z2 z4 z5 z6 z7
    generalize w.drewN nq = W at HW ⊢
    obtain ⟨z0, z2, z4, z5, z6, z7⟩ := HW.facts hop hl rfl rfl
    have HW0 := Lib.hid HW
    skip
    go_wp2_with fail
    refine calls_from (Facts := fun V => RunHas S0 w0 m a r (.blk W.heap.size #[.int .u32 (s.f.a % 4)] :: rs) s V) ?_ (by rw [← HBIT.out]; exact HW0.out.box rfl _ _)
    intro W1 HW1
    refine (HWT.out _ _ HW1).mono ?_
    rintro e w1 ⟨rfl, H1⟩
    go_wp2_with fail
    refine (run_note H1 (by have := HC.out; first | exact Nat.le_trans this (by decide) | (simp [Rn.note, Rn.did, Rn.setA, Rn.setB, Rn.waited, Rn.goto, Rn.noted]; omega)) 4 0).mono ?_
    rintro e w2 ⟨rfl, H2⟩
    go_wp2_with fail
    refine (rn_end H2 true).mono ?_
    rintro e w3 ⟨rfl, H3⟩
    go_wp2_with fail
    go_ret
    exact ⟨rfl, H3.unbox⟩

def pfR20 (s : Rn) : Rn :=
  (((s.did (doA s.L ⟨3, 1, 256, 0, 0⟩)).note 6 0).wake 1).fin true

set_option maxHeartbeats 800000 in
theorem pf_r20 {S0 : List Nat} {w0 w : World} {m a r : Nat} {rs : List Res} {s : Rn} (H : RunHas S0 w0 m a r rs s w) (hop : s.f.op = 2) (hl : s.f.line = 0) (hn : I64 s.n) (ha : 0 ≤ s.f.a ∧ s.f.a < 4294967296) (hc : s.notes.length ≤ 900) :
    Calls Try.prog 98 #[.pointer (some ⟨r, 0, none⟩), .int .i64 0, .int .i64 1] w fun e w' => e = .returned (.bool true) ∧ RunHas S0 w0 m a r rs (pfR20 s) w' := by
  obtain ⟨z0, z2, z4, z5, z6, z7⟩ := H.facts hop hl rfl rfl
  have HC := Lib.hid hc
  have HA := Lib.hid ha
  have HN := Lib.hid hn
  have HH := Lib.hid H
  clear hc H hn ha
  unfold pfR20
  (try dsimp only)
  go_enter Try.func98, Try.ntmps98
  go_wp2_with fail
  go_quiet (fail)
  have HW := HH.out.drewN nq
  clear z0 z2 z4 z5 z6 z7
  generalize w.drewN nq = W at HW ⊢
  obtain ⟨z0, z2, z4, z5, z6, z7⟩ := HW.facts hop hl rfl rfl
  go_wp2_with fail
  refine (rn_add HW 1 256 (by decide)).mono ?_
  rintro e w1 ⟨rfl, H1⟩
  go_wp2_with fail
  refine (run_note H1 (by have := HC.out; first | exact Nat.le_trans this (by decide) | (simp [Rn.note, Rn.did, Rn.setA, Rn.setB, Rn.waited, Rn.goto, Rn.noted]; omega)) 6 0).mono ?_
  rintro e w2 ⟨rfl, H2⟩
  go_wp2_with fail
  refine (rn_wake H2 1).mono ?_
  rintro e w3 ⟨rfl, H3⟩
  go_wp2_with fail
  refine (rn_end H3 true).mono ?_
  rintro e w4 ⟨rfl, H4⟩
  go_wp2_with fail
  go_ret
  exact ⟨rfl, H4⟩

def pfR50 (s : Rn) : Rn :=
  let s1 := (s.did (doA s.L ⟨1, 0, 0, 0, 0⟩)).setA (doA s.L ⟨1, 0, 0, 0, 0⟩).1.old
  if (doA s.L ⟨1, 0, 0, 0, 0⟩).1.old % 4 = 0 then s1.goto 1 else (s1.note 5 0).fin false

set_option maxHeartbeats 800000 in
theorem pf_r50 {S0 : List Nat} {w0 w : World} {m a r : Nat} {rs : List Res} {s : Rn} (H : RunHas S0 w0 m a r rs s w) (hop : s.f.op = 5) (hl : s.f.line = 0) (hn : I64 s.n) (ha : 0 ≤ s.f.a ∧ s.f.a < 4294967296) (hc : s.notes.length ≤ 900) :
    Calls Try.prog 98 #[.pointer (some ⟨r, 0, none⟩), .int .i64 0, .int .i64 1] w fun e w' => e = .returned (.bool true) ∧ RunHas S0 w0 m a r rs (pfR50 s) w' := by
  obtain ⟨z0, z2, z4, z5, z6, z7⟩ := H.facts hop hl rfl rfl
  have HC := Lib.hid hc
  have HA := Lib.hid ha
  have HN := Lib.hid hn
  have HV := Lib.hid (H.old ⟨1, 0, 0, 0, 0⟩)
  have HH := Lib.hid H
  clear hc H hn ha
  unfold pfR50
  (try dsimp only)
  by_cases hq : (doA s.L ⟨1, 0, 0, 0, 0⟩).1.old % 4 = 0
  · simp only [if_pos hq]
    have HQ := Lib.hid hq
    clear hq
    go_enter Try.func98, Try.ntmps98
    go_wp2_with fail
    go_quiet (fail)
    have HW := HH.out.drewN nq
    clear z0 z2 z4 z5 z6 z7
    generalize w.drewN nq = W at HW ⊢
    obtain ⟨z0, z2, z4, z5, z6, z7⟩ := HW.facts hop hl rfl rfl
    go_wp2_with fail
    refine (rn_load HW 0).mono ?_
    rintro e w1 ⟨rfl, H1⟩
    obtain ⟨x0, x2, x4, x5, x6, x7⟩ := H1.facts hop hl rfl rfl
    have hv := HV.out
    have hbit := and_3 (doA s.L ⟨1, 0, 0, 0, 0⟩).1.old hv
    have hz : (Go.bits .and .u32 (doA s.L ⟨1, 0, 0, 0, 0⟩).1.old 3 != 0) = false := by rw [hbit]; simpa using HQ.out
    clear hv hbit
    go_wp2_with fail
    refine (rn_go (H1.setA (doA s.L ⟨1, 0, 0, 0, 0⟩).1.old) 1).mono ?_
    rintro e w2 ⟨rfl, H2⟩
    go_wp2_with fail
    go_ret
    exact ⟨rfl, H2⟩
  · simp only [if_neg hq]
    have HQ := Lib.hid hq
    clear hq
    go_enter Try.func98, Try.ntmps98
    go_wp2_with fail
    go_quiet (fail)
    have HW := HH.out.drewN nq
    clear z0 z2 z4 z5 z6 z7
    generalize w.drewN nq = W at HW ⊢
    obtain ⟨z0, z2, z4, z5, z6, z7⟩ := HW.facts hop hl rfl rfl
    go_wp2_with fail
    refine (rn_load HW 0).mono ?_
    rintro e w1 ⟨rfl, H1⟩
    obtain ⟨x0, x2, x4, x5, x6, x7⟩ := H1.facts hop hl rfl rfl
    have hv := HV.out
    have hbit := and_3 (doA s.L ⟨1, 0, 0, 0, 0⟩).1.old hv
    have hz : (Go.bits .and .u32 (doA s.L ⟨1, 0, 0, 0, 0⟩).1.old 3 != 0) = true := by rw [hbit]; simpa using HQ.out
    clear hv hbit
    go_wp2_with fail
    refine (run_note (H1.setA (doA s.L ⟨1, 0, 0, 0, 0⟩).1.old) (by have := HC.out; first | exact Nat.le_trans this (by decide) | (simp [Rn.note, Rn.did, Rn.setA, Rn.setB, Rn.waited, Rn.goto, Rn.noted]; omega)) 5 0).mono ?_
    rintro e w2 ⟨rfl, H2⟩
    go_wp2_with fail
    refine (rn_end H2 false).mono ?_
    rintro e w3 ⟨rfl, H3⟩
    go_wp2_with fail
    go_ret
    exact ⟨rfl, H3⟩

def pfR51 (s : Rn) : Rn :=
  if casB s.L 0 s.f.a ((s.f.a + 256) % 4294967296) then (((s.did (doA s.L ⟨5, 0, s.f.a, (s.f.a + 256) % 4294967296, 0⟩)).note 2 1).note 4 0).fin true else (s.did (doA s.L ⟨5, 0, s.f.a, (s.f.a + 256) % 4294967296, 0⟩)).goto 0

set_option maxHeartbeats 800000 in
theorem pf_r51 {S0 : List Nat} {w0 w : World} {m a r : Nat} {rs : List Res} {s : Rn} (H : RunHas S0 w0 m a r rs s w) (hop : s.f.op = 5) (hl : s.f.line = 1) (hn : I64 s.n) (ha : 0 ≤ s.f.a ∧ s.f.a < 4294967296) (hc : s.notes.length ≤ 900) :
    Calls Try.prog 98 #[.pointer (some ⟨r, 0, none⟩), .int .i64 0, .int .i64 1] w fun e w' => e = .returned (.bool true) ∧ RunHas S0 w0 m a r rs (pfR51 s) w' := by
  obtain ⟨z0, z2, z4, z5, z6, z7⟩ := H.facts hop hl rfl rfl
  have HC := Lib.hid hc
  have HA := Lib.hid ha
  have HN := Lib.hid hn
  have HH := Lib.hid H
  clear hc H hn ha
  unfold pfR51
  (try dsimp only)
  have hcas := fun W (H : RunHas S0 w0 m a r rs s W) => rn_cas H 0 s.f.a ((s.f.a + 256) % 4294967296) HA.out (by have := HA.out; omega)
  cases hb : casB s.L 0 s.f.a ((s.f.a + 256) % 4294967296) with
  | true =>
    rw [hb] at hcas
    simp only [if_true]
    have HCAS := Lib.hid hcas
    clear hcas hb
    go_enter Try.func98, Try.ntmps98
    go_wp2_with fail
    go_quiet (fail)
    have HW := HH.out.drewN nq
    clear z0 z2 z4 z5 z6 z7
    generalize w.drewN nq = W at HW ⊢
    obtain ⟨z0, z2, z4, z5, z6, z7⟩ := HW.facts hop hl rfl rfl
    go_wp2_with fail
    refine region_flat (by kernel_rfl) (by kernel_rfl) ?_
    simp only [probed, probes, List.nil_append, List.cons_append, probe]
    go_wp2_with fail
    refine (HCAS.out _ HW.drew).mono ?_
    rintro e w1 ⟨rfl, H1⟩
    go_wp2_with fail
    rw [only_normal]
    rename_i hK
    refine hK _ _ ?_
    clear hK
    go_wp2_with fail
    refine (run_note H1 (by have := HC.out; first | exact Nat.le_trans this (by decide) | (simp [Rn.note, Rn.did, Rn.setA, Rn.setB, Rn.waited, Rn.goto, Rn.noted]; omega)) 2 1).mono ?_
    rintro e w2 ⟨rfl, H2⟩
    go_wp2_with fail
    refine (run_note H2 (by have := HC.out; first | exact Nat.le_trans this (by decide) | (simp [Rn.note, Rn.did, Rn.setA, Rn.setB, Rn.waited, Rn.goto, Rn.noted]; omega)) 4 0).mono ?_
    rintro e w3 ⟨rfl, H3⟩
    go_wp2_with fail
    refine (rn_end H3 true).mono ?_
    rintro e w4 ⟨rfl, H4⟩
    go_wp2_with fail
    go_ret
    exact ⟨rfl, H4⟩
  | false =>
    rw [hb] at hcas
    simp only [Bool.false_eq_true, if_false]
    have HCAS := Lib.hid hcas
    clear hcas hb
    go_enter Try.func98, Try.ntmps98
    go_wp2_with fail
    go_quiet (fail)
    have HW := HH.out.drewN nq
    clear z0 z2 z4 z5 z6 z7
    generalize w.drewN nq = W at HW ⊢
    obtain ⟨z0, z2, z4, z5, z6, z7⟩ := HW.facts hop hl rfl rfl
    go_wp2_with fail
    refine region_flat (by kernel_rfl) (by kernel_rfl) ?_
    simp only [probed, probes, List.nil_append, List.cons_append, probe]
    go_wp2_with fail
    refine (HCAS.out _ HW.drew).mono ?_
    rintro e w1 ⟨rfl, H1⟩
    go_wp2_with fail
    rw [only_normal]
    rename_i hK
    refine hK _ _ ?_
    clear hK
    go_wp2_with fail
    refine (rn_go H1 0).mono ?_
    rintro e w2 ⟨rfl, H2⟩
    go_wp2_with fail
    go_ret
    exact ⟨rfl, H2⟩

set_option maxHeartbeats 1600000 in
theorem pf_r_none {S0 : List Nat} {w0 w : World} {m a r : Nat} {rs : List Res} {s : Rn} (H : RunHas S0 w0 m a r rs s w) {o l : Int} (hop : s.f.op = o) (hl : s.f.line = l) (h0 : ¬ (o = 1 ∧ l = 0)) (h1 : ¬ (o = 1 ∧ l = 1)) (h2 : ¬ (o = 2 ∧ l = 0)) (h3 : ¬ (o = 5 ∧ l = 0)) (h4 : ¬ (o = 5 ∧ l = 1)) :
    Calls Try.prog 98 #[.pointer (some ⟨r, 0, none⟩), .int .i64 0, .int .i64 1] w fun e w' => e = .returned (.bool false) ∧ RunHas S0 w0 m a r rs s w' := by
  obtain ⟨z0, z2, z4, z5, z6, z7⟩ := H.facts hop hl rfl rfl
  have HH := Lib.hid H
  clear H
  go_enter Try.func98, Try.ntmps98
  go_wp2_with fail
  go_quiet (fail)
  have HW := HH.out.drewN nq
  clear z0 z2 z4 z5 z6 z7
  generalize w.drewN nq = W at HW ⊢
  obtain ⟨z0, z2, z4, z5, z6, z7⟩ := HW.facts hop hl rfl rfl
  go_wp2_with fail
  all_goals
    go_ret
    exact ⟨rfl, HW⟩

end Go.Proofs.Ytbcppehpfckgoaa.Z
