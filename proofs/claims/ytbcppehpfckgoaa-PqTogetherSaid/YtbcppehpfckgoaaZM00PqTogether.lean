/- 6 texts of this claim, joined: what each shows stands at its own head. -/
import Derived.Test.YtbcppehpfckgoaaZRun7t
import Derived.Test.YtbcppehpfckgoaaZFlat5
import Derived.Test.YtbcppehpfckgoaaZBits
import Derived.Test.YtbcppehpfckgoaaZAhead
import Derived.Deep.RegionHeld3
import Derived.Deep.DrawnRows
import Derived.Test.YtbcppehpfckgoaaZRun7
import Derived.Test.YtbcppehpfckgoaaZRun2
/- Package pq: its small functions; the readers of pf. Written by genpq.py. -/
set_option linter.unusedVariables false
set_option linter.unusedSimpArgs false
namespace Go.Proofs.Ytbcppehpfckgoaa.Z
open Go.RowKit

attribute [local go_sem ↓] Go.wp_at_zero Go.wp_at_succ

/-- The bits of a writer that is present. -/
def pfP (b : Int) : Int := 2 + b % 2
theorem and_1 (v : Int) (hv : 0 ≤ v ∧ v < 4294967296) : Go.bits .and .u32 v 1 = v % 2 := by
  obtain ⟨n, rfl⟩ : ∃ n : Nat, v = n := ⟨v.toNat, by omega⟩
  have h := ZB.bits_and n 1 (by omega) (by decide)
  have h2 : n &&& 1 = n / 1 % 2 * 1 := ZB.and_mask n 0 1
  rw [h2] at h
  refine Eq.trans h ?_
  omega
theorem and_3 (v : Int) (hv : 0 ≤ v ∧ v < 4294967296) : Go.bits .and .u32 v 3 = v % 4 := by
  obtain ⟨n, rfl⟩ : ∃ n : Nat, v = n := ⟨v.toNat, by omega⟩
  have h := ZB.bits_and n 3 (by omega) (by decide)
  have h2 : n &&& 3 = n / 1 % 4 * 1 := ZB.and_mask n 0 2
  rw [h2] at h
  refine Eq.trans h ?_
  omega
theorem or_2 (x : Int) (hx : x = 0 ∨ x = 1) : Go.bits .or .u32 2 x = 2 + x := by
  rcases hx with rfl | rfl <;> decide +kernel
theorem pf_presence (b : Int) (w : World) (hb : 0 ≤ b ∧ b < 4294967296) : Calls Try.prog 127 #[.int .u32 b] w fun e w' => e = .returned (.int .u32 (pfP b)) ∧ w = w' := by
  have h1 := and_1 b hb
  have h2 := or_2 (b % 2) (by omega)
  have H1 := Lib.hid h1
  have H2 := Lib.hid h2
  clear h1 h2
  go_enter Try.func127, Try.ntmps127
  go_wp2
  go_ret
  refine ⟨?_, rfl⟩
  show Ending.returned (Value.int .u32 _) = Ending.returned (Value.int .u32 _)
  unfold pfP
  rw [H1.out, H2.out]
theorem pf_mine (x v : Int) {b : Nat} (w : World) (hb : Blk w b #[.int .u32 x]) :
    Calls Try.prog 128 #[.int .u32 v, .pointer (some ⟨b, 0, none⟩)] w fun e w' => e = .returned (.bool (v == x)) ∧ Touch [] w w' := by
  obtain ⟨x0, x1, x2⟩ := hb.own
  go_enter Try.func128, Try.ntmps128
  go_wp2
  go_ret
  exact ⟨rfl, Touch.refl _ _⟩
theorem pf_mine2 (x v : Int) {b : Nat} (w : World) (hb : Blk w b #[.int .u32 x]) :
    Calls Try.prog 136 #[.int .u32 v, .pointer (some ⟨b, 0, none⟩)] w fun e w' => e = .returned (.bool (v == x)) ∧ Touch [] w w' := by
  obtain ⟨x0, x1, x2⟩ := hb.own
  go_enter Try.func136, Try.ntmps136
  go_wp2
  go_ret
  exact ⟨rfl, Touch.refl _ _⟩
theorem pf_other (x v : Int) {b : Nat} (w : World) (hv : 0 ≤ v ∧ v < 4294967296) (hb : Blk w b #[.int .u32 x]) :
    Calls Try.prog 126 #[.int .u32 v, .pointer (some ⟨b, 0, none⟩)] w fun e w' => e = .returned (.bool (v % 4 != x)) ∧ Touch [] w w' := by
  obtain ⟨x0, x1, x2⟩ := hb.own
  have h3 := and_3 v hv
  have H3 := Lib.hid h3
  clear h3
  go_enter Try.func126, Try.ntmps126
  go_wp2
  go_ret
  refine ⟨?_, Touch.refl _ _⟩
  show Ending.returned (Value.bool _) = Ending.returned (Value.bool _)
  rw [H3.out]

theorem pf_own_up {S0 : List Nat} {w0 w : World} {m a r : Nat} {rs : List Res} {s : Rn} (H : RunHas S0 w0 m a r rs s w) {l : Int} (hop : s.f.op = 7) (hl : s.f.line = l) : Calls Try.prog 135 #[.pointer (some ⟨r, 0, none⟩)] w fun e w' => e = .returned (.int .u32 256) ∧ w = w' := by
  obtain ⟨x0, x2, x4, x5, x6, x7⟩ := H.facts hop hl rfl rfl
  go_enter Try.func135, Try.ntmps135
  go_wp2
  go_ret
  exact ⟨rfl, rfl⟩
theorem pf_own_no {S0 : List Nat} {w0 w : World} {m a r : Nat} {rs : List Res} {s : Rn} (H : RunHas S0 w0 m a r rs s w) {l : Int} (hop : s.f.op = 6) (hl : s.f.line = l) : Calls Try.prog 135 #[.pointer (some ⟨r, 0, none⟩)] w fun e w' => e = .returned (.int .u32 0) ∧ w = w' := by
  obtain ⟨x0, x2, x4, x5, x6, x7⟩ := H.facts hop hl rfl rfl
  go_enter Try.func135, Try.ntmps135
  go_wp2
  go_ret
  exact ⟨rfl, rfl⟩

def pfR10 (s : Rn) : Rn :=
  let s1 := ((s.did (doA s.L ⟨3, 0, 256, 0, 0⟩)).setA (doA s.L ⟨3, 0, 256, 0, 0⟩).1.old).note 2 1
  if (doA s.L ⟨3, 0, 256, 0, 0⟩).1.old % 4 = 0 then (s1.note 4 0).fin true else s1.goto 1

set_option maxHeartbeats 800000 in
theorem pf_r10 {S0 : List Nat} {w0 w : World} {m a r : Nat} {rs : List Res} {s : Rn} (H : RunHas S0 w0 m a r rs s w) (hop : s.f.op = 1) (hl : s.f.line = 0) (hn : I64 s.n) (ha : 0 ≤ s.f.a ∧ s.f.a < 4294967296) (hc : s.notes.length ≤ 900) :
    Calls Try.prog 98 #[.pointer (some ⟨r, 0, none⟩), .int .i64 0, .int .i64 1] w fun e w' => e = .returned (.bool true) ∧ RunHas S0 w0 m a r rs (pfR10 s) w' := by
  obtain ⟨z0, z2, z4, z5, z6, z7⟩ := H.facts hop hl rfl rfl
  have HC := Lib.hid hc
  have HA := Lib.hid ha
  have HN := Lib.hid hn
  have HV := Lib.hid (H.old ⟨3, 0, 256, 0, 0⟩)
  have HH := Lib.hid H
  clear hc H hn ha
  unfold pfR10
  (try dsimp only)
  by_cases hq : (doA s.L ⟨3, 0, 256, 0, 0⟩).1.old % 4 = 0
  · simp only [if_pos hq]
    have HQ := Lib.hid hq
    clear hq
    go_enter Try.func98, Try.ntmps98
    go_wp2_with fail
    go_quiet (fail)
    have HW := HH.out.drewN nq
    clear z0 z2 z4 z5 z6 z7
    generalize w.drewN nq = W at HW ⊢
    obtain ⟨z0, z2, z4, z5, z6, z7⟩ := HW.facts hop hl rfl rfl
    go_wp2_with fail
    refine (rn_add HW 0 256 (by decide)).mono ?_
    rintro e w1 ⟨rfl, H1⟩
    obtain ⟨x0, x2, x4, x5, x6, x7⟩ := H1.facts hop hl rfl rfl
    go_wp2_with fail
    refine (run_note (H1.setA (doA s.L ⟨3, 0, 256, 0, 0⟩).1.old) (by have := HC.out; first | exact Nat.le_trans this (by decide) | (simp [Rn.note, Rn.did, Rn.setA, Rn.setB, Rn.waited, Rn.goto, Rn.noted]; omega)) 2 1).mono ?_
    rintro e w2 ⟨rfl, H2⟩
    obtain ⟨x0, x2, x4, x5, x6, x7⟩ := H2.facts hop hl (x := (doA s.L ⟨3, 0, 256, 0, 0⟩).1.old) rfl rfl
    have hv := HV.out
    have hbit := and_3 (doA s.L ⟨3, 0, 256, 0, 0⟩).1.old hv
    have hz : (Go.bits .and .u32 (doA s.L ⟨3, 0, 256, 0, 0⟩).1.old 3 == 0) = true := by rw [hbit]; simpa using HQ.out
    clear hv hbit
    go_wp2_with fail
    refine (run_note H2 (by have := HC.out; first | exact Nat.le_trans this (by decide) | (simp [Rn.note, Rn.did, Rn.setA, Rn.setB, Rn.waited, Rn.goto, Rn.noted]; omega)) 4 0).mono ?_
    rintro e w3 ⟨rfl, H3⟩
    go_wp2_with fail
    refine (rn_end H3 true).mono ?_
    rintro e w4 ⟨rfl, H4⟩
    go_wp2_with fail
    go_ret
    exact ⟨rfl, H4⟩
  · simp only [if_neg hq]
    have HQ := Lib.hid hq
    clear hq
    go_enter Try.func98, Try.ntmps98
    go_wp2_with fail
    go_quiet (fail)
    have HW := HH.out.drewN nq
    clear z0 z2 z4 z5 z6 z7
    generalize w.drewN nq = W at HW ⊢
    obtain ⟨z0, z2, z4, z5, z6, z7⟩ := HW.facts hop hl rfl rfl
    go_wp2_with fail
    refine (rn_add HW 0 256 (by decide)).mono ?_
    rintro e w1 ⟨rfl, H1⟩
    obtain ⟨x0, x2, x4, x5, x6, x7⟩ := H1.facts hop hl rfl rfl
    go_wp2_with fail
    refine (run_note (H1.setA (doA s.L ⟨3, 0, 256, 0, 0⟩).1.old) (by have := HC.out; first | exact Nat.le_trans this (by decide) | (simp [Rn.note, Rn.did, Rn.setA, Rn.setB, Rn.waited, Rn.goto, Rn.noted]; omega)) 2 1).mono ?_
    rintro e w2 ⟨rfl, H2⟩
    obtain ⟨x0, x2, x4, x5, x6, x7⟩ := H2.facts hop hl (x := (doA s.L ⟨3, 0, 256, 0, 0⟩).1.old) rfl rfl
    have hv := HV.out
    have hbit := and_3 (doA s.L ⟨3, 0, 256, 0, 0⟩).1.old hv
    have hz : (Go.bits .and .u32 (doA s.L ⟨3, 0, 256, 0, 0⟩).1.old 3 == 0) = false := by rw [hbit]; simpa using HQ.out
    clear hv hbit
    go_wp2_with fail
    refine (rn_go H2 1).mono ?_
    rintro e w3 ⟨rfl, H3⟩
    go_wp2_with fail
    go_ret
    exact ⟨rfl, H3⟩

def pfR11 (s : Rn) : Rn :=
  let s1 := s.waited (waitA s.L s.n s.mode s.task s.f.st 0 (fun v => v % 4 != s.f.a % 4))
  let s2 := if (waitA s.L s.n s.mode s.task s.f.st 0 (fun v => v % 4 != s.f.a % 4)).seen then s1.note 4 0 else s1
  if (waitA s.L s.n s.mode s.task s.f.st 0 (fun v => v % 4 != s.f.a % 4)).done then s2.fin true else s2

set_option maxHeartbeats 800000 in
theorem pf_r11 {S0 : List Nat} {w0 w : World} {m a r : Nat} {rs : List Res} {s : Rn} (H : RunHas S0 w0 m a r rs s w) (hop : s.f.op = 1) (hl : s.f.line = 1) (hn : I64 s.n) (ha : 0 ≤ s.f.a ∧ s.f.a < 4294967296) (hc : s.notes.length ≤ 900) :
    Calls Try.prog 98 #[.pointer (some ⟨r, 0, none⟩), .int .i64 0, .int .i64 1] w fun e w' => e = .returned (.bool true) ∧ RunHas S0 w0 m a r rs (pfR11 s) w' := by
  obtain ⟨z0, z2, z4, z5, z6, z7⟩ := H.facts hop hl rfl rfl
  have HC := Lib.hid hc
  have HA := Lib.hid ha
  have HN := Lib.hid hn
  have HH := Lib.hid H
  clear hc H hn ha
  unfold pfR11
  (try dsimp only)
  have hbit := and_3 s.f.a HA.out
  have HBIT := Lib.hid hbit
  clear hbit
  have hwt := fun (t2 : Nat) W (H : RunHas S0 w0 m a r (.blk t2 #[.int .u32 (s.f.a % 4)] :: rs) s W) => rn_wait H HN.out 0 126 #[] #[.pointer (some ⟨t2, 0, none⟩)] (fun v => v % 4 != s.f.a % 4) (enters_of Try.func126 (by kernel_rfl) rfl) (fun W v h0 h1 H => pf_other (s.f.a % 4) v W ⟨h0, h1⟩ H.first)
  cases hs : (waitA s.L s.n s.mode s.task s.f.st 0 (fun v => v % 4 != s.f.a % 4)).seen <;> cases hd : (waitA s.L s.n s.mode s.task s.f.st 0 (fun v => v % 4 != s.f.a % 4)).done <;> rw [hs, hd] at hwt <;> simp only [if_true, Bool.false_eq_true, if_false] <;> (have HWT := Lib.hid hwt) <;> clear hwt hs hd
  · go_enter Try.func98, Try.ntmps98
    go_wp2_with fail
    go_quiet (fail)
    have HW := HH.out.drewN nq
    clear z0 z2 z4 z5 z6 z7
    generalize w.drewN nq = W at HW ⊢
    obtain ⟨z0, z2, z4, z5, z6, z7⟩ := HW.facts hop hl rfl rfl
    have HW0 := Lib.hid HW
    skip
    go_wp2_with fail
    refine calls_from (Facts := fun V => RunHas S0 w0 m a r (.blk W.heap.size #[.int .u32 (s.f.a % 4)] :: rs) s V) ?_ (by rw [← HBIT.out]; exact HW0.out.box rfl _ _)
    intro W1 HW1
    refine (HWT.out _ _ HW1).mono ?_
    rintro e w1 ⟨rfl, H1⟩
    go_wp2_with fail
    go_ret
    exact ⟨rfl, H1.unbox⟩
  · go_enter Try.func98, Try.ntmps98
    go_wp2_with fail
    go_quiet (fail)
    have HW := HH.out.drewN nq
    clear z0 z2 z4 z5 z6 z7
    generalize w.drewN nq = W at HW ⊢
    obtain ⟨z0, z2, z4, z5, z6, z7⟩ := HW.facts hop hl rfl rfl
    have HW0 := Lib.hid HW
    skip
    go_wp2_with fail
    refine calls_from (Facts := fun V => RunHas S0 w0 m a r (.blk W.heap.size #[.int .u32 (s.f.a % 4)] :: rs) s V) ?_ (by rw [← HBIT.out]; exact HW0.out.box rfl _ _)
    intro W1 HW1
    refine (HWT.out _ _ HW1).mono ?_
    rintro e w1 ⟨rfl, H1⟩
    go_wp2_with fail
    refine (rn_end H1 true).mono ?_
    rintro e w2 ⟨rfl, H2⟩
    go_wp2_with fail
    go_ret
    exact ⟨rfl, H2.unbox⟩
  · go_enter Try.func98, Try.ntmps98
    go_wp2_with fail
    go_quiet (fail)
    have HW := HH.out.drewN nq
    clear z0 z2 z4 z5 z6 z7
    generalize w.drewN nq = W at HW ⊢
    obtain ⟨z0, z2, z4, z5, z6, z7⟩ := HW.facts hop hl rfl rfl
    have HW0 := Lib.hid HW
    skip
    go_wp2_with fail
    refine calls_from (Facts := fun V => RunHas S0 w0 m a r (.blk W.heap.size #[.int .u32 (s.f.a % 4)] :: rs) s V) ?_ (by rw [← HBIT.out]; exact HW0.out.box rfl _ _)
    intro W1 HW1
    refine (HWT.out _ _ HW1).mono ?_
    rintro e w1 ⟨rfl, H1⟩
    go_wp2_with fail
    refine (run_note H1 (by have := HC.out; first | exact Nat.le_trans this (by decide) | (simp [Rn.note, Rn.did, Rn.setA, Rn.setB, Rn.waited, Rn.goto, Rn.noted]; omega)) 4 0).mono ?_
    rintro e w2 ⟨rfl, H2⟩
    go_wp2_with fail
    go_ret
    exact ⟨rfl, H2.unbox⟩
  · go_enter Try.func98, Try.ntmps98
    go_wp2_with fail
    go_quiet (fail)
    have HW := HH.out.drewN nq
    clear z0 z2 z4 z5 z6 z7
    generalize w.drewN nq = W at HW ⊢
    obtain ⟨z0, z2, z4, z5, z6, z7⟩ := HW.facts hop hl rfl rfl
    have HW0 := Lib.hid HW
    skip
    go_wp2_with fail
    refine calls_from (Facts := fun V => RunHas S0 w0 m a r (.blk W.heap.size #[.int .u32 (s.f.a % 4)] :: rs) s V) ?_ (by rw [← HBIT.out]; exact HW0.out.box rfl _ _)
    intro W1 HW1
    refine (HWT.out _ _ HW1).mono ?_
    rintro e w1 ⟨rfl, H1⟩
    go_wp2_with fail
    refine (run_note H1 (by have := HC.out; first | exact Nat.le_trans this (by decide) | (simp [Rn.note, Rn.did, Rn.setA, Rn.setB, Rn.waited, Rn.goto, Rn.noted]; omega)) 4 0).mono ?_
    rintro e w2 ⟨rfl, H2⟩
    go_wp2_with fail
    refine (rn_end H2 true).mono ?_
    rintro e w3 ⟨rfl, H3⟩
    go_wp2_with fail
    go_ret
    exact ⟨rfl, H3.unbox⟩

def pfR20 (s : Rn) : Rn :=
  (((s.did (doA s.L ⟨3, 1, 256, 0, 0⟩)).note 6 0).wake 1).fin true

set_option maxHeartbeats 800000 in
theorem pf_r20 {S0 : List Nat} {w0 w : World} {m a r : Nat} {rs : List Res} {s : Rn} (H : RunHas S0 w0 m a r rs s w) (hop : s.f.op = 2) (hl : s.f.line = 0) (hn : I64 s.n) (ha : 0 ≤ s.f.a ∧ s.f.a < 4294967296) (hc : s.notes.length ≤ 900) :
    Calls Try.prog 98 #[.pointer (some ⟨r, 0, none⟩), .int .i64 0, .int .i64 1] w fun e w' => e = .returned (.bool true) ∧ RunHas S0 w0 m a r rs (pfR20 s) w' := by
  obtain ⟨z0, z2, z4, z5, z6, z7⟩ := H.facts hop hl rfl rfl
  have HC := Lib.hid hc
  have HA := Lib.hid ha
  have HN := Lib.hid hn
  have HH := Lib.hid H
  clear hc H hn ha
  unfold pfR20
  (try dsimp only)
  go_enter Try.func98, Try.ntmps98
  go_wp2_with fail
  go_quiet (fail)
  have HW := HH.out.drewN nq
  clear z0 z2 z4 z5 z6 z7
  generalize w.drewN nq = W at HW ⊢
  obtain ⟨z0, z2, z4, z5, z6, z7⟩ := HW.facts hop hl rfl rfl
  go_wp2_with fail
  refine (rn_add HW 1 256 (by decide)).mono ?_
  rintro e w1 ⟨rfl, H1⟩
  go_wp2_with fail
  refine (run_note H1 (by have := HC.out; first | exact Nat.le_trans this (by decide) | (simp [Rn.note, Rn.did, Rn.setA, Rn.setB, Rn.waited, Rn.goto, Rn.noted]; omega)) 6 0).mono ?_
  rintro e w2 ⟨rfl, H2⟩
  go_wp2_with fail
  refine (rn_wake H2 1).mono ?_
  rintro e w3 ⟨rfl, H3⟩
  go_wp2_with fail
  refine (rn_end H3 true).mono ?_
  rintro e w4 ⟨rfl, H4⟩
  go_wp2_with fail
  go_ret
  exact ⟨rfl, H4⟩

def pfR50 (s : Rn) : Rn :=
  let s1 := (s.did (doA s.L ⟨1, 0, 0, 0, 0⟩)).setA (doA s.L ⟨1, 0, 0, 0, 0⟩).1.old
  if (doA s.L ⟨1, 0, 0, 0, 0⟩).1.old % 4 = 0 then s1.goto 1 else (s1.note 5 0).fin false

set_option maxHeartbeats 800000 in
theorem pf_r50 {S0 : List Nat} {w0 w : World} {m a r : Nat} {rs : List Res} {s : Rn} (H : RunHas S0 w0 m a r rs s w) (hop : s.f.op = 5) (hl : s.f.line = 0) (hn : I64 s.n) (ha : 0 ≤ s.f.a ∧ s.f.a < 4294967296) (hc : s.notes.length ≤ 900) :
    Calls Try.prog 98 #[.pointer (some ⟨r, 0, none⟩), .int .i64 0, .int .i64 1] w fun e w' => e = .returned (.bool true) ∧ RunHas S0 w0 m a r rs (pfR50 s) w' := by
  obtain ⟨z0, z2, z4, z5, z6, z7⟩ := H.facts hop hl rfl rfl
  have HC := Lib.hid hc
  have HA := Lib.hid ha
  have HN := Lib.hid hn
  have HV := Lib.hid (H.old ⟨1, 0, 0, 0, 0⟩)
  have HH := Lib.hid H
  clear hc H hn ha
  unfold pfR50
  (try dsimp only)
  by_cases hq : (doA s.L ⟨1, 0, 0, 0, 0⟩).1.old % 4 = 0
  · simp only [if_pos hq]
    have HQ := Lib.hid hq
    clear hq
    go_enter Try.func98, Try.ntmps98
    go_wp2_with fail
    go_quiet (fail)
    have HW := HH.out.drewN nq
    clear z0 z2 z4 z5 z6 z7
    generalize w.drewN nq = W at HW ⊢
    obtain ⟨z0, z2, z4, z5, z6, z7⟩ := HW.facts hop hl rfl rfl
    go_wp2_with fail
    refine (rn_load HW 0).mono ?_
    rintro e w1 ⟨rfl, H1⟩
    obtain ⟨x0, x2, x4, x5, x6, x7⟩ := H1.facts hop hl rfl rfl
    have hv := HV.out
    have hbit := and_3 (doA s.L ⟨1, 0, 0, 0, 0⟩).1.old hv
    have hz : (Go.bits .and .u32 (doA s.L ⟨1, 0, 0, 0, 0⟩).1.old 3 != 0) = false := by rw [hbit]; simpa using HQ.out
    clear hv hbit
    go_wp2_with fail
    refine (rn_go (H1.setA (doA s.L ⟨1, 0, 0, 0, 0⟩).1.old) 1).mono ?_
    rintro e w2 ⟨rfl, H2⟩
    go_wp2_with fail
    go_ret
    exact ⟨rfl, H2⟩
  · simp only [if_neg hq]
    have HQ := Lib.hid hq
    clear hq
    go_enter Try.func98, Try.ntmps98
    go_wp2_with fail
    go_quiet (fail)
    have HW := HH.out.drewN nq
    clear z0 z2 z4 z5 z6 z7
    generalize w.drewN nq = W at HW ⊢
    obtain ⟨z0, z2, z4, z5, z6, z7⟩ := HW.facts hop hl rfl rfl
    go_wp2_with fail
    refine (rn_load HW 0).mono ?_
    rintro e w1 ⟨rfl, H1⟩
    obtain ⟨x0, x2, x4, x5, x6, x7⟩ := H1.facts hop hl rfl rfl
    have hv := HV.out
    have hbit := and_3 (doA s.L ⟨1, 0, 0, 0, 0⟩).1.old hv
    have hz : (Go.bits .and .u32 (doA s.L ⟨1, 0, 0, 0, 0⟩).1.old 3 != 0) = true := by rw [hbit]; simpa using HQ.out
    clear hv hbit
    go_wp2_with fail
    refine (run_note (H1.setA (doA s.L ⟨1, 0, 0, 0, 0⟩).1.old) (by have := HC.out; first | exact Nat.le_trans this (by decide) | (simp [Rn.note, Rn.did, Rn.setA, Rn.setB, Rn.waited, Rn.goto, Rn.noted]; omega)) 5 0).mono ?_
    rintro e w2 ⟨rfl, H2⟩
    go_wp2_with fail
    refine (rn_end H2 false).mono ?_
    rintro e w3 ⟨rfl, H3⟩
    go_wp2_with fail
    go_ret
    exact ⟨rfl, H3⟩

def pfR51 (s : Rn) : Rn :=
  if casB s.L 0 s.f.a ((s.f.a + 256) % 4294967296) then (((s.did (doA s.L ⟨5, 0, s.f.a, (s.f.a + 256) % 4294967296, 0⟩)).note 2 1).note 4 0).fin true else (s.did (doA s.L ⟨5, 0, s.f.a, (s.f.a + 256) % 4294967296, 0⟩)).goto 0

set_option maxHeartbeats 800000 in
theorem pf_r51 {S0 : List Nat} {w0 w : World} {m a r : Nat} {rs : List Res} {s : Rn} (H : RunHas S0 w0 m a r rs s w) (hop : s.f.op = 5) (hl : s.f.line = 1) (hn : I64 s.n) (ha : 0 ≤ s.f.a ∧ s.f.a < 4294967296) (hc : s.notes.length ≤ 900) :
    Calls Try.prog 98 #[.pointer (some ⟨r, 0, none⟩), .int .i64 0, .int .i64 1] w fun e w' => e = .returned (.bool true) ∧ RunHas S0 w0 m a r rs (pfR51 s) w' := by
  obtain ⟨z0, z2, z4, z5, z6, z7⟩ := H.facts hop hl rfl rfl
  have HC := Lib.hid hc
  have HA := Lib.hid ha
  have HN := Lib.hid hn
  have HH := Lib.hid H
  clear hc H hn ha
  unfold pfR51
  (try dsimp only)
  have hcas := fun W (H : RunHas S0 w0 m a r rs s W) => rn_cas H 0 s.f.a ((s.f.a + 256) % 4294967296) HA.out (by have := HA.out; omega)
  cases hb : casB s.L 0 s.f.a ((s.f.a + 256) % 4294967296) with
  | true =>
    rw [hb] at hcas
    simp only [if_true]
    have HCAS := Lib.hid hcas
    clear hcas hb
    go_enter Try.func98, Try.ntmps98
    go_wp2_with fail
    go_quiet (fail)
    have HW := HH.out.drewN nq
    clear z0 z2 z4 z5 z6 z7
    generalize w.drewN nq = W at HW ⊢
    obtain ⟨z0, z2, z4, z5, z6, z7⟩ := HW.facts hop hl rfl rfl
    go_wp2_with fail
    refine region_flat (by kernel_rfl) (by kernel_rfl) ?_
    simp only [probed, probes, List.nil_append, List.cons_append, probe]
    go_wp2_with fail
    refine (HCAS.out _ HW.drew).mono ?_
    rintro e w1 ⟨rfl, H1⟩
    go_wp2_with fail
    rw [only_normal]
    rename_i hK
    refine hK _ _ ?_
    clear hK
    go_wp2_with fail
    refine (run_note H1 (by have := HC.out; first | exact Nat.le_trans this (by decide) | (simp [Rn.note, Rn.did, Rn.setA, Rn.setB, Rn.waited, Rn.goto, Rn.noted]; omega)) 2 1).mono ?_
    rintro e w2 ⟨rfl, H2⟩
    go_wp2_with fail
    refine (run_note H2 (by have := HC.out; first | exact Nat.le_trans this (by decide) | (simp [Rn.note, Rn.did, Rn.setA, Rn.setB, Rn.waited, Rn.goto, Rn.noted]; omega)) 4 0).mono ?_
    rintro e w3 ⟨rfl, H3⟩
    go_wp2_with fail
    refine (rn_end H3 true).mono ?_
    rintro e w4 ⟨rfl, H4⟩
    go_wp2_with fail
    go_ret
    exact ⟨rfl, H4⟩
  | false =>
    rw [hb] at hcas
    simp only [Bool.false_eq_true, if_false]
    have HCAS := Lib.hid hcas
    clear hcas hb
    go_enter Try.func98, Try.ntmps98
    go_wp2_with fail
    go_quiet (fail)
    have HW := HH.out.drewN nq
    clear z0 z2 z4 z5 z6 z7
    generalize w.drewN nq = W at HW ⊢
    obtain ⟨z0, z2, z4, z5, z6, z7⟩ := HW.facts hop hl rfl rfl
    go_wp2_with fail
    refine region_flat (by kernel_rfl) (by kernel_rfl) ?_
    simp only [probed, probes, List.nil_append, List.cons_append, probe]
    go_wp2_with fail
    refine (HCAS.out _ HW.drew).mono ?_
    rintro e w1 ⟨rfl, H1⟩
    go_wp2_with fail
    rw [only_normal]
    rename_i hK
    refine hK _ _ ?_
    clear hK
    go_wp2_with fail
    refine (rn_go H1 0).mono ?_
    rintro e w2 ⟨rfl, H2⟩
    go_wp2_with fail
    go_ret
    exact ⟨rfl, H2⟩

set_option maxHeartbeats 1600000 in
theorem pf_r_none {S0 : List Nat} {w0 w : World} {m a r : Nat} {rs : List Res} {s : Rn} (H : RunHas S0 w0 m a r rs s w) {o l : Int} (hop : s.f.op = o) (hl : s.f.line = l) (h0 : ¬ (o = 1 ∧ l = 0)) (h1 : ¬ (o = 1 ∧ l = 1)) (h2 : ¬ (o = 2 ∧ l = 0)) (h3 : ¬ (o = 5 ∧ l = 0)) (h4 : ¬ (o = 5 ∧ l = 1)) :
    Calls Try.prog 98 #[.pointer (some ⟨r, 0, none⟩), .int .i64 0, .int .i64 1] w fun e w' => e = .returned (.bool false) ∧ RunHas S0 w0 m a r rs s w' := by
  obtain ⟨z0, z2, z4, z5, z6, z7⟩ := H.facts hop hl rfl rfl
  have HH := Lib.hid H
  clear H
  go_enter Try.func98, Try.ntmps98
  go_wp2_with fail
  go_quiet (fail)
  have HW := HH.out.drewN nq
  clear z0 z2 z4 z5 z6 z7
  generalize w.drewN nq = W at HW ⊢
  obtain ⟨z0, z2, z4, z5, z6, z7⟩ := HW.facts hop hl rfl rfl
  go_wp2_with fail
  all_goals
    go_ret
    exact ⟨rfl, HW⟩

end Go.Proofs.Ytbcppehpfckgoaa.Z

/- Package line: a run waits, and what was seen is kept in the frame. -/
set_option linter.unusedVariables false
set_option linter.unusedSimpArgs false
namespace Go.Proofs.Ytbcppehpfckgoaa.Z
open Go.RowKit

theorem mem_any {w : World} {m a : Nat} {L : List Int} (h : Mem w m a L) (b : Nat) (hm : m ≠ b) (hb : L.length = 0 ∨ b = a) : Mem w m b L := by
  rcases hb with hb | rfl
  · obtain ⟨p, cap, hh, r1, r2, r3⟩ := h.head
    exact ⟨hm, h.words, ⟨p, cap, hh, r1, r2, fun h0 => absurd h0 (by omega)⟩, fun h0 => absurd h0 (by omega)⟩
  · exact h

/-- A step of waiting, by a look that keeps what it sees. -/
theorem wstep_keep {S0 : List Nat} {w0 w : World} {m a r : Nat} {nv : Value} {rs : List Res} {s : Rn} (H : Has S0 w0 w (.mem m a s.L :: .blk r (rcells m s nv) :: rs)) (c : Int) (hn : I64 s.n) (fid : FuncId) (first cap : Array Value) (p : Int → Bool)
    (eg : ∀ args w, (callFunc fid args).run Try.prog w = .ok (.enter fid args) w)
    (hF : ∀ W v, 0 ≤ v → v < 4294967296 → Has S0 w0 W (.mem m a s.L :: .blk r (rcells m s nv) :: rs) → Calls Try.prog fid (first ++ #[.int .u32 v] ++ cap) W fun e W' => e = .returned (.bool (p v)) ∧ Touch [r] W W' ∧ Blk W' r (rcells m (if p v then s.setA v else s) nv)) :
    Calls Try.prog 115 #[.pointer (some ⟨m, 0, none⟩), .agg #[.int .i64 s.n], .int .i64 s.mode, .int .i64 s.task, .agg #[.int .i64 s.f.st], .int .i64 c, .func (.func fid) first cap] w
      fun e w' => e = .returned (waitA s.L s.n s.mode s.task s.f.st c p).value ∧ Has S0 w0 w' (.mem m a (waitA s.L s.n s.mode s.task s.f.st c p).words :: .blk r (rcells m (s.keep (waitA s.L s.n s.mode s.task s.f.st c p)) nv) :: rs) := by
  have hM := H.mem
  have hv := doA_old s.L hM.words ⟨1, c, 0, 0, 0⟩
  have hrl : r < w.heap.size := H.blk1.lt
  have hfar : ∀ k, k ∈ (Res.mem m a s.L).foot → k ≠ r := fun k hk e => (List.pairwise_cons.1 H.apart).1 (.blk r (rcells m s nv)) (by simp) k hk (by simp [Res.foot, e])
  have hback : ∀ (w' : World) (cs : Array Value), Mem w' m a s.L → Touch [r] w w' → Blk w' r cs → Has S0 w0 w' (.mem m a s.L :: .blk r cs :: rs) := fun w' cs hM' t hb =>
    Has.swap (Has.upd (xs := [.blk r (rcells m s nv)]) (rs := .mem m a s.L :: rs) [.blk r cs] (S := [r]) H.swap t (by simp [foots, Res.foot]) (by simp [Res.holds]; exact hb) (by simp) (by simp [foots, Res.foot]))
  have hpure : ∀ (R : WaitR) (e : Ending) (w' : World), R.seen = false → R.words.length = s.L.length → (e = .returned R.value ∧ Mem w' m a R.words ∧ Touch (lv a s.L) w w') → e = .returned R.value ∧ Has S0 w0 w' (.mem m a R.words :: .blk r (rcells m (s.keep R) nv) :: rs) := by
    rintro R e w' hs hl ⟨he, hM', t⟩
    refine ⟨he, ?_⟩
    unfold Rn.keep
    rw [hs]
    exact H.words hM' hl t
  obtain ⟨a', ha', har, hma⟩ : ∃ a', (s.L.length = 0 ∨ a' = a) ∧ r ≠ a' ∧ m ≠ a' := by
    by_cases h0 : s.L.length = 0
    · exact ⟨m + r + 1, Or.inl h0, by omega, by omega⟩
    · exact ⟨a, Or.inr rfl, fun e => hfar a (by simp [Res.foot, lv]; omega) e.symm, hM.ne⟩
  have hMa := mem_any hM a' hma ha'
  have hMb : ∀ {w'}, Mem w' m a' s.L → Mem w' m a s.L := fun h => mem_any h a hM.ne (by rcases ha' with h | h; exact Or.inl h; exact Or.inr h.symm)
  have hlook := fun hst => wait_look (S := [r]) (G := fun W => Blk W r (rcells m (if p (doA s.L ⟨1, c, 0, 0, 0⟩).1.old then s.setA (doA s.L ⟨1, c, 0, 0, 0⟩).1.old else s) nv)) hMa s.n s.mode s.task s.f.st c fid first cap (p (doA s.L ⟨1, c, 0, 0, 0⟩).1.old) eg hst
    (by
      intro k hk
      simp only [List.mem_singleton] at hk
      subst hk
      refine ⟨hrl, ?_, ?_⟩
      · exact fun e => hfar m (by simp [Res.foot]) e.symm
      · exact har)
    (fun W W' T hg t hT => t.blk hg (fun hm => by have := hT r hm; omega))
    (fun W t => (hF W _ hv.1 hv.2 (H.grow t)))
  rcases stageA_is s.mode s.f.st with e | e | e | e | e
  · rw [waitA0 e]
    refine (hlook (Or.inl e)).mono ?_
    rintro en w' ⟨he, hM', t, hb⟩
    refine ⟨by rw [he, e]; simp [WaitR.value], ?_⟩
    have := hback w' _ (hMb hM') t hb
    unfold Rn.keep
    exact this
  · rw [waitA1 e]
    exact (wait_say hM s.n s.mode s.task s.f.st c hn _ e).mono fun en w' h => hpure _ en w' rfl (doA_length _ _) h
  · rw [waitA2 e]
    refine (hlook (Or.inr e)).mono ?_
    rintro en w' ⟨he, hM', t, hb⟩
    refine ⟨by rw [he, e]; simp [WaitR.value], ?_⟩
    have := hback w' _ (hMb hM') t hb
    unfold Rn.keep
    exact this
  · rw [waitA3 e]
    exact (wait_sleep hM s.n s.mode s.task s.f.st c hn _ e).mono fun en w' h => hpure _ en w' rfl (by unfold takeA; split; exact doA_length _ _; rfl) h
  · rw [waitA4 e]
    exact (wait_forget hM s.n s.mode s.task s.f.st c hn _ e).mono fun en w' h => hpure _ en w' rfl (doA_length _ _) h

theorem rn_wait_keep {S0 : List Nat} {w0 w : World} {m a r : Nat} {rs : List Res} {s : Rn} (H : RunHas S0 w0 m a r rs s w) (hn : I64 s.n) (c : Int) (fid : FuncId) (first cap : Array Value) (p : Int → Bool)
    (eg : ∀ args w, (callFunc fid args).run Try.prog w = .ok (.enter fid args) w)
    (hF : ∀ W nv v, 0 ≤ v → v < 4294967296 → Has S0 w0 W (.mem m a s.L :: .blk r (rcells m s nv) :: .own 112 4 nv s.notes.length (nts s.notes) :: rs) → Calls Try.prog fid (first ++ #[.int .u32 v] ++ cap) W fun e W' => e = .returned (.bool (p v)) ∧ Touch [r] W W' ∧ Blk W' r (rcells m (if p v then s.setA v else s) nv)) :
    Calls Try.prog 79 #[.pointer (some ⟨r, 0, none⟩), .int .i64 c, .func (.func fid) first cap] w
      fun e w' => e = .returned (.tuple #[.bool (waitA s.L s.n s.mode s.task s.f.st c p).seen, .bool (waitA s.L s.n s.mode s.task s.f.st c p).done]) ∧ RunHas S0 w0 m a r rs ((s.keep (waitA s.L s.n s.mode s.task s.f.st c p)).waited (waitA s.L s.n s.mode s.task s.f.st c p)) w' := by
  obtain ⟨nv, H⟩ := H
  refine (run_wait (s2 := s.keep (waitA s.L s.n s.mode s.task s.f.st c p)) H c _ _ (fun W HW => wstep_keep HW c hn fid first cap p eg (fun W v h0 h1 HW => hF W nv v h0 h1 HW))).mono fun e w' h => ⟨h.1, nv, ?_⟩
  have e1 : ((s.keep (waitA s.L s.n s.mode s.task s.f.st c p)).waited (waitA s.L s.n s.mode s.task s.f.st c p)).notes = s.notes := by unfold Rn.keep; split <;> rfl
  rw [e1]
  exact h.2

end Go.Proofs.Ytbcppehpfckgoaa.Z

/- Package line: a run stores and swaps. -/
set_option linter.unusedVariables false
set_option linter.unusedSimpArgs false
namespace Go.Proofs.Ytbcppehpfckgoaa.Z
open Go.RowKit

set_option maxRecDepth 100000 in
theorem run_swap {S0 : List Nat} {w0 w : World} {m a r : Nat} {nv : Value} {rs : List Res} {s : Rn} (H : Has S0 w0 w (.mem m a s.L :: .blk r (rcells m s nv) :: rs)) (c x : Int) (hx : 0 ≤ x ∧ x < 4294967296) :
    Calls Try.prog 109 #[.pointer (some ⟨r, 0, none⟩), .int .i64 c, .int .u32 x] w fun e w' => e = .returned (.int .u32 (doA s.L ⟨4, c, x, 0, 0⟩).1.old) ∧ Has S0 w0 w' (.mem m a (s.did (doA s.L ⟨4, c, x, 0, 0⟩)).L :: .blk r (rcells m (s.did (doA s.L ⟨4, c, x, 0, 0⟩)) nv) :: rs) := by
  have hd := fun W (H : Has S0 w0 W (.mem m a s.L :: .blk r (rcells m s nv) :: rs)) => run_do H ⟨4, c, x, 0, 0⟩ hx (by simp)
  generalize doA s.L ⟨4, c, x, 0, 0⟩ = R at hd ⊢
  obtain ⟨⟨rk, rc, rx, ry, ro⟩, rok, L2⟩ := R
  simp only [Acc.cells] at hd ⊢
  have hf := fieldOld rk rc rx ry ro
  go_enter Try.func109, Try.ntmps109
  go_wp2_with (go_at_call 113; refine (hd _ H).mono ?_; rintro e w1 ⟨rfl, H1⟩)
  go_ret
  exact ⟨rfl, H1⟩

set_option maxRecDepth 100000 in
theorem run_swap_nil (w : World) (c x : Int) (hx : 0 ≤ x ∧ x < 4294967296) :
    Calls Try.prog 109 #[.pointer none, .int .i64 c, .int .u32 x] w fun e w' => e = .returned (.int .u32 0) ∧ Touch [] w w' := by
  have hd := fun W => run_do_nil W ⟨4, c, x, 0, 0⟩
  simp only [Acc.cells, Acc.zero] at hd
  have hf := fieldOld 0 0 0 0 0
  go_enter Try.func109, Try.ntmps109
  go_wp2_with (go_at_call 113; refine (hd _).mono ?_; rintro e w1 ⟨rfl, t1⟩)
  go_ret
  exact ⟨rfl, t1⟩


end Go.Proofs.Ytbcppehpfckgoaa.Z

/- Package line: a run stores and swaps, said of RunHas. -/
set_option linter.unusedVariables false
set_option linter.unusedSimpArgs false
namespace Go.Proofs.Ytbcppehpfckgoaa.Z
open Go.RowKit

theorem rn_swap {S0 : List Nat} {w0 w : World} {m a r : Nat} {rs : List Res} {s : Rn} (H : RunHas S0 w0 m a r rs s w) (c x : Int) (hx : 0 ≤ x ∧ x < 4294967296) :
    Calls Try.prog 109 #[.pointer (some ⟨r, 0, none⟩), .int .i64 c, .int .u32 x] w fun e w' => e = .returned (.int .u32 (doA s.L ⟨4, c, x, 0, 0⟩).1.old) ∧ RunHas S0 w0 m a r rs (s.did (doA s.L ⟨4, c, x, 0, 0⟩)) w' := by
  obtain ⟨nv, H⟩ := H
  exact (run_swap H c x hx).mono fun e w' h => ⟨h.1, nv, h.2⟩

end Go.Proofs.Ytbcppehpfckgoaa.Z

/- Package mutex: its small functions. -/
set_option linter.unusedVariables false
set_option linter.unusedSimpArgs false
namespace Go.Proofs.Ytbcppehpfckgoaa.Z
open Go.RowKit
attribute [local go_sem ↓] Go.wp_at_zero Go.wp_at_succ

/-- A task's number in the queue. -/
def mxOwn (s : Rn) : Int := (s.task + 1) % 4294967296
theorem mxOwn_word (s : Rn) : 0 ≤ mxOwn s ∧ mxOwn s < 4294967296 := by unfold mxOwn; omega

/-- What the walks of the mutex read. -/
theorem RunHas.sees {S0 : List Nat} {w0 w : World} {m a r : Nat} {rs : List Res} {s : Rn} (H : RunHas S0 w0 m a r rs s w) : w.cell? ⟨r, 1, none⟩ = some (.int .i64 s.n) ∧ w.cell? ⟨r, 3, none⟩ = some (.int .i64 s.task) ∧ w.cell? ⟨r, 6, none⟩ = some (.int .u32 s.f.a) :=
  ⟨(H.whose rfl rfl rfl).1, (H.whose rfl rfl rfl).2.2, (H.facts rfl rfl rfl rfl).2.2.2.2.1⟩
theorem RunHas.sees_did {S0 : List Nat} {w0 w : World} {m a r : Nat} {rs : List Res} {s : Rn} {R : Acc × Bool × List Int} (H : RunHas S0 w0 m a r rs (s.did R) w) : w.cell? ⟨r, 1, none⟩ = some (.int .i64 s.n) ∧ w.cell? ⟨r, 3, none⟩ = some (.int .i64 s.task) ∧ w.cell? ⟨r, 6, none⟩ = some (.int .u32 s.f.a) :=
  ⟨(H.whose rfl rfl rfl).1, (H.whose rfl rfl rfl).2.2, (H.facts rfl rfl rfl rfl).2.2.2.2.1⟩
theorem RunHas.sees_wtd {S0 : List Nat} {w0 w : World} {m a r : Nat} {rs : List Res} {s : Rn} {R : WaitR} (H : RunHas S0 w0 m a r rs (s.waited R) w) : w.cell? ⟨r, 1, none⟩ = some (.int .i64 s.n) ∧ w.cell? ⟨r, 3, none⟩ = some (.int .i64 s.task) ∧ w.cell? ⟨r, 6, none⟩ = some (.int .u32 s.f.a) :=
  ⟨(H.whose rfl rfl rfl).1, (H.whose rfl rfl rfl).2.2, (H.facts rfl rfl rfl rfl).2.2.2.2.1⟩
theorem RunHas.sees_box {S0 : List Nat} {w0 w : World} {m a r : Nat} {rs : List Res} {s : Rn} {b : Nat} (H : RunHas S0 w0 m a r (.blk b #[.pointer (some ⟨r, 4, none⟩)] :: rs) s w) : w.cell? ⟨r, 1, none⟩ = some (.int .i64 s.n) ∧ w.cell? ⟨r, 3, none⟩ = some (.int .i64 s.task) ∧ w.cell? ⟨r, 6, none⟩ = some (.int .u32 s.f.a) ∧ w.cell? ⟨b, 0, none⟩ = some (.pointer (some ⟨r, 4, none⟩)) :=
  ⟨(H.whose rfl rfl rfl).1, (H.whose rfl rfl rfl).2.2, (H.facts rfl rfl rfl rfl).2.2.2.2.1, H.first.own.2.1 0⟩
theorem mx_own {S0 : List Nat} {w0 w : World} {m a r : Nat} {rs : List Res} {s : Rn} (H : RunHas S0 w0 m a r rs s w) :
    Calls Try.prog 110 #[.pointer (some ⟨r, 0, none⟩)] w fun e w' => e = .returned (.int .u32 (mxOwn s)) ∧ w = w' := by
  obtain ⟨y1, y2, y3⟩ := H.whose rfl rfl rfl
  go_enter Try.func110, Try.ntmps110
  go_wp2
  go_ret
  refine ⟨?_, rfl⟩
  show Ending.returned (Value.int .u32 _) = Ending.returned (Value.int .u32 _)
  unfold mxOwn
  have e : wrap64 (s.task + 1) % 4294967296 = (s.task + 1) % 4294967296 := by
    unfold wrap64
    omega
  rw [e]
theorem mx_other (v : Int) (w : World) (hv : 0 ≤ v ∧ v < 4294967296) :
    Calls Try.prog 111 #[.int .u32 v] w fun e w' => e = .returned (.int .i64 (v - 1)) ∧ w = w' := by
  go_enter Try.func111, Try.ntmps111
  go_wp2
  go_ret
  refine ⟨?_, rfl⟩
  go_num
theorem mx_free (v : Int) (w : World) (hv : 0 ≤ v ∧ v < 4294967296) :
    Calls Try.prog 112 #[.int .u32 v] w fun e w' => e = .returned (.bool (v == 0)) ∧ Touch [] w w' := by
  go_enter Try.func112, Try.ntmps112
  go_wp2
  go_ret
  exact ⟨rfl, Touch.refl _ _⟩

theorem RunHas.ne_first {S0 : List Nat} {w0 w : World} {m a r b : Nat} {cs : Array Value} {rs : List Res} {s : Rn} (H : RunHas S0 w0 m a r (.blk b cs :: rs) s w) : r ≠ b := by
  obtain ⟨nv, H⟩ := H
  exact H.ne_at 1 3 rfl rfl (by decide)
theorem RunHas.swap12 {S0 : List Nat} {w0 w : World} {m a r : Nat} {x y : Res} {rs : List Res} {s : Rn} (H : RunHas S0 w0 m a r (x :: y :: rs) s w) : RunHas S0 w0 m a r (y :: x :: rs) s w := by
  obtain ⟨nv, H⟩ := H
  exact ⟨nv, H.perm (((List.Perm.swap y x rs).cons _).cons _ |>.cons _)⟩

set_option maxHeartbeats 800000 in
theorem mx_noted {S0 : List Nat} {w0 w : World} {m a r g n c : Nat} {l : List Int} {rs : List Res} {s : Rn} (H : RunHas S0 w0 m a r (.blk g (i64s l).toArray :: rs) s w) (hn : l.length = n) (hc : s.notes.length + l.length ≤ 1000) :
    Calls Try.prog 116 #[.pointer (some ⟨r, 0, none⟩), .slice (some ⟨g, 0, none⟩) n c] w fun e w' => e = .returned (.tuple #[]) ∧ RunHas S0 w0 m a r (.blk g (i64s l).toArray :: rs) (s.noted l) w' := by
  subst hn
  have hll : l.length ≤ 1000 := by omega
  have HC := Lib.hid hc
  have HH := Lib.hid H
  clear hc H
  go_enter Try.func116, Try.ntmps116
  go_wp2_with fail
  go_loopw [8] (fun i wr => ∃ k : Nat, k ≤ l.length ∧ i = .int .i64 k ∧ RunHas S0 w0 m a r (.blk g (i64s l).toArray :: rs) (s.noted (l.take k)) wr) (fun i _ => l.length - (intOf i).toNat)
  case atStart => exact ⟨0, Nat.zero_le _, rfl, HH.out⟩
  case round =>
    obtain ⟨k, hk, rfl, hH⟩ := hrel
    have HK := Lib.hid hH
    clear hH
    by_cases hlt : k < l.length
    · obtain ⟨b, off, hb, hbl, hcell⟩ := i64s_at (rd_blk HK.out.first) hlt
      simp only [Option.some.injEq, Addr.mk.injEq] at hb
      obtain ⟨rfl, rfl, _⟩ := hb
      obtain ⟨x, hx⟩ : ∃ x, l.getD k 0 = x := ⟨_, rfl⟩
      rw [hx, Nat.zero_add] at hcell
      have HX := Lib.hid hx
      clear hx
      have hi : (k : Int) < (l.length : Int) := by omega
      go_wp2_with fail
      refine (run_note HK.out (by rw [noted_notes]; have := HC.out; simp only [List.length_take]; omega) x 0).mono ?_
      rintro e w1 ⟨rfl, H1⟩
      go_wp2
      go_roundw
      case rel => exact ⟨k + 1, by omega, by go_num, by rw [noted_succ s l k hlt, HX.out]; exact H1⟩
      case measure => simp [intOf]; omega
    · have hkn : k = l.length := by omega
      subst hkn
      have hi : (l.length : Int) ≤ (l.length : Int) := Int.le_refl _
      have H2 := HK.out
      rw [List.take_length] at H2
      clear HK hlt hk
      go_wp2_with fail
      go_end0
      exact ⟨rfl, H2⟩

theorem mx_keeps {m r b : Nat} {nv : Value} {s : Rn} (v : Int) (w : World) (hv : 0 ≤ v ∧ v < 4294967296) (hr : Blk w r (rcells m s nv)) (hb : Blk w b #[.pointer (some ⟨r, 4, none⟩)]) :
    Calls Try.prog 117 #[.int .u32 v, .pointer (some ⟨b, 0, none⟩)] w fun e w' => e = .returned (.bool (v != 0)) ∧ Touch [r] w w' ∧ Blk w' r (rcells m (if v != 0 then s.setA v else s) nv) := by
  obtain ⟨n, mode, task, ⟨op, line, fa, fb, st, ⟨on, wc, wi, hit⟩, ret⟩, ⟨ak, ac, ax, ay, ao⟩, notes, L⟩ := s
  obtain ⟨x0, x1, x2⟩ := hb.own
  cases hcm : v != 0 with
  | true =>
    simp only [rcells, if_true, Rn.setA] at hr ⊢
    obtain ⟨y0, y1, y2⟩ := hr.own
    have HR := Lib.hid hr
    clear hr
    go_enter Try.func117, Try.ntmps117
    go_wp2
    go_ret
    refine ⟨rfl, (Touch.refl _ _).set (by simp) _, ?_⟩
    have := HR.out.set 6 (.int .u32 v)
    simp only [List.setIfInBounds_toArray, List.set_cons_zero, List.set_cons_succ] at this
    exact this
  | false =>
    simp only [rcells, Bool.false_eq_true, if_false] at hr ⊢
    have HR := Lib.hid hr
    clear hr
    go_enter Try.func117, Try.ntmps117
    go_wp2
    go_ret
    exact ⟨rfl, Touch.refl _ _, HR.out⟩

end Go.Proofs.Ytbcppehpfckgoaa.Z

/- Package mutex: the lines of who enters, of who tries. Written by genmx.py. -/
set_option linter.unusedVariables false
set_option linter.unusedSimpArgs false
namespace Go.Proofs.Ytbcppehpfckgoaa.Z
open Go.RowKit

attribute [local go_sem ↓] Go.wp_at_zero Go.wp_at_succ

def mxE0 (s : Rn) : Rn := (s.did (doA s.L ⟨2, cellP s.n 0 s.task, 0, 0, 0⟩)).goto 1
set_option maxHeartbeats 800000 in
theorem mx_e0 {S0 : List Nat} {w0 w : World} {m a r : Nat} {rs : List Res} {s : Rn} (H : RunHas S0 w0 m a r rs s w) (tail cls : Int) (hl : s.f.line = 0) (hn : I64 s.n) :
    Calls Try.prog 73 #[.pointer (some ⟨r, 0, none⟩), .int .i64 tail, .int .i64 cls] w fun e w' => e = .returned (.bool false) ∧ RunHas S0 w0 m a r rs (mxE0 s) w' := by
  obtain ⟨o, hop⟩ : ∃ o, s.f.op = o := ⟨_, rfl⟩
  obtain ⟨z0, z2, z4, z5, z6, z7⟩ := H.facts rfl hl rfl rfl
  obtain ⟨y1, y2, y3⟩ := H.whose rfl rfl rfl
  have HN := Lib.hid hn
  have HH := Lib.hid H
  have HNX := Lib.hid (fun W => mapNext s.n s.task W hn)
  have HST := Lib.hid (fun W (H : RunHas S0 w0 m a r rs s W) => rn_store H (cellP s.n 0 s.task) 0 (by decide))
  clear H hn
  unfold mxE0
  go_enter Try.func73, Try.ntmps73
  go_wp2_with fail
  go_region_held3 (fun w' => w'.cell? ⟨r, 1, none⟩ = some (.int .i64 s.n) ∧ w'.cell? ⟨r, 3, none⟩ = some (.int .i64 s.task) ∧ w'.cell? ⟨r, 6, none⟩ = some (.int .u32 s.f.a))
    (first | with_reducible exact RunHas.sees HH.out | with_reducible exact RunHas.sees HH.out.drew | (refine RunHas.sees (S0 := S0) (w0 := w0) (m := m) (a := a) (rs := rs) (s := s) ?_; with_reducible assumption) | (refine RunHas.sees_did (S0 := S0) (w0 := w0) (m := m) (a := a) (rs := rs) (s := s) (R := doA s.L ⟨2, cellP s.n 0 s.task, 0, 0, 0⟩) ?_; with_reducible assumption) | (refine RunHas.sees_wtd (S0 := S0) (w0 := w0) (m := m) (a := a) (rs := rs) (s := s) (R := doA s.L ⟨2, cellP s.n 0 s.task, 0, 0, 0⟩) ?_; with_reducible assumption))
    (first | (go_at_call 107; refine (HNX.out _).mono ?_; rintro e w1 ⟨rfl, t1⟩; have H1 := RunHas.grow (by first | with_reducible exact HH.out | with_reducible exact HH.out.drew) t1) | (go_at_call 106; (with_reducible refine (HST.out _ H1).mono ?_); rintro e w2 ⟨rfl, H2⟩))
  go_wp2_with fail
  refine (rn_go H2 1).mono ?_
  rintro e w3 ⟨rfl, H3⟩
  go_wp2_with fail
  go_ret
  exact ⟨rfl, H3⟩

def mxE1 (s : Rn) : Rn := (s.did (doA s.L ⟨2, cellP s.n 1 s.task, 1, 0, 0⟩)).goto 2
set_option maxHeartbeats 800000 in
theorem mx_e1 {S0 : List Nat} {w0 w : World} {m a r : Nat} {rs : List Res} {s : Rn} (H : RunHas S0 w0 m a r rs s w) (tail cls : Int) (hl : s.f.line = 1) (hn : I64 s.n) :
    Calls Try.prog 73 #[.pointer (some ⟨r, 0, none⟩), .int .i64 tail, .int .i64 cls] w fun e w' => e = .returned (.bool false) ∧ RunHas S0 w0 m a r rs (mxE1 s) w' := by
  obtain ⟨o, hop⟩ : ∃ o, s.f.op = o := ⟨_, rfl⟩
  obtain ⟨z0, z2, z4, z5, z6, z7⟩ := H.facts rfl hl rfl rfl
  obtain ⟨y1, y2, y3⟩ := H.whose rfl rfl rfl
  have HN := Lib.hid hn
  have HH := Lib.hid H
  have HNX := Lib.hid (fun W => mapBlocked s.n s.task W hn)
  have HST := Lib.hid (fun W (H : RunHas S0 w0 m a r rs s W) => rn_store H (cellP s.n 1 s.task) 1 (by decide))
  clear H hn
  unfold mxE1
  go_enter Try.func73, Try.ntmps73
  go_wp2_with fail
  go_region_held3 (fun w' => w'.cell? ⟨r, 1, none⟩ = some (.int .i64 s.n) ∧ w'.cell? ⟨r, 3, none⟩ = some (.int .i64 s.task) ∧ w'.cell? ⟨r, 6, none⟩ = some (.int .u32 s.f.a))
    (first | with_reducible exact RunHas.sees HH.out | with_reducible exact RunHas.sees HH.out.drew | (refine RunHas.sees (S0 := S0) (w0 := w0) (m := m) (a := a) (rs := rs) (s := s) ?_; with_reducible assumption) | (refine RunHas.sees_did (S0 := S0) (w0 := w0) (m := m) (a := a) (rs := rs) (s := s) (R := doA s.L ⟨2, cellP s.n 1 s.task, 1, 0, 0⟩) ?_; with_reducible assumption) | (refine RunHas.sees_wtd (S0 := S0) (w0 := w0) (m := m) (a := a) (rs := rs) (s := s) (R := doA s.L ⟨2, cellP s.n 1 s.task, 1, 0, 0⟩) ?_; with_reducible assumption))
    (first | (go_at_call 108; refine (HNX.out _).mono ?_; rintro e w1 ⟨rfl, t1⟩; have H1 := RunHas.grow (by first | with_reducible exact HH.out | with_reducible exact HH.out.drew) t1) | (go_at_call 106; (with_reducible refine (HST.out _ H1).mono ?_); rintro e w2 ⟨rfl, H2⟩))
  go_wp2_with fail
  refine (rn_go H2 2).mono ?_
  rintro e w3 ⟨rfl, H3⟩
  go_wp2_with fail
  go_ret
  exact ⟨rfl, H3⟩

def mxE2 (tail cls : Int) (s : Rn) : Bool × Rn :=
  let s1 := ((s.did (doA s.L ⟨4, tail, mxOwn s, 0, 0⟩)).setA (doA s.L ⟨4, tail, mxOwn s, 0, 0⟩).1.old).note 2 cls
  if (doA s.L ⟨4, tail, mxOwn s, 0, 0⟩).1.old = 0 then (true, s1) else (false, s1.goto 3)
set_option maxHeartbeats 800000 in
theorem mx_e2 {S0 : List Nat} {w0 w : World} {m a r : Nat} {rs : List Res} {s : Rn} (H : RunHas S0 w0 m a r rs s w) (tail cls : Int) (hc : s.notes.length ≤ 900) (hl : s.f.line = 2) (hn : I64 s.n) :
    Calls Try.prog 73 #[.pointer (some ⟨r, 0, none⟩), .int .i64 tail, .int .i64 cls] w fun e w' => e = .returned (.bool (mxE2 tail cls s).1) ∧ RunHas S0 w0 m a r rs (mxE2 tail cls s).2 w' := by
  obtain ⟨o, hop⟩ : ∃ o, s.f.op = o := ⟨_, rfl⟩
  obtain ⟨z0, z2, z4, z5, z6, z7⟩ := H.facts rfl hl rfl rfl
  obtain ⟨y1, y2, y3⟩ := H.whose rfl rfl rfl
  have HN := Lib.hid hn
  have HH := Lib.hid H
  have HC := Lib.hid hc
  clear H hn hc
  unfold mxE2
  (try dsimp only)
  by_cases hq : (doA s.L ⟨4, tail, mxOwn s, 0, 0⟩).1.old = 0
  · simp only [if_pos hq]
    have hz : ((doA s.L ⟨4, tail, mxOwn s, 0, 0⟩).1.old == 0) = true := by simpa using hq
    clear hq
    go_enter Try.func73, Try.ntmps73
    go_wp2_with fail
    refine (mx_own HH.out).mono ?_
    rintro e w9 ⟨rfl, rfl⟩
    go_wp2_with fail
    refine (rn_swap HH.out tail (mxOwn s) (mxOwn_word s)).mono ?_
    rintro e w1 ⟨rfl, H1⟩
    obtain ⟨x0, x2, x4, x5, x6, x7⟩ := H1.facts hop hl rfl rfl
    go_wp2_with fail
    refine (run_note (H1.setA (doA s.L ⟨4, tail, mxOwn s, 0, 0⟩).1.old) (by have := HC.out; first | exact Nat.le_trans this (by decide) | (simp [Rn.note, Rn.did, Rn.setA, Rn.setB, Rn.waited, Rn.goto, Rn.noted]; omega)) 2 cls).mono ?_
    rintro e w2 ⟨rfl, H2⟩
    obtain ⟨x0, x2, x4, x5, x6, x7⟩ := H2.facts hop hl (x := (doA s.L ⟨4, tail, mxOwn s, 0, 0⟩).1.old) rfl rfl
    go_wp2_with fail
    go_ret
    exact ⟨rfl, H2⟩
  · simp only [if_neg hq]
    have hz : ((doA s.L ⟨4, tail, mxOwn s, 0, 0⟩).1.old == 0) = false := by simpa using hq
    clear hq
    go_enter Try.func73, Try.ntmps73
    go_wp2_with fail
    refine (mx_own HH.out).mono ?_
    rintro e w9 ⟨rfl, rfl⟩
    go_wp2_with fail
    refine (rn_swap HH.out tail (mxOwn s) (mxOwn_word s)).mono ?_
    rintro e w1 ⟨rfl, H1⟩
    obtain ⟨x0, x2, x4, x5, x6, x7⟩ := H1.facts hop hl rfl rfl
    go_wp2_with fail
    refine (run_note (H1.setA (doA s.L ⟨4, tail, mxOwn s, 0, 0⟩).1.old) (by have := HC.out; first | exact Nat.le_trans this (by decide) | (simp [Rn.note, Rn.did, Rn.setA, Rn.setB, Rn.waited, Rn.goto, Rn.noted]; omega)) 2 cls).mono ?_
    rintro e w2 ⟨rfl, H2⟩
    obtain ⟨x0, x2, x4, x5, x6, x7⟩ := H2.facts hop hl (x := (doA s.L ⟨4, tail, mxOwn s, 0, 0⟩).1.old) rfl rfl
    go_wp2_with fail
    refine (rn_go H2 3).mono ?_
    rintro e w3 ⟨rfl, H3⟩
    go_wp2_with fail
    go_ret
    exact ⟨rfl, H3⟩

def mxE3 (s : Rn) : Rn := ((s.did (doA s.L ⟨2, (cellP s.n 0 (s.f.a - 1)), mxOwn s, 0, 0⟩)).wake (cellP s.n 0 (s.f.a - 1))).goto 4
set_option maxHeartbeats 800000 in
theorem mx_e3 {S0 : List Nat} {w0 w : World} {m a r : Nat} {rs : List Res} {s : Rn} (H : RunHas S0 w0 m a r rs s w) (tail cls : Int) (ha : 0 ≤ s.f.a ∧ s.f.a < 4294967296) (hl : s.f.line = 3) (hn : I64 s.n) :
    Calls Try.prog 73 #[.pointer (some ⟨r, 0, none⟩), .int .i64 tail, .int .i64 cls] w fun e w' => e = .returned (.bool false) ∧ RunHas S0 w0 m a r rs (mxE3 s) w' := by
  obtain ⟨o, hop⟩ : ∃ o, s.f.op = o := ⟨_, rfl⟩
  obtain ⟨z0, z2, z4, z5, z6, z7⟩ := H.facts rfl hl rfl rfl
  obtain ⟨y1, y2, y3⟩ := H.whose rfl rfl rfl
  have HN := Lib.hid hn
  have HH := Lib.hid H
  have HA := Lib.hid ha
  have HNX := Lib.hid (fun W => mapNext s.n (s.f.a - 1) W hn)
  clear H hn ha
  unfold mxE3
  go_enter Try.func73, Try.ntmps73
  go_wp2_with fail
  go_region_held3 (fun w' => w'.cell? ⟨r, 1, none⟩ = some (.int .i64 s.n) ∧ w'.cell? ⟨r, 3, none⟩ = some (.int .i64 s.task) ∧ w'.cell? ⟨r, 6, none⟩ = some (.int .u32 s.f.a))
    (first | with_reducible exact RunHas.sees HH.out | with_reducible exact RunHas.sees HH.out.drew | (refine RunHas.sees (S0 := S0) (w0 := w0) (m := m) (a := a) (rs := rs) (s := s) ?_; with_reducible assumption) | (refine RunHas.sees_did (S0 := S0) (w0 := w0) (m := m) (a := a) (rs := rs) (s := s) (R := X) ?_; with_reducible assumption) | (refine RunHas.sees_wtd (S0 := S0) (w0 := w0) (m := m) (a := a) (rs := rs) (s := s) (R := X) ?_; with_reducible assumption))
    (first | (go_at_call 111; refine (mx_other _ _ HA.out).mono ?_; rintro e w9 ⟨rfl, rfl⟩) | (go_at_call 107; refine (HNX.out _).mono ?_; rintro e w1 ⟨rfl, t1⟩; have H1 := RunHas.grow (by first | with_reducible exact HH.out | with_reducible exact HH.out.drew) t1))
  obtain ⟨x0, x2, x4, x5, x6, x7⟩ := H1.facts hop hl rfl rfl
  obtain ⟨v1, v2, v3⟩ := H1.whose rfl rfl rfl
  go_wp2_with fail
  refine (mx_own H1).mono ?_
  rintro e w9 ⟨rfl, rfl⟩
  go_wp2_with fail
  refine (rn_store H1 (cellP s.n 0 (s.f.a - 1)) (mxOwn s) (mxOwn_word s)).mono ?_
  rintro e w2 ⟨rfl, H2⟩
  go_wp2_with fail
  refine (rn_wake H2 (cellP s.n 0 (s.f.a - 1))).mono ?_
  rintro e w3 ⟨rfl, H3⟩
  go_wp2_with fail
  refine (rn_go H3 4).mono ?_
  rintro e w4 ⟨rfl, H4⟩
  go_wp2_with fail
  go_ret
  exact ⟨rfl, H4⟩

def mxE4 (s : Rn) : Bool × Rn := ((waitA s.L s.n s.mode s.task s.f.st (cellP s.n 1 s.task) (fun v => v == 0)).done, s.waited (waitA s.L s.n s.mode s.task s.f.st (cellP s.n 1 s.task) (fun v => v == 0)))
set_option maxHeartbeats 800000 in
theorem mx_e4 {S0 : List Nat} {w0 w : World} {m a r : Nat} {rs : List Res} {s : Rn} (H : RunHas S0 w0 m a r rs s w) (tail cls : Int) (hl : s.f.line = 4) (hn : I64 s.n) :
    Calls Try.prog 73 #[.pointer (some ⟨r, 0, none⟩), .int .i64 tail, .int .i64 cls] w fun e w' => e = .returned (.bool (mxE4 s).1) ∧ RunHas S0 w0 m a r rs (mxE4 s).2 w' := by
  obtain ⟨o, hop⟩ : ∃ o, s.f.op = o := ⟨_, rfl⟩
  obtain ⟨z0, z2, z4, z5, z6, z7⟩ := H.facts rfl hl rfl rfl
  obtain ⟨y1, y2, y3⟩ := H.whose rfl rfl rfl
  have HN := Lib.hid hn
  have HH := Lib.hid H
  have HNX := Lib.hid (fun W => mapBlocked s.n s.task W hn)
  have HWT := Lib.hid (fun W (H : RunHas S0 w0 m a r rs s W) => rn_wait H hn (cellP s.n 1 s.task) 112 #[] #[] (fun v => v == 0) (enters_of Try.func112 (by kernel_rfl) rfl) (fun W v h0 h1 H => mx_free v W ⟨h0, h1⟩))
  clear H hn
  unfold mxE4
  (try dsimp only)
  go_enter Try.func73, Try.ntmps73
  go_wp2_with fail
  go_region_held3 (fun w' => w'.cell? ⟨r, 1, none⟩ = some (.int .i64 s.n) ∧ w'.cell? ⟨r, 3, none⟩ = some (.int .i64 s.task) ∧ w'.cell? ⟨r, 6, none⟩ = some (.int .u32 s.f.a))
    (first | with_reducible exact RunHas.sees HH.out | with_reducible exact RunHas.sees HH.out.drew | (refine RunHas.sees (S0 := S0) (w0 := w0) (m := m) (a := a) (rs := rs) (s := s) ?_; with_reducible assumption) | (refine RunHas.sees_did (S0 := S0) (w0 := w0) (m := m) (a := a) (rs := rs) (s := s) (R := (waitA s.L s.n s.mode s.task s.f.st (cellP s.n 1 s.task) (fun v => v == 0))) ?_; with_reducible assumption) | (refine RunHas.sees_wtd (S0 := S0) (w0 := w0) (m := m) (a := a) (rs := rs) (s := s) (R := (waitA s.L s.n s.mode s.task s.f.st (cellP s.n 1 s.task) (fun v => v == 0))) ?_; with_reducible assumption))
    (first | (go_at_call 108; refine (HNX.out _).mono ?_; rintro e w1 ⟨rfl, t1⟩; have H1 := RunHas.grow (by first | with_reducible exact HH.out | with_reducible exact HH.out.drew) t1) | (go_at_call 79; (with_reducible refine (HWT.out _ H1).mono ?_); rintro e w2 ⟨rfl, H2⟩))
  go_wp2_with fail
  go_ret
  exact ⟨rfl, H2⟩

theorem mx_enone {S0 : List Nat} {w0 w : World} {m a r : Nat} {rs : List Res} {s : Rn} (H : RunHas S0 w0 m a r rs s w) (tail cls : Int) {l : Int} (hl : s.f.line = l) (h0 : ¬ l = 0) (h1 : ¬ l = 1) (h2 : ¬ l = 2) (h3 : ¬ l = 3) (h4 : ¬ l = 4) :
    Calls Try.prog 73 #[.pointer (some ⟨r, 0, none⟩), .int .i64 tail, .int .i64 cls] w fun e w' => e = .returned (.bool false) ∧ RunHas S0 w0 m a r rs s w' := by
  obtain ⟨z0, z2, z4, z5, z6, z7⟩ := H.facts rfl hl rfl rfl
  have HH := Lib.hid H
  clear H
  go_enter Try.func73, Try.ntmps73
  go_wp2_with fail
  go_ret
  exact ⟨rfl, HH.out⟩

def mxT0 (s : Rn) : Rn := mxE0 s
set_option maxHeartbeats 800000 in
theorem mx_t0 {S0 : List Nat} {w0 w : World} {m a r : Nat} {rs : List Res} {s : Rn} (H : RunHas S0 w0 m a r rs s w) (tail : Int) {l : Int} (hsub : wrap64 l = 0) (hl : s.f.line = l) (hn : I64 s.n) :
    Calls Try.prog 76 #[.pointer (some ⟨r, 0, none⟩), .int .i64 tail, .int .i64 0] w fun e w' => e = .returned (.tuple #[.bool false, .bool false]) ∧ RunHas S0 w0 m a r rs (mxE0 s) w' := by
  obtain ⟨o, hop⟩ : ∃ o, s.f.op = o := ⟨_, rfl⟩
  obtain ⟨z0, z2, z4, z5, z6, z7⟩ := H.facts rfl hl rfl rfl
  obtain ⟨y1, y2, y3⟩ := H.whose rfl rfl rfl
  have HN := Lib.hid hn
  have HH := Lib.hid H
  have HNX := Lib.hid (fun W => mapNext s.n s.task W hn)
  have HST := Lib.hid (fun W (H : RunHas S0 w0 m a r rs s W) => rn_store H (cellP s.n 0 s.task) 0 (by decide))
  clear H hn
  unfold mxE0
  go_enter Try.func76, Try.ntmps76
  go_wp2_with fail
  go_region_held3 (fun w' => w'.cell? ⟨r, 1, none⟩ = some (.int .i64 s.n) ∧ w'.cell? ⟨r, 3, none⟩ = some (.int .i64 s.task) ∧ w'.cell? ⟨r, 6, none⟩ = some (.int .u32 s.f.a))
    (first | with_reducible exact RunHas.sees HH.out | with_reducible exact RunHas.sees HH.out.drew | (refine RunHas.sees (S0 := S0) (w0 := w0) (m := m) (a := a) (rs := rs) (s := s) ?_; with_reducible assumption) | (refine RunHas.sees_did (S0 := S0) (w0 := w0) (m := m) (a := a) (rs := rs) (s := s) (R := doA s.L ⟨2, cellP s.n 0 s.task, 0, 0, 0⟩) ?_; with_reducible assumption) | (refine RunHas.sees_wtd (S0 := S0) (w0 := w0) (m := m) (a := a) (rs := rs) (s := s) (R := doA s.L ⟨2, cellP s.n 0 s.task, 0, 0, 0⟩) ?_; with_reducible assumption))
    (first | (go_at_call 107; refine (HNX.out _).mono ?_; rintro e w1 ⟨rfl, t1⟩; have H1 := RunHas.grow (by first | with_reducible exact HH.out | with_reducible exact HH.out.drew) t1) | (go_at_call 106; (with_reducible refine (HST.out _ H1).mono ?_); rintro e w2 ⟨rfl, H2⟩))
  go_wp2_with fail
  refine (rn_go H2 1).mono ?_
  rintro e w3 ⟨rfl, H3⟩
  go_wp2_with fail
  refine bodyPost_ret (v := .tuple #[.bool false, .bool false]) (by simp [results, Try.results76, go_sem]) rfl ⟨rfl, ?_⟩
  exact H3

def mxT1 (s : Rn) : Rn := s
set_option maxHeartbeats 800000 in
theorem mx_t1 {S0 : List Nat} {w0 w : World} {m a r : Nat} {rs : List Res} {s : Rn} (H : RunHas S0 w0 m a r rs s w) (tail : Int) {l : Int} (hsub : wrap64 l = 1) (hl : s.f.line = l) (hn : I64 s.n) :
    Calls Try.prog 76 #[.pointer (some ⟨r, 0, none⟩), .int .i64 tail, .int .i64 0] w fun e w' => e = .returned (.tuple #[.bool true, .bool (casB s.L tail 0 (mxOwn s))]) ∧ RunHas S0 w0 m a r rs (s.did (doA s.L ⟨5, tail, 0, mxOwn s, 0⟩)) w' := by
  obtain ⟨o, hop⟩ : ∃ o, s.f.op = o := ⟨_, rfl⟩
  obtain ⟨z0, z2, z4, z5, z6, z7⟩ := H.facts rfl hl rfl rfl
  obtain ⟨y1, y2, y3⟩ := H.whose rfl rfl rfl
  have HN := Lib.hid hn
  have HH := Lib.hid H
  clear H hn
  go_enter Try.func76, Try.ntmps76
  go_wp2_with fail
  refine (mx_own HH.out).mono ?_
  rintro e w9 ⟨rfl, rfl⟩
  go_wp2_with fail
  refine (rn_cas HH.out tail 0 (mxOwn s) (by decide) (mxOwn_word s)).mono ?_
  rintro e w1 ⟨rfl, H1⟩
  go_wp2_with fail
  refine bodyPost_ret (v := .tuple #[.bool true, .bool (casB s.L tail 0 (mxOwn s))]) (by simp [results, Try.results76, go_sem]) rfl ⟨rfl, ?_⟩
  exact H1

theorem mx_tnone {S0 : List Nat} {w0 w : World} {m a r : Nat} {rs : List Res} {s : Rn} (H : RunHas S0 w0 m a r rs s w) (tail : Int) {l : Int} (hl : s.f.line = l) (h0 : ¬ wrap64 l = 0) (h1 : ¬ wrap64 l = 1) :
    Calls Try.prog 76 #[.pointer (some ⟨r, 0, none⟩), .int .i64 tail, .int .i64 0] w fun e w' => e = .returned (.tuple #[.bool false, .bool false]) ∧ RunHas S0 w0 m a r rs s w' := by
  obtain ⟨z0, z2, z4, z5, z6, z7⟩ := H.facts rfl hl rfl rfl
  have HH := Lib.hid H
  clear H
  go_enter Try.func76, Try.ntmps76
  go_wp2_with fail
  refine bodyPost_ret (v := .tuple #[.bool false, .bool false]) (by simp [results, Try.results76, go_sem]) rfl ⟨rfl, ?_⟩
  exact HH.out

/-- A line of who enters. -/
def mxEnter (tail cls : Int) (s : Rn) : Bool × Rn :=
  if s.f.line = 0 then (false, mxE0 s) else if s.f.line = 1 then (false, mxE1 s) else if s.f.line = 2 then mxE2 tail cls s else if s.f.line = 3 then (false, mxE3 s) else if s.f.line = 4 then mxE4 s else (false, s)
theorem mx_enter {S0 : List Nat} {w0 w : World} {m a r : Nat} {rs : List Res} {s : Rn} (H : RunHas S0 w0 m a r rs s w) (tail cls : Int) (hn : I64 s.n) (ha : 0 ≤ s.f.a ∧ s.f.a < 4294967296) (hc : s.notes.length ≤ 900) :
    Calls Try.prog 73 #[.pointer (some ⟨r, 0, none⟩), .int .i64 tail, .int .i64 cls] w fun e w' => e = .returned (.bool (mxEnter tail cls s).1) ∧ RunHas S0 w0 m a r rs (mxEnter tail cls s).2 w' := by
  unfold mxEnter
  split
  · exact mx_e0 H tail cls (by assumption) hn
  split
  · exact mx_e1 H tail cls (by assumption) hn
  split
  · exact mx_e2 H tail cls hc (by assumption) hn
  split
  · exact mx_e3 H tail cls ha (by assumption) hn
  split
  · exact mx_e4 H tail cls (by assumption) hn
  · exact mx_enone H tail cls rfl (by assumption) (by assumption) (by assumption) (by assumption) (by assumption)
/-- A line of who tries: done, in. -/
def mxTry (tail : Int) (s : Rn) : Bool × Bool × Rn :=
  if wrap64 s.f.line = 0 then (false, false, mxE0 s) else if wrap64 s.f.line = 1 then (true, casB s.L tail 0 (mxOwn s), s.did (doA s.L ⟨5, tail, 0, mxOwn s, 0⟩)) else (false, false, s)
theorem mx_try {S0 : List Nat} {w0 w : World} {m a r : Nat} {rs : List Res} {s : Rn} (H : RunHas S0 w0 m a r rs s w) (tail : Int) (hn : I64 s.n) :
    Calls Try.prog 76 #[.pointer (some ⟨r, 0, none⟩), .int .i64 tail, .int .i64 0] w fun e w' => e = .returned (.tuple #[.bool (mxTry tail s).1, .bool (mxTry tail s).2.1]) ∧ RunHas S0 w0 m a r rs (mxTry tail s).2.2 w' := by
  unfold mxTry
  split
  · exact mx_t0 H tail (by assumption) rfl hn
  split
  · exact mx_t1 H tail (by assumption) rfl hn
  · exact mx_tnone H tail rfl (by assumption) (by assumption)

end Go.Proofs.Ytbcppehpfckgoaa.Z
