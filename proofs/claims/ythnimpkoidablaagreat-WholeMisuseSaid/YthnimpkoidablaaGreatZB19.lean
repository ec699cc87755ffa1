/- 6 texts of this claim, joined: what Package world needs of them. -/
import Derived.Test.YthnimpkoidablaaGreatZB13
import Derived.Test.YthnimpkoidablaaGreatZB07
import Derived.Test.YthnimpkoidablaaGreatZB15
import Derived.Deep.RegionHeld3
import Derived.Deep.DrawnRows
import Derived.Test.YthnimpkoidablaaGreatZB11
set_option linter.unusedVariables false
set_option linter.unusedSimpArgs false
namespace Go.Proofs.YthnimpkoidablaaGreat.Z
open Go.RowKit
attribute [local go_sem ↓] Go.wp_at_zero Go.wp_at_succ
def pfP (b : Int) : Int := 2 + b % 2
theorem and_1 (v : Int) (hv : 0 ≤ v ∧ v < 4294967296) : Go.bits .and .u32 v 1 = v % 2 := by
  obtain ⟨n, rfl⟩ : ∃ n : Nat, v = n := ⟨v.toNat, by omega⟩
  have h := ZB.bits_and n 1 (by omega) (by decide)
  have h2 : n &&& 1 = n / 1 % 2 * 1 := ZB.and_mask n 0 1
  rw [h2] at h
  refine Eq.trans h ?_
  omega
theorem and_3 (v : Int) (hv : 0 ≤ v ∧ v < 4294967296) : Go.bits .and .u32 v 3 = v % 4 := by
  obtain ⟨n, rfl⟩ : ∃ n : Nat, v = n := ⟨v.toNat, by omega⟩
  have h := ZB.bits_and n 3 (by omega) (by decide)
  have h2 : n &&& 3 = n / 1 % 4 * 1 := ZB.and_mask n 0 2
  rw [h2] at h
  refine Eq.trans h ?_
  omega
theorem or_2 (x : Int) (hx : x = 0 ∨ x = 1) : Go.bits .or .u32 2 x = 2 + x := by
  rcases hx with rfl | rfl <;> decide +kernel
theorem pf_presence (b : Int) (w : World) (hb : 0 ≤ b ∧ b < 4294967296) : Calls Tryz.prog 94 #[.int .u32 b] w fun e w' => e = .returned (.int .u32 (pfP b)) ∧ w = w' := by
  have h1 := and_1 b hb
  have h2 := or_2 (b % 2) (by omega)
  have H1 := Lib.hid h1
  have H2 := Lib.hid h2
  clear h1 h2
  go_enter Tryz.func94, Tryz.ntmps94
  go_wp2
  go_ret
  refine ⟨?_, rfl⟩
  show Ending.returned (Value.int .u32 _) = Ending.returned (Value.int .u32 _)
  unfold pfP
  rw [H1.out, H2.out]
theorem pf_mine (x v : Int) {b : Nat} (w : World) (hb : Blk w b #[.int .u32 x]) :
    Calls Tryz.prog 95 #[.int .u32 v, .pointer (some ⟨b, 0, none⟩)] w fun e w' => e = .returned (.bool (v == x)) ∧ Touch [] w w' := by
  obtain ⟨x0, x1, x2⟩ := hb.own
  go_enter Tryz.func95, Tryz.ntmps95
  go_wp2
  go_ret
  exact ⟨rfl, Touch.refl _ _⟩
theorem pf_mine2 (x v : Int) {b : Nat} (w : World) (hb : Blk w b #[.int .u32 x]) :
    Calls Tryz.prog 185 #[.int .u32 v, .pointer (some ⟨b, 0, none⟩)] w fun e w' => e = .returned (.bool (v == x)) ∧ Touch [] w w' := by
  obtain ⟨x0, x1, x2⟩ := hb.own
  go_enter Tryz.func185, Tryz.ntmps185
  go_wp2
  go_ret
  exact ⟨rfl, Touch.refl _ _⟩
theorem pf_other (x v : Int) {b : Nat} (w : World) (hv : 0 ≤ v ∧ v < 4294967296) (hb : Blk w b #[.int .u32 x]) :
    Calls Tryz.prog 136 #[.int .u32 v, .pointer (some ⟨b, 0, none⟩)] w fun e w' => e = .returned (.bool (v % 4 != x)) ∧ Touch [] w w' := by
  obtain ⟨x0, x1, x2⟩ := hb.own
  have h3 := and_3 v hv
  have H3 := Lib.hid h3
  clear h3
  go_enter Tryz.func136, Tryz.ntmps136
  go_wp2
  go_ret
  refine ⟨?_, Touch.refl _ _⟩
  show Ending.returned (Value.bool _) = Ending.returned (Value.bool _)
  rw [H3.out]
theorem pf_own_up {S0 : List Nat} {w0 w : World} {m a r : Nat} {rs : List Res} {s : Rn} (H : RunHas S0 w0 m a r rs s w) {l : Int} (hop : s.f.op = 7) (hl : s.f.line = l) : Calls Tryz.prog 184 #[.pointer (some ⟨r, 0, none⟩)] w fun e w' => e = .returned (.int .u32 256) ∧ w = w' := by
  obtain ⟨x0, x2, x4, x5, x6, x7⟩ := H.facts hop hl rfl rfl
  go_enter Tryz.func184, Tryz.ntmps184
  go_wp2
  go_ret
  exact ⟨rfl, rfl⟩
theorem pf_own_no {S0 : List Nat} {w0 w : World} {m a r : Nat} {rs : List Res} {s : Rn} (H : RunHas S0 w0 m a r rs s w) {l : Int} (hop : s.f.op = 6) (hl : s.f.line = l) : Calls Tryz.prog 184 #[.pointer (some ⟨r, 0, none⟩)] w fun e w' => e = .returned (.int .u32 0) ∧ w = w' := by
  obtain ⟨x0, x2, x4, x5, x6, x7⟩ := H.facts hop hl rfl rfl
  go_enter Tryz.func184, Tryz.ntmps184
  go_wp2
  go_ret
  exact ⟨rfl, rfl⟩
def pfR10 (s : Rn) : Rn :=
  let s1 := ((s.did (doA s.L ⟨3, 0, 256, 0, 0⟩)).setA (doA s.L ⟨3, 0, 256, 0, 0⟩).1.old).note 2 1
  if (doA s.L ⟨3, 0, 256, 0, 0⟩).1.old % 4 = 0 then (s1.note 4 0).fin true else s1.goto 1
set_option maxHeartbeats 800000 in
theorem pf_r10 {S0 : List Nat} {w0 w : World} {m a r : Nat} {rs : List Res} {s : Rn} (H : RunHas S0 w0 m a r rs s w) (hop : s.f.op = 1) (hl : s.f.line = 0) (hn : I64 s.n) (ha : 0 ≤ s.f.a ∧ s.f.a < 4294967296) (hc : s.notes.length ≤ 900) :
    Calls Tryz.prog 93 #[.pointer (some ⟨r, 0, none⟩), .int .i64 0, .int .i64 1] w fun e w' => e = .returned (.bool true) ∧ RunHas S0 w0 m a r rs (pfR10 s) w' := by
  obtain ⟨z0, z2, z4, z5, z6, z7⟩ := H.facts hop hl rfl rfl
  have HC := Lib.hid hc
  have HA := Lib.hid ha
  have HN := Lib.hid hn
  have HV := Lib.hid (H.old ⟨3, 0, 256, 0, 0⟩)
  have HH := Lib.hid H
  clear hc H hn ha
  unfold pfR10
  (try dsimp only)
  by_cases hq : (doA s.L ⟨3, 0, 256, 0, 0⟩).1.old % 4 = 0
  · simp only [if_pos hq]
    have HQ := Lib.hid hq
    clear hq
    go_enter Tryz.func93, Tryz.ntmps93
    go_wp2_with fail
    go_quiet (fail)
    have HW := HH.out.drewN nq
    clear z0 z2 z4 z5 z6 z7
    generalize w.drewN nq = W at HW ⊢
    obtain ⟨z0, z2, z4, z5, z6, z7⟩ := HW.facts hop hl rfl rfl
    go_wp2_with fail
    refine (rn_add HW 0 256 (by decide)).mono ?_
    rintro e w1 ⟨rfl, H1⟩
    obtain ⟨x0, x2, x4, x5, x6, x7⟩ := H1.facts hop hl rfl rfl
    go_wp2_with fail
    refine (run_note (H1.setA (doA s.L ⟨3, 0, 256, 0, 0⟩).1.old) (by have := HC.out; first | exact Nat.le_trans this (by decide) | (simp [Rn.note, Rn.did, Rn.setA, Rn.setB, Rn.waited, Rn.goto, Rn.noted]; omega)) 2 1).mono ?_
    rintro e w2 ⟨rfl, H2⟩
    obtain ⟨x0, x2, x4, x5, x6, x7⟩ := H2.facts hop hl (x := (doA s.L ⟨3, 0, 256, 0, 0⟩).1.old) rfl rfl
    have hv := HV.out
    have hbit := and_3 (doA s.L ⟨3, 0, 256, 0, 0⟩).1.old hv
    have hz : (Go.bits .and .u32 (doA s.L ⟨3, 0, 256, 0, 0⟩).1.old 3 == 0) = true := by rw [hbit]; simpa using HQ.out
    clear hv hbit
    go_wp2_with fail
    refine (run_note H2 (by have := HC.out; first | exact Nat.le_trans this (by decide) | (simp [Rn.note, Rn.did, Rn.setA, Rn.setB, Rn.waited, Rn.goto, Rn.noted]; omega)) 4 0).mono ?_
    rintro e w3 ⟨rfl, H3⟩
    go_wp2_with fail
    refine (rn_end H3 true).mono ?_
    rintro e w4 ⟨rfl, H4⟩
    go_wp2_with fail
    go_ret
    exact ⟨rfl, H4⟩
  · simp only [if_neg hq]
    have HQ := Lib.hid hq
    clear hq
    go_enter Tryz.func93, Tryz.ntmps93
    go_wp2_with fail
    go_quiet (fail)
    have HW := HH.out.drewN nq
    clear z0 z2 z4 z5 z6 z7
    generalize w.drewN nq = W at HW ⊢
    obtain ⟨z0, z2, z4, z5, z6, z7⟩ := HW.facts hop hl rfl rfl
    go_wp2_with fail
    refine (rn_add HW 0 256 (by decide)).mono ?_
    rintro e w1 ⟨rfl, H1⟩
    obtain ⟨x0, x2, x4, x5, x6, x7⟩ := H1.facts hop hl rfl rfl
    go_wp2_with fail
    refine (run_note (H1.setA (doA s.L ⟨3, 0, 256, 0, 0⟩).1.old) (by have := HC.out; first | exact Nat.le_trans this (by decide) | (simp [Rn.note, Rn.did, Rn.setA, Rn.setB, Rn.waited, Rn.goto, Rn.noted]; omega)) 2 1).mono ?_
    rintro e w2 ⟨rfl, H2⟩
    obtain ⟨x0, x2, x4, x5, x6, x7⟩ := H2.facts hop hl (x := (doA s.L ⟨3, 0, 256, 0, 0⟩).1.old) rfl rfl
    have hv := HV.out
    have hbit := and_3 (doA s.L ⟨3, 0, 256, 0, 0⟩).1.old hv
    have hz : (Go.bits .and .u32 (doA s.L ⟨3, 0, 256, 0, 0⟩).1.old 3 == 0) = false := by rw [hbit]; simpa using HQ.out
    clear hv hbit
    go_wp2_with fail
    refine (rn_go H2 1).mono ?_
    rintro e w3 ⟨rfl, H3⟩
    go_wp2_with fail
    go_ret
    exact ⟨rfl, H3⟩
def pfR11 (s : Rn) : Rn :=
  let s1 := s.waited (waitA s.L s.n s.mode s.task s.f.st 0 (fun v => v % 4 != s.f.a % 4))
  let s2 := if (waitA s.L s.n s.mode s.task s.f.st 0 (fun v => v % 4 != s.f.a % 4)).seen then s1.note 4 0 else s1
  if (waitA s.L s.n s.mode s.task s.f.st 0 (fun v => v % 4 != s.f.a % 4)).done then s2.fin true else s2
set_option maxHeartbeats 800000 in
theorem pf_r11 {S0 : List Nat} {w0 w : World} {m a r : Nat} {rs : List Res} {s : Rn} (H : RunHas S0 w0 m a r rs s w) (hop : s.f.op = 1) (hl : s.f.line = 1) (hn : I64 s.n) (ha : 0 ≤ s.f.a ∧ s.f.a < 4294967296) (hc : s.notes.length ≤ 900) :
    Calls Tryz.prog 93 #[.pointer (some ⟨r, 0, none⟩), .int .i64 0, .int .i64 1] w fun e w' => e = .returned (.bool true) ∧ RunHas S0 w0 m a r rs (pfR11 s) w' := by
  obtain ⟨z0, z2, z4, z5, z6, z7⟩ := H.facts hop hl rfl rfl
  have HC := Lib.hid hc
  have HA := Lib.hid ha
  have HN := Lib.hid hn
  have HH := Lib.hid H
  clear hc H hn ha
  unfold pfR11
  (try dsimp only)
  have hbit := and_3 s.f.a HA.out
  have HBIT := Lib.hid hbit
  clear hbit
  have hwt := fun (t2 : Nat) W (H : RunHas S0 w0 m a r (.blk t2 #[.int .u32 (s.f.a % 4)] :: rs) s W) => rn_wait H HN.out 0 136 #[] #[.pointer (some ⟨t2, 0, none⟩)] (fun v => v % 4 != s.f.a % 4) (enters_of Tryz.func136 (by kernel_rfl) rfl) (fun W v h0 h1 H => pf_other (s.f.a % 4) v W ⟨h0, h1⟩ H.first)
  cases hs : (waitA s.L s.n s.mode s.task s.f.st 0 (fun v => v % 4 != s.f.a % 4)).seen <;> cases hd : (waitA s.L s.n s.mode s.task s.f.st 0 (fun v => v % 4 != s.f.a % 4)).done <;> rw [hs, hd] at hwt <;> simp only [if_true, Bool.false_eq_true, if_false] <;> (have HWT := Lib.hid hwt) <;> clear hwt hs hd
  · go_enter Tryz.func93, Tryz.ntmps93
    go_wp2_with fail
    go_quiet (fail)
    have HW := HH.out.drewN nq
    clear z0 z2 z4 z5 z6 z7
    generalize w.drewN nq = W at HW ⊢
    obtain ⟨z0, z2, z4, z5, z6, z7⟩ := HW.facts hop hl rfl rfl
    have HW0 := Lib.hid HW
    skip
    go_wp2_with fail
    refine calls_from (Facts := fun V => RunHas S0 w0 m a r (.blk W.heap.size #[.int .u32 (s.f.a % 4)] :: rs) s V) ?_ (by rw [← HBIT.out]; exact HW0.out.box rfl _ _)
    intro W1 HW1
    refine (HWT.out _ _ HW1).mono ?_
    rintro e w1 ⟨rfl, H1⟩
    go_wp2_with fail
    go_ret
    exact ⟨rfl, H1.unbox⟩
  · go_enter Tryz.func93, Tryz.ntmps93
    go_wp2_with fail
    go_quiet (fail)
    have HW := HH.out.drewN nq
    clear z0 z2 z4 z5 z6 z7
    generalize w.drewN nq = W at HW ⊢
    obtain ⟨z0, z2, z4, z5, z6, z7⟩ := HW.facts hop hl rfl rfl
    have HW0 := Lib.hid HW
    skip
    go_wp2_with fail
    refine calls_from (Facts := fun V => RunHas S0 w0 m a r (.blk W.heap.size #[.int .u32 (s.f.a % 4)] :: rs) s V) ?_ (by rw [← HBIT.out]; exact HW0.out.box rfl _ _)
    intro W1 HW1
    refine (HWT.out _ _ HW1).mono ?_
    rintro e w1 ⟨rfl, H1⟩
    go_wp2_with fail
    refine (rn_end H1 true).mono ?_
    rintro e w2 ⟨rfl, H2⟩
    go_wp2_with fail
    go_ret
    exact ⟨rfl, H2.unbox⟩
  · go_enter Tryz.func93, Tryz.ntmps93
    go_wp2_with fail
    go_quiet (fail)
    have HW := HH.out.drewN nq
    clear z0 z2 z4 z5 z6 z7
    generalize w.drewN nq = W at HW ⊢
    obtain ⟨z0, z2, z4, z5, z6, z7⟩ := HW.facts hop hl rfl rfl
    have HW0 := Lib.hid HW
    skip
    go_wp2_with fail
    refine calls_from (Facts := fun V => RunHas S0 w0 m a r (.blk W.heap.size #[.int .u32 (s.f.a % 4)] :: rs) s V) ?_ (by rw [← HBIT.out]; exact HW0.out.box rfl _ _)
    intro W1 HW1
    refine (HWT.out _ _ HW1).mono ?_
    rintro e w1 ⟨rfl, H1⟩
    go_wp2_with fail
    refine (run_note H1 (by have := HC.out; first | exact Nat.le_trans this (by decide) | (simp [Rn.note, Rn.did, Rn.setA, Rn.setB, Rn.waited, Rn.goto, Rn.noted]; omega)) 4 0).mono ?_
    rintro e w2 ⟨rfl, H2⟩
    go_wp2_with fail
    go_ret
    exact ⟨rfl, H2.unbox⟩
  · go_enter Tryz.func93, Tryz.ntmps93
    go_wp2_with fail
    go_quiet (fail)
    have HW := HH.out.drewN nq
    clear z0 z2 z4 z5 z6 z7
    generalize w.drewN nq = W at HW ⊢
    obtain ⟨z0, z2, z4, z5, z6, z7⟩ := HW.facts hop hl rfl rfl
    have HW0 := Lib.hid HW
    skip
    go_wp2_with fail
    refine calls_from (Facts := fun V => RunHas S0 w0 m a r (.blk W.heap.size #[.int .u32 (s.f.a % 4)] :: rs) s V) ?_ (by rw [← HBIT.out]; exact HW0.out.box rfl _ _)
    intro W1 HW1
    refine (HWT.out _ _ HW1).mono ?_
    rintro e w1 ⟨rfl, H1⟩
    go_wp2_with fail
    refine (run_note H1 (by have := HC.out; first | exact Nat.le_trans this (by decide) | (simp [Rn.note, Rn.did, Rn.setA, Rn.setB, Rn.waited, Rn.goto, Rn.noted]; omega)) 4 0).mono ?_
    rintro e w2 ⟨rfl, H2⟩
    go_wp2_with fail
    refine (rn_end H2 true).mono ?_
    rintro e w3 ⟨rfl, H3⟩
    go_wp2_with fail
    go_ret
    exact ⟨rfl, H3.unbox⟩
def pfR20 (s : Rn) : Rn :=
  (((s.did (doA s.L ⟨3, 1, 256, 0, 0⟩)).note 6 0).wake 1).fin true
set_option maxHeartbeats 800000 in
theorem pf_r20 {S0 : List Nat} {w0 w : World} {m a r : Nat} {rs : List Res} {s : Rn} (H : RunHas S0 w0 m a r rs s w) (hop : s.f.op = 2) (hl : s.f.line = 0) (hn : I64 s.n) (ha : 0 ≤ s.f.a ∧ s.f.a < 4294967296) (hc : s.notes.length ≤ 900) :
    Calls Tryz.prog 93 #[.pointer (some ⟨r, 0, none⟩), .int .i64 0, .int .i64 1] w fun e w' => e = .returned (.bool true) ∧ RunHas S0 w0 m a r rs (pfR20 s) w' := by
  obtain ⟨z0, z2, z4, z5, z6, z7⟩ := H.facts hop hl rfl rfl
  have HC := Lib.hid hc
  have HA := Lib.hid ha
  have HN := Lib.hid hn
  have HH := Lib.hid H
  clear hc H hn ha
  unfold pfR20
  (try dsimp only)
  go_enter Tryz.func93, Tryz.ntmps93
  go_wp2_with fail
  go_quiet (fail)
  have HW := HH.out.drewN nq
  clear z0 z2 z4 z5 z6 z7
  generalize w.drewN nq = W at HW ⊢
  obtain ⟨z0, z2, z4, z5, z6, z7⟩ := HW.facts hop hl rfl rfl
  go_wp2_with fail
  refine (rn_add HW 1 256 (by decide)).mono ?_
  rintro e w1 ⟨rfl, H1⟩
  go_wp2_with fail
  refine (run_note H1 (by have := HC.out; first | exact Nat.le_trans this (by decide) | (simp [Rn.note, Rn.did, Rn.setA, Rn.setB, Rn.waited, Rn.goto, Rn.noted]; omega)) 6 0).mono ?_
  rintro e w2 ⟨rfl, H2⟩
  go_wp2_with fail
  refine (rn_wake H2 1).mono ?_
  rintro e w3 ⟨rfl, H3⟩
  go_wp2_with fail
  refine (rn_end H3 true).mono ?_
  rintro e w4 ⟨rfl, H4⟩
  go_wp2_with fail
  go_ret
  exact ⟨rfl, H4⟩
def pfR50 (s : Rn) : Rn :=
  let s1 := (s.did (doA s.L ⟨1, 0, 0, 0, 0⟩)).setA (doA s.L ⟨1, 0, 0, 0, 0⟩).1.old
  if (doA s.L ⟨1, 0, 0, 0, 0⟩).1.old % 4 = 0 then s1.goto 1 else (s1.note 5 0).fin false
set_option maxHeartbeats 800000 in
theorem pf_r50 {S0 : List Nat} {w0 w : World} {m a r : Nat} {rs : List Res} {s : Rn} (H : RunHas S0 w0 m a r rs s w) (hop : s.f.op = 5) (hl : s.f.line = 0) (hn : I64 s.n) (ha : 0 ≤ s.f.a ∧ s.f.a < 4294967296) (hc : s.notes.length ≤ 900) :
    Calls Tryz.prog 93 #[.pointer (some ⟨r, 0, none⟩), .int .i64 0, .int .i64 1] w fun e w' => e = .returned (.bool true) ∧ RunHas S0 w0 m a r rs (pfR50 s) w' := by
  obtain ⟨z0, z2, z4, z5, z6, z7⟩ := H.facts hop hl rfl rfl
  have HC := Lib.hid hc
  have HA := Lib.hid ha
  have HN := Lib.hid hn
  have HV := Lib.hid (H.old ⟨1, 0, 0, 0, 0⟩)
  have HH := Lib.hid H
  clear hc H hn ha
  unfold pfR50
  (try dsimp only)
  by_cases hq : (doA s.L ⟨1, 0, 0, 0, 0⟩).1.old % 4 = 0
  · simp only [if_pos hq]
    have HQ := Lib.hid hq
    clear hq
    go_enter Tryz.func93, Tryz.ntmps93
    go_wp2_with fail
    go_quiet (fail)
    have HW := HH.out.drewN nq
    clear z0 z2 z4 z5 z6 z7
    generalize w.drewN nq = W at HW ⊢
    obtain ⟨z0, z2, z4, z5, z6, z7⟩ := HW.facts hop hl rfl rfl
    go_wp2_with fail
    refine (rn_load HW 0).mono ?_
    rintro e w1 ⟨rfl, H1⟩
    obtain ⟨x0, x2, x4, x5, x6, x7⟩ := H1.facts hop hl rfl rfl
    have hv := HV.out
    have hbit := and_3 (doA s.L ⟨1, 0, 0, 0, 0⟩).1.old hv
    have hz : (Go.bits .and .u32 (doA s.L ⟨1, 0, 0, 0, 0⟩).1.old 3 != 0) = false := by rw [hbit]; simpa using HQ.out
    clear hv hbit
    go_wp2_with fail
    refine (rn_go (H1.setA (doA s.L ⟨1, 0, 0, 0, 0⟩).1.old) 1).mono ?_
    rintro e w2 ⟨rfl, H2⟩
    go_wp2_with fail
    go_ret
    exact ⟨rfl, H2⟩
  · simp only [if_neg hq]
    have HQ := Lib.hid hq
    clear hq
    go_enter Tryz.func93, Tryz.ntmps93
    go_wp2_with fail
    go_quiet (fail)
    have HW := HH.out.drewN nq
    clear z0 z2 z4 z5 z6 z7
    generalize w.drewN nq = W at HW ⊢
    obtain ⟨z0, z2, z4, z5, z6, z7⟩ := HW.facts hop hl rfl rfl
    go_wp2_with fail
    refine (rn_load HW 0).mono ?_
    rintro e w1 ⟨rfl, H1⟩
    obtain ⟨x0, x2, x4, x5, x6, x7⟩ := H1.facts hop hl rfl rfl
    have hv := HV.out
    have hbit := and_3 (doA s.L ⟨1, 0, 0, 0, 0⟩).1.old hv
    have hz : (Go.bits .and .u32 (doA s.L ⟨1, 0, 0, 0, 0⟩).1.old 3 != 0) = true := by rw [hbit]; simpa using HQ.out
    clear hv hbit
    go_wp2_with fail
    refine (run_note (H1.setA (doA s.L ⟨1, 0, 0, 0, 0⟩).1.old) (by have := HC.out; first | exact Nat.le_trans this (by decide) | (simp [Rn.note, Rn.did, Rn.setA, Rn.setB, Rn.waited, Rn.goto, Rn.noted]; omega)) 5 0).mono ?_
    rintro e w2 ⟨rfl, H2⟩
    go_wp2_with fail
    refine (rn_end H2 false).mono ?_
    rintro e w3 ⟨rfl, H3⟩
    go_wp2_with fail
    go_ret
    exact ⟨rfl, H3⟩
def pfR51 (s : Rn) : Rn :=
  if casB s.L 0 s.f.a ((s.f.a + 256) % 4294967296) then (((s.did (doA s.L ⟨5, 0, s.f.a, (s.f.a + 256) % 4294967296, 0⟩)).note 2 1).note 4 0).fin true else (s.did (doA s.L ⟨5, 0, s.f.a, (s.f.a + 256) % 4294967296, 0⟩)).goto 0
set_option maxHeartbeats 800000 in
theorem pf_r51 {S0 : List Nat} {w0 w : World} {m a r : Nat} {rs : List Res} {s : Rn} (H : RunHas S0 w0 m a r rs s w) (hop : s.f.op = 5) (hl : s.f.line = 1) (hn : I64 s.n) (ha : 0 ≤ s.f.a ∧ s.f.a < 4294967296) (hc : s.notes.length ≤ 900) :
    Calls Tryz.prog 93 #[.pointer (some ⟨r, 0, none⟩), .int .i64 0, .int .i64 1] w fun e w' => e = .returned (.bool true) ∧ RunHas S0 w0 m a r rs (pfR51 s) w' := by
  obtain ⟨z0, z2, z4, z5, z6, z7⟩ := H.facts hop hl rfl rfl
  have HC := Lib.hid hc
  have HA := Lib.hid ha
  have HN := Lib.hid hn
  have HH := Lib.hid H
  clear hc H hn ha
  unfold pfR51
  (try dsimp only)
  have hcas := fun W (H : RunHas S0 w0 m a r rs s W) => rn_cas H 0 s.f.a ((s.f.a + 256) % 4294967296) HA.out (by have := HA.out; omega)
  cases hb : casB s.L 0 s.f.a ((s.f.a + 256) % 4294967296) with
  | true =>
    rw [hb] at hcas
    simp only [if_true]
    have HCAS := Lib.hid hcas
    clear hcas hb
    go_enter Tryz.func93, Tryz.ntmps93
    go_wp2_with fail
    go_quiet (fail)
    have HW := HH.out.drewN nq
    clear z0 z2 z4 z5 z6 z7
    generalize w.drewN nq = W at HW ⊢
    obtain ⟨z0, z2, z4, z5, z6, z7⟩ := HW.facts hop hl rfl rfl
    go_wp2_with fail
    refine region_flat (by kernel_rfl) (by kernel_rfl) ?_
    simp only [probed, probes, List.nil_append, List.cons_append, probe]
    go_wp2_with fail
    refine (HCAS.out _ HW.drew).mono ?_
    rintro e w1 ⟨rfl, H1⟩
    go_wp2_with fail
    rw [only_normal]
    rename_i hK
    refine hK _ _ ?_
    clear hK
    go_wp2_with fail
    refine (run_note H1 (by have := HC.out; first | exact Nat.le_trans this (by decide) | (simp [Rn.note, Rn.did, Rn.setA, Rn.setB, Rn.waited, Rn.goto, Rn.noted]; omega)) 2 1).mono ?_
    rintro e w2 ⟨rfl, H2⟩
    go_wp2_with fail
    refine (run_note H2 (by have := HC.out; first | exact Nat.le_trans this (by decide) | (simp [Rn.note, Rn.did, Rn.setA, Rn.setB, Rn.waited, Rn.goto, Rn.noted]; omega)) 4 0).mono ?_
    rintro e w3 ⟨rfl, H3⟩
    go_wp2_with fail
    refine (rn_end H3 true).mono ?_
    rintro e w4 ⟨rfl, H4⟩
    go_wp2_with fail
    go_ret
    exact ⟨rfl, H4⟩
  | false =>
    rw [hb] at hcas
    simp only [Bool.false_eq_true, if_false]
    have HCAS := Lib.hid hcas
    clear hcas hb
    go_enter Tryz.func93, Tryz.ntmps93
    go_wp2_with fail
    go_quiet (fail)
    have HW := HH.out.drewN nq
    clear z0 z2 z4 z5 z6 z7
    generalize w.drewN nq = W at HW ⊢
    obtain ⟨z0, z2, z4, z5, z6, z7⟩ := HW.facts hop hl rfl rfl
    go_wp2_with fail
    refine region_flat (by kernel_rfl) (by kernel_rfl) ?_
    simp only [probed, probes, List.nil_append, List.cons_append, probe]
    go_wp2_with fail
    refine (HCAS.out _ HW.drew).mono ?_
    rintro e w1 ⟨rfl, H1⟩
    go_wp2_with fail
    rw [only_normal]
    rename_i hK
    refine hK _ _ ?_
    clear hK
    go_wp2_with fail
    refine (rn_go H1 0).mono ?_
    rintro e w2 ⟨rfl, H2⟩
    go_wp2_with fail
    go_ret
    exact ⟨rfl, H2⟩
set_option maxHeartbeats 1600000 in
theorem pf_r_none {S0 : List Nat} {w0 w : World} {m a r : Nat} {rs : List Res} {s : Rn} (H : RunHas S0 w0 m a r rs s w) {o l : Int} (hop : s.f.op = o) (hl : s.f.line = l) (h0 : ¬ (o = 1 ∧ l = 0)) (h1 : ¬ (o = 1 ∧ l = 1)) (h2 : ¬ (o = 2 ∧ l = 0)) (h3 : ¬ (o = 5 ∧ l = 0)) (h4 : ¬ (o = 5 ∧ l = 1)) :
    Calls Tryz.prog 93 #[.pointer (some ⟨r, 0, none⟩), .int .i64 0, .int .i64 1] w fun e w' => e = .returned (.bool false) ∧ RunHas S0 w0 m a r rs s w' := by
  obtain ⟨z0, z2, z4, z5, z6, z7⟩ := H.facts hop hl rfl rfl
  have HH := Lib.hid H
  clear H
  go_enter Tryz.func93, Tryz.ntmps93
  go_wp2_with fail
  go_quiet (fail)
  have HW := HH.out.drewN nq
  clear z0 z2 z4 z5 z6 z7
  generalize w.drewN nq = W at HW ⊢
  obtain ⟨z0, z2, z4, z5, z6, z7⟩ := HW.facts hop hl rfl rfl
  go_wp2_with fail
  all_goals
    go_ret
    exact ⟨rfl, HW⟩
end Go.Proofs.YthnimpkoidablaaGreat.Z

set_option linter.unusedVariables false
set_option linter.unusedSimpArgs false
namespace Go.Proofs.YthnimpkoidablaaGreat.Z
open Go.RowKit
attribute [local go_sem ↓] Go.wp_at_zero Go.wp_at_succ
def pf30 (s : Rn) : Rn :=
  (((s.did (doA s.L ⟨3, 2, 1, 0, 0⟩)).setA (doA s.L ⟨3, 2, 1, 0, 0⟩).1.old).note 2 2).goto 1
set_option maxHeartbeats 800000 in
theorem pf_30 {S0 : List Nat} {w0 w : World} {m a r : Nat} {rs : List Res} {s : Rn} (H : RunHas S0 w0 m a r rs s w) (hop : s.f.op = 3) (hl : s.f.line = 0) (hn : I64 s.n) (ha : 0 ≤ s.f.a ∧ s.f.a < 4294967296) (hb : 0 ≤ s.f.b ∧ s.f.b < 4294967296) (hc : s.notes.length ≤ 900) :
    Calls Tryz.prog 68 #[.pointer (some ⟨r, 0, none⟩)] w fun e w' => e = .returned (.tuple #[]) ∧ RunHas S0 w0 m a r rs (pf30 s) w' := by
  obtain ⟨z0, z2, z4, z5, z6, z7⟩ := H.facts hop hl rfl rfl
  have HC := Lib.hid hc
  have HA := Lib.hid ha
  have HBB := Lib.hid hb
  have HN := Lib.hid hn
  have HH := Lib.hid H
  clear hc H hn ha hb
  unfold pf30
  (try dsimp only)
  go_enter Tryz.func68, Tryz.ntmps68
  go_wp2_with fail
  refine (pf_r_none HH.out hop hl (by decide) (by decide) (by decide) (by decide) (by decide)).mono ?_
  rintro e w1 ⟨rfl, H1⟩
  clear z0 z2 z4 z5 z6 z7
  obtain ⟨z0, z2, z4, z5, z6, z7⟩ := H1.facts hop hl rfl rfl
  go_wp2_with fail
  refine region_flat_call 8 rfl (by kernel_rfl) (by kernel_rfl) ?_
  simp only [List.take_succ_cons, List.take_zero, List.drop_succ_cons, List.drop_zero, probed, probes, List.nil_append, List.cons_append, probe]
  go_wp2_with fail
  rw [only_normal]
  refine half_static (.int .u32 (pfP s.f.b)) rfl rfl (enters_of Tryz.func94 (by kernel_rfl) rfl) (by simp [Act.eval]) (fun W _ => pf_presence s.f.b W HBB.out) ?_
  simp only [probed, probes, List.nil_append]
  go_wp2_with fail
  rw [only_normal]
  rename_i hK
  refine hK _ _ ?_
  clear hK
  refine wp_from (Facts := fun V => RunHas S0 w0 m a r (.blk w1.heap.size #[.int .u32 s.f.a] :: rs) s V) ?_ (by first | exact H1.drew.box rfl _ _ | exact (H1.box rfl _ _).drew)
  clear z0 z2 z4 z5 z6 z7 H1
  intro W HW
  generalize w1.heap.size = tb at HW ⊢
  obtain ⟨z0, z2, z4, z5, z6, z7⟩ := HW.facts hop hl rfl rfl
  go_wp2_with fail
  go_quiet (fail)
  have HW2 := HW.drewN nq
  clear z0 z2 z4 z5 z6 z7 HW
  generalize W.drewN nq = W2 at HW2 ⊢
  obtain ⟨z0, z2, z4, z5, z6, z7⟩ := HW2.facts hop hl rfl rfl
  go_wp2_with fail
  refine (rn_add HW2 2 1 (by decide)).mono ?_
  rintro e w1 ⟨rfl, H1⟩
  obtain ⟨x0, x2, x4, x5, x6, x7⟩ := H1.facts hop hl rfl rfl
  go_wp2_with fail
  refine (run_note (H1.setA (doA s.L ⟨3, 2, 1, 0, 0⟩).1.old) (by have := HC.out; first | exact Nat.le_trans this (by decide) | (simp [Rn.note, Rn.did, Rn.setA, Rn.setB, Rn.waited, Rn.goto, Rn.noted]; omega)) 2 2).mono ?_
  rintro e w2 ⟨rfl, H2⟩
  go_wp2_with fail
  refine (rn_go H2 1).mono ?_
  rintro e w3 ⟨rfl, H3⟩
  go_wp2_with fail
  go_end0
  exact ⟨rfl, H3.unbox⟩
def pf31 (s : Rn) : Rn :=
  let s1 := s.waited (waitA s.L s.n s.mode s.task s.f.st 3 (fun v => v == s.f.a))
  if (waitA s.L s.n s.mode s.task s.f.st 3 (fun v => v == s.f.a)).done then s1.goto 2 else s1
set_option maxHeartbeats 800000 in
theorem pf_31 {S0 : List Nat} {w0 w : World} {m a r : Nat} {rs : List Res} {s : Rn} (H : RunHas S0 w0 m a r rs s w) (hop : s.f.op = 3) (hl : s.f.line = 1) (hn : I64 s.n) (ha : 0 ≤ s.f.a ∧ s.f.a < 4294967296) (hb : 0 ≤ s.f.b ∧ s.f.b < 4294967296) (hc : s.notes.length ≤ 900) :
    Calls Tryz.prog 68 #[.pointer (some ⟨r, 0, none⟩)] w fun e w' => e = .returned (.tuple #[]) ∧ RunHas S0 w0 m a r rs (pf31 s) w' := by
  obtain ⟨z0, z2, z4, z5, z6, z7⟩ := H.facts hop hl rfl rfl
  have HC := Lib.hid hc
  have HA := Lib.hid ha
  have HBB := Lib.hid hb
  have HN := Lib.hid hn
  have HH := Lib.hid H
  clear hc H hn ha hb
  unfold pf31
  (try dsimp only)
  have hwt := fun (t2 : Nat) W (H : RunHas S0 w0 m a r (.blk t2 #[.int .u32 s.f.a] :: rs) s W) => rn_wait H HN.out 3 95 #[] #[.pointer (some ⟨t2, 0, none⟩)] (fun v => v == s.f.a) (enters_of Tryz.func95 (by kernel_rfl) rfl) (fun W v h0 h1 H => pf_mine s.f.a v W H.first)
  cases hs : (waitA s.L s.n s.mode s.task s.f.st 3 (fun v => v == s.f.a)).seen <;> cases hd : (waitA s.L s.n s.mode s.task s.f.st 3 (fun v => v == s.f.a)).done <;> rw [hs, hd] at hwt <;> simp only [if_true, Bool.false_eq_true, if_false] <;> (have HWT := Lib.hid hwt) <;> clear hwt hs hd
  · go_enter Tryz.func68, Tryz.ntmps68
    go_wp2_with fail
    refine (pf_r_none HH.out hop hl (by decide) (by decide) (by decide) (by decide) (by decide)).mono ?_
    rintro e w1 ⟨rfl, H1⟩
    clear z0 z2 z4 z5 z6 z7
    obtain ⟨z0, z2, z4, z5, z6, z7⟩ := H1.facts hop hl rfl rfl
    go_wp2_with fail
    refine region_flat_call 8 rfl (by kernel_rfl) (by kernel_rfl) ?_
    simp only [List.take_succ_cons, List.take_zero, List.drop_succ_cons, List.drop_zero, probed, probes, List.nil_append, List.cons_append, probe]
    go_wp2_with fail
    rw [only_normal]
    refine half_static (.int .u32 (pfP s.f.b)) rfl rfl (enters_of Tryz.func94 (by kernel_rfl) rfl) (by simp [Act.eval]) (fun W _ => pf_presence s.f.b W HBB.out) ?_
    simp only [probed, probes, List.nil_append]
    go_wp2_with fail
    rw [only_normal]
    rename_i hK
    refine hK _ _ ?_
    clear hK
    refine wp_from (Facts := fun V => RunHas S0 w0 m a r (.blk w1.heap.size #[.int .u32 s.f.a] :: rs) s V) ?_ (by first | exact H1.drew.box rfl _ _ | exact (H1.box rfl _ _).drew)
    clear z0 z2 z4 z5 z6 z7 H1
    intro W HW
    generalize w1.heap.size = tb at HW ⊢
    obtain ⟨z0, z2, z4, z5, z6, z7⟩ := HW.facts hop hl rfl rfl
    go_wp2_with fail
    go_quiet (fail)
    have HW2 := HW.drewN nq
    clear z0 z2 z4 z5 z6 z7 HW
    generalize W.drewN nq = W2 at HW2 ⊢
    obtain ⟨z0, z2, z4, z5, z6, z7⟩ := HW2.facts hop hl rfl rfl
    go_wp2_with fail
    refine (HWT.out _ _ HW2).mono ?_
    rintro e w1 ⟨rfl, H1⟩
    go_wp2_with fail
    go_end0
    exact ⟨rfl, H1.unbox⟩
  · go_enter Tryz.func68, Tryz.ntmps68
    go_wp2_with fail
    refine (pf_r_none HH.out hop hl (by decide) (by decide) (by decide) (by decide) (by decide)).mono ?_
    rintro e w1 ⟨rfl, H1⟩
    clear z0 z2 z4 z5 z6 z7
    obtain ⟨z0, z2, z4, z5, z6, z7⟩ := H1.facts hop hl rfl rfl
    go_wp2_with fail
    refine region_flat_call 8 rfl (by kernel_rfl) (by kernel_rfl) ?_
    simp only [List.take_succ_cons, List.take_zero, List.drop_succ_cons, List.drop_zero, probed, probes, List.nil_append, List.cons_append, probe]
    go_wp2_with fail
    rw [only_normal]
    refine half_static (.int .u32 (pfP s.f.b)) rfl rfl (enters_of Tryz.func94 (by kernel_rfl) rfl) (by simp [Act.eval]) (fun W _ => pf_presence s.f.b W HBB.out) ?_
    simp only [probed, probes, List.nil_append]
    go_wp2_with fail
    rw [only_normal]
    rename_i hK
    refine hK _ _ ?_
    clear hK
    refine wp_from (Facts := fun V => RunHas S0 w0 m a r (.blk w1.heap.size #[.int .u32 s.f.a] :: rs) s V) ?_ (by first | exact H1.drew.box rfl _ _ | exact (H1.box rfl _ _).drew)
    clear z0 z2 z4 z5 z6 z7 H1
    intro W HW
    generalize w1.heap.size = tb at HW ⊢
    obtain ⟨z0, z2, z4, z5, z6, z7⟩ := HW.facts hop hl rfl rfl
    go_wp2_with fail
    go_quiet (fail)
    have HW2 := HW.drewN nq
    clear z0 z2 z4 z5 z6 z7 HW
    generalize W.drewN nq = W2 at HW2 ⊢
    obtain ⟨z0, z2, z4, z5, z6, z7⟩ := HW2.facts hop hl rfl rfl
    go_wp2_with fail
    refine (HWT.out _ _ HW2).mono ?_
    rintro e w1 ⟨rfl, H1⟩
    go_wp2_with fail
    refine (rn_go H1 2).mono ?_
    rintro e w2 ⟨rfl, H2⟩
    go_wp2_with fail
    go_end0
    exact ⟨rfl, H2.unbox⟩
  · go_enter Tryz.func68, Tryz.ntmps68
    go_wp2_with fail
    refine (pf_r_none HH.out hop hl (by decide) (by decide) (by decide) (by decide) (by decide)).mono ?_
    rintro e w1 ⟨rfl, H1⟩
    clear z0 z2 z4 z5 z6 z7
    obtain ⟨z0, z2, z4, z5, z6, z7⟩ := H1.facts hop hl rfl rfl
    go_wp2_with fail
    refine region_flat_call 8 rfl (by kernel_rfl) (by kernel_rfl) ?_
    simp only [List.take_succ_cons, List.take_zero, List.drop_succ_cons, List.drop_zero, probed, probes, List.nil_append, List.cons_append, probe]
    go_wp2_with fail
    rw [only_normal]
    refine half_static (.int .u32 (pfP s.f.b)) rfl rfl (enters_of Tryz.func94 (by kernel_rfl) rfl) (by simp [Act.eval]) (fun W _ => pf_presence s.f.b W HBB.out) ?_
    simp only [probed, probes, List.nil_append]
    go_wp2_with fail
    rw [only_normal]
    rename_i hK
    refine hK _ _ ?_
    clear hK
    refine wp_from (Facts := fun V => RunHas S0 w0 m a r (.blk w1.heap.size #[.int .u32 s.f.a] :: rs) s V) ?_ (by first | exact H1.drew.box rfl _ _ | exact (H1.box rfl _ _).drew)
    clear z0 z2 z4 z5 z6 z7 H1
    intro W HW
    generalize w1.heap.size = tb at HW ⊢
    obtain ⟨z0, z2, z4, z5, z6, z7⟩ := HW.facts hop hl rfl rfl
    go_wp2_with fail
    go_quiet (fail)
    have HW2 := HW.drewN nq
    clear z0 z2 z4 z5 z6 z7 HW
    generalize W.drewN nq = W2 at HW2 ⊢
    obtain ⟨z0, z2, z4, z5, z6, z7⟩ := HW2.facts hop hl rfl rfl
    go_wp2_with fail
    refine (HWT.out _ _ HW2).mono ?_
    rintro e w1 ⟨rfl, H1⟩
    go_wp2_with fail
    go_end0
    exact ⟨rfl, H1.unbox⟩
  · go_enter Tryz.func68, Tryz.ntmps68
    go_wp2_with fail
    refine (pf_r_none HH.out hop hl (by decide) (by decide) (by decide) (by decide) (by decide)).mono ?_
    rintro e w1 ⟨rfl, H1⟩
    clear z0 z2 z4 z5 z6 z7
    obtain ⟨z0, z2, z4, z5, z6, z7⟩ := H1.facts hop hl rfl rfl
    go_wp2_with fail
    refine region_flat_call 8 rfl (by kernel_rfl) (by kernel_rfl) ?_
    simp only [List.take_succ_cons, List.take_zero, List.drop_succ_cons, List.drop_zero, probed, probes, List.nil_append, List.cons_append, probe]
    go_wp2_with fail
    rw [only_normal]
    refine half_static (.int .u32 (pfP s.f.b)) rfl rfl (enters_of Tryz.func94 (by kernel_rfl) rfl) (by simp [Act.eval]) (fun W _ => pf_presence s.f.b W HBB.out) ?_
    simp only [probed, probes, List.nil_append]
    go_wp2_with fail
    rw [only_normal]
    rename_i hK
    refine hK _ _ ?_
    clear hK
    refine wp_from (Facts := fun V => RunHas S0 w0 m a r (.blk w1.heap.size #[.int .u32 s.f.a] :: rs) s V) ?_ (by first | exact H1.drew.box rfl _ _ | exact (H1.box rfl _ _).drew)
    clear z0 z2 z4 z5 z6 z7 H1
    intro W HW
    generalize w1.heap.size = tb at HW ⊢
    obtain ⟨z0, z2, z4, z5, z6, z7⟩ := HW.facts hop hl rfl rfl
    go_wp2_with fail
    go_quiet (fail)
    have HW2 := HW.drewN nq
    clear z0 z2 z4 z5 z6 z7 HW
    generalize W.drewN nq = W2 at HW2 ⊢
    obtain ⟨z0, z2, z4, z5, z6, z7⟩ := HW2.facts hop hl rfl rfl
    go_wp2_with fail
    refine (HWT.out _ _ HW2).mono ?_
    rintro e w1 ⟨rfl, H1⟩
    go_wp2_with fail
    refine (rn_go H1 2).mono ?_
    rintro e w2 ⟨rfl, H2⟩
    go_wp2_with fail
    go_end0
    exact ⟨rfl, H2.unbox⟩
def pf32 (s : Rn) : Rn :=
  ((s.did (doA s.L ⟨1, 4, 0, 0, 0⟩)).setB (doA s.L ⟨1, 4, 0, 0, 0⟩).1.old).goto 3
set_option maxHeartbeats 800000 in
theorem pf_32 {S0 : List Nat} {w0 w : World} {m a r : Nat} {rs : List Res} {s : Rn} (H : RunHas S0 w0 m a r rs s w) (hop : s.f.op = 3) (hl : s.f.line = 2) (hn : I64 s.n) (ha : 0 ≤ s.f.a ∧ s.f.a < 4294967296) (hb : 0 ≤ s.f.b ∧ s.f.b < 4294967296) (hc : s.notes.length ≤ 900) :
    Calls Tryz.prog 68 #[.pointer (some ⟨r, 0, none⟩)] w fun e w' => e = .returned (.tuple #[]) ∧ RunHas S0 w0 m a r rs (pf32 s) w' := by
  obtain ⟨z0, z2, z4, z5, z6, z7⟩ := H.facts hop hl rfl rfl
  have HC := Lib.hid hc
  have HA := Lib.hid ha
  have HBB := Lib.hid hb
  have HN := Lib.hid hn
  have HH := Lib.hid H
  clear hc H hn ha hb
  unfold pf32
  (try dsimp only)
  go_enter Tryz.func68, Tryz.ntmps68
  go_wp2_with fail
  refine (pf_r_none HH.out hop hl (by decide) (by decide) (by decide) (by decide) (by decide)).mono ?_
  rintro e w1 ⟨rfl, H1⟩
  clear z0 z2 z4 z5 z6 z7
  obtain ⟨z0, z2, z4, z5, z6, z7⟩ := H1.facts hop hl rfl rfl
  go_wp2_with fail
  refine region_flat_call 8 rfl (by kernel_rfl) (by kernel_rfl) ?_
  simp only [List.take_succ_cons, List.take_zero, List.drop_succ_cons, List.drop_zero, probed, probes, List.nil_append, List.cons_append, probe]
  go_wp2_with fail
  rw [only_normal]
  refine half_static (.int .u32 (pfP s.f.b)) rfl rfl (enters_of Tryz.func94 (by kernel_rfl) rfl) (by simp [Act.eval]) (fun W _ => pf_presence s.f.b W HBB.out) ?_
  simp only [probed, probes, List.nil_append]
  go_wp2_with fail
  rw [only_normal]
  rename_i hK
  refine hK _ _ ?_
  clear hK
  refine wp_from (Facts := fun V => RunHas S0 w0 m a r (.blk w1.heap.size #[.int .u32 s.f.a] :: rs) s V) ?_ (by first | exact H1.drew.box rfl _ _ | exact (H1.box rfl _ _).drew)
  clear z0 z2 z4 z5 z6 z7 H1
  intro W HW
  generalize w1.heap.size = tb at HW ⊢
  obtain ⟨z0, z2, z4, z5, z6, z7⟩ := HW.facts hop hl rfl rfl
  go_wp2_with fail
  go_quiet (fail)
  have HW2 := HW.drewN nq
  clear z0 z2 z4 z5 z6 z7 HW
  generalize W.drewN nq = W2 at HW2 ⊢
  obtain ⟨z0, z2, z4, z5, z6, z7⟩ := HW2.facts hop hl rfl rfl
  go_wp2_with fail
  refine (rn_load HW2 4).mono ?_
  rintro e w1 ⟨rfl, H1⟩
  obtain ⟨x0, x2, x4, x5, x6, x7⟩ := H1.facts hop hl rfl rfl
  go_wp2_with fail
  refine (rn_go (H1.setB (doA s.L ⟨1, 4, 0, 0, 0⟩).1.old) 3).mono ?_
  rintro e w2 ⟨rfl, H2⟩
  go_wp2_with fail
  go_end0
  exact ⟨rfl, H2.unbox⟩
def pf33 (s : Rn) : Rn :=
  (((s.did (doA s.L ⟨3, 0, pfP s.f.b, 0, 0⟩)).setA (doA s.L ⟨3, 0, pfP s.f.b, 0, 0⟩).1.old).note 3 0).goto 4
set_option maxHeartbeats 800000 in
theorem pf_33 {S0 : List Nat} {w0 w : World} {m a r : Nat} {rs : List Res} {s : Rn} (H : RunHas S0 w0 m a r rs s w) (hop : s.f.op = 3) (hl : s.f.line = 3) (hn : I64 s.n) (ha : 0 ≤ s.f.a ∧ s.f.a < 4294967296) (hb : 0 ≤ s.f.b ∧ s.f.b < 4294967296) (hc : s.notes.length ≤ 900) :
    Calls Tryz.prog 68 #[.pointer (some ⟨r, 0, none⟩)] w fun e w' => e = .returned (.tuple #[]) ∧ RunHas S0 w0 m a r rs (pf33 s) w' := by
  obtain ⟨z0, z2, z4, z5, z6, z7⟩ := H.facts hop hl rfl rfl
  have HC := Lib.hid hc
  have HA := Lib.hid ha
  have HBB := Lib.hid hb
  have HN := Lib.hid hn
  have HH := Lib.hid H
  clear hc H hn ha hb
  unfold pf33
  (try dsimp only)
  go_enter Tryz.func68, Tryz.ntmps68
  go_wp2_with fail
  refine (pf_r_none HH.out hop hl (by decide) (by decide) (by decide) (by decide) (by decide)).mono ?_
  rintro e w1 ⟨rfl, H1⟩
  clear z0 z2 z4 z5 z6 z7
  obtain ⟨z0, z2, z4, z5, z6, z7⟩ := H1.facts hop hl rfl rfl
  go_wp2_with fail
  refine region_flat_call 8 rfl (by kernel_rfl) (by kernel_rfl) ?_
  simp only [List.take_succ_cons, List.take_zero, List.drop_succ_cons, List.drop_zero, probed, probes, List.nil_append, List.cons_append, probe]
  go_wp2_with fail
  rw [only_normal]
  refine half_static (.int .u32 (pfP s.f.b)) rfl rfl (enters_of Tryz.func94 (by kernel_rfl) rfl) (by simp [Act.eval]) (fun W _ => pf_presence s.f.b W HBB.out) ?_
  simp only [probed, probes, List.nil_append]
  go_wp2_with fail
  rw [only_normal]
  rename_i hK
  refine hK _ _ ?_
  clear hK
  refine wp_from (Facts := fun V => RunHas S0 w0 m a r (.blk w1.heap.size #[.int .u32 s.f.a] :: rs) s V) ?_ (by first | exact H1.drew.box rfl _ _ | exact (H1.box rfl _ _).drew)
  clear z0 z2 z4 z5 z6 z7 H1
  intro W HW
  generalize w1.heap.size = tb at HW ⊢
  obtain ⟨z0, z2, z4, z5, z6, z7⟩ := HW.facts hop hl rfl rfl
  go_wp2_with fail
  go_quiet (fail)
  have HW2 := HW.drewN nq
  clear z0 z2 z4 z5 z6 z7 HW
  generalize W.drewN nq = W2 at HW2 ⊢
  obtain ⟨z0, z2, z4, z5, z6, z7⟩ := HW2.facts hop hl rfl rfl
  go_wp2_with fail
  refine (rn_add HW2 0 (pfP s.f.b) (by have : 0 ≤ pfP s.f.b ∧ pfP s.f.b < 4294967296 := (by unfold pfP; omega); omega)).mono ?_
  rintro e w1 ⟨rfl, H1⟩
  obtain ⟨x0, x2, x4, x5, x6, x7⟩ := H1.facts hop hl rfl rfl
  go_wp2_with fail
  refine (run_note (H1.setA (doA s.L ⟨3, 0, pfP s.f.b, 0, 0⟩).1.old) (by have := HC.out; first | exact Nat.le_trans this (by decide) | (simp [Rn.note, Rn.did, Rn.setA, Rn.setB, Rn.waited, Rn.goto, Rn.noted]; omega)) 3 0).mono ?_
  rintro e w2 ⟨rfl, H2⟩
  go_wp2_with fail
  refine (rn_go H2 4).mono ?_
  rintro e w3 ⟨rfl, H3⟩
  go_wp2_with fail
  go_end0
  exact ⟨rfl, H3.unbox⟩
def pf34 (s : Rn) : Rn :=
  let s1 := s.waited (waitA s.L s.n s.mode s.task s.f.st 1 (fun v => v == s.f.a))
  let s2 := if (waitA s.L s.n s.mode s.task s.f.st 1 (fun v => v == s.f.a)).seen then s1.note 4 0 else s1
  if (waitA s.L s.n s.mode s.task s.f.st 1 (fun v => v == s.f.a)).done then s2.fin true else s2
set_option maxHeartbeats 800000 in
theorem pf_34 {S0 : List Nat} {w0 w : World} {m a r : Nat} {rs : List Res} {s : Rn} (H : RunHas S0 w0 m a r rs s w) (hop : s.f.op = 3) (hl : s.f.line = 4) (hn : I64 s.n) (ha : 0 ≤ s.f.a ∧ s.f.a < 4294967296) (hb : 0 ≤ s.f.b ∧ s.f.b < 4294967296) (hc : s.notes.length ≤ 900) :
    Calls Tryz.prog 68 #[.pointer (some ⟨r, 0, none⟩)] w fun e w' => e = .returned (.tuple #[]) ∧ RunHas S0 w0 m a r rs (pf34 s) w' := by
  obtain ⟨z0, z2, z4, z5, z6, z7⟩ := H.facts hop hl rfl rfl
  have HC := Lib.hid hc
  have HA := Lib.hid ha
  have HBB := Lib.hid hb
  have HN := Lib.hid hn
  have HH := Lib.hid H
  clear hc H hn ha hb
  unfold pf34
  (try dsimp only)
  have hwt := fun (t2 : Nat) W (H : RunHas S0 w0 m a r (.blk t2 #[.int .u32 s.f.a] :: rs) s W) => rn_wait H HN.out 1 95 #[] #[.pointer (some ⟨t2, 0, none⟩)] (fun v => v == s.f.a) (enters_of Tryz.func95 (by kernel_rfl) rfl) (fun W v h0 h1 H => pf_mine s.f.a v W H.first)
  cases hs : (waitA s.L s.n s.mode s.task s.f.st 1 (fun v => v == s.f.a)).seen <;> cases hd : (waitA s.L s.n s.mode s.task s.f.st 1 (fun v => v == s.f.a)).done <;> rw [hs, hd] at hwt <;> simp only [if_true, Bool.false_eq_true, if_false] <;> (have HWT := Lib.hid hwt) <;> clear hwt hs hd
  · go_enter Tryz.func68, Tryz.ntmps68
    go_wp2_with fail
    refine (pf_r_none HH.out hop hl (by decide) (by decide) (by decide) (by decide) (by decide)).mono ?_
    rintro e w1 ⟨rfl, H1⟩
    clear z0 z2 z4 z5 z6 z7
    obtain ⟨z0, z2, z4, z5, z6, z7⟩ := H1.facts hop hl rfl rfl
    go_wp2_with fail
    refine region_flat_call 8 rfl (by kernel_rfl) (by kernel_rfl) ?_
    simp only [List.take_succ_cons, List.take_zero, List.drop_succ_cons, List.drop_zero, probed, probes, List.nil_append, List.cons_append, probe]
    go_wp2_with fail
    rw [only_normal]
    refine half_static (.int .u32 (pfP s.f.b)) rfl rfl (enters_of Tryz.func94 (by kernel_rfl) rfl) (by simp [Act.eval]) (fun W _ => pf_presence s.f.b W HBB.out) ?_
    simp only [probed, probes, List.nil_append]
    go_wp2_with fail
    rw [only_normal]
    rename_i hK
    refine hK _ _ ?_
    clear hK
    refine wp_from (Facts := fun V => RunHas S0 w0 m a r (.blk w1.heap.size #[.int .u32 s.f.a] :: rs) s V) ?_ (by first | exact H1.drew.box rfl _ _ | exact (H1.box rfl _ _).drew)
    clear z0 z2 z4 z5 z6 z7 H1
    intro W HW
    generalize w1.heap.size = tb at HW ⊢
    obtain ⟨z0, z2, z4, z5, z6, z7⟩ := HW.facts hop hl rfl rfl
    go_wp2_with fail
    go_quiet (fail)
    have HW2 := HW.drewN nq
    clear z0 z2 z4 z5 z6 z7 HW
    generalize W.drewN nq = W2 at HW2 ⊢
    obtain ⟨z0, z2, z4, z5, z6, z7⟩ := HW2.facts hop hl rfl rfl
    go_wp2_with fail
    refine (HWT.out _ _ HW2).mono ?_
    rintro e w1 ⟨rfl, H1⟩
    go_wp2_with fail
    go_end0
    exact ⟨rfl, H1.unbox⟩
  · go_enter Tryz.func68, Tryz.ntmps68
    go_wp2_with fail
    refine (pf_r_none HH.out hop hl (by decide) (by decide) (by decide) (by decide) (by decide)).mono ?_
    rintro e w1 ⟨rfl, H1⟩
    clear z0 z2 z4 z5 z6 z7
    obtain ⟨z0, z2, z4, z5, z6, z7⟩ := H1.facts hop hl rfl rfl
    go_wp2_with fail
    refine region_flat_call 8 rfl (by kernel_rfl) (by kernel_rfl) ?_
    simp only [List.take_succ_cons, List.take_zero, List.drop_succ_cons, List.drop_zero, probed, probes, List.nil_append, List.cons_append, probe]
    go_wp2_with fail
    rw [only_normal]
    refine half_static (.int .u32 (pfP s.f.b)) rfl rfl (enters_of Tryz.func94 (by kernel_rfl) rfl) (by simp [Act.eval]) (fun W _ => pf_presence s.f.b W HBB.out) ?_
    simp only [probed, probes, List.nil_append]
    go_wp2_with fail
    rw [only_normal]
    rename_i hK
    refine hK _ _ ?_
    clear hK
    refine wp_from (Facts := fun V => RunHas S0 w0 m a r (.blk w1.heap.size #[.int .u32 s.f.a] :: rs) s V) ?_ (by first | exact H1.drew.box rfl _ _ | exact (H1.box rfl _ _).drew)
    clear z0 z2 z4 z5 z6 z7 H1
    intro W HW
    generalize w1.heap.size = tb at HW ⊢
    obtain ⟨z0, z2, z4, z5, z6, z7⟩ := HW.facts hop hl rfl rfl
    go_wp2_with fail
    go_quiet (fail)
    have HW2 := HW.drewN nq
    clear z0 z2 z4 z5 z6 z7 HW
    generalize W.drewN nq = W2 at HW2 ⊢
    obtain ⟨z0, z2, z4, z5, z6, z7⟩ := HW2.facts hop hl rfl rfl
    go_wp2_with fail
    refine (HWT.out _ _ HW2).mono ?_
    rintro e w1 ⟨rfl, H1⟩
    go_wp2_with fail
    refine (rn_end H1 true).mono ?_
    rintro e w2 ⟨rfl, H2⟩
    go_wp2_with fail
    go_end0
    exact ⟨rfl, H2.unbox⟩
  · go_enter Tryz.func68, Tryz.ntmps68
    go_wp2_with fail
    refine (pf_r_none HH.out hop hl (by decide) (by decide) (by decide) (by decide) (by decide)).mono ?_
    rintro e w1 ⟨rfl, H1⟩
    clear z0 z2 z4 z5 z6 z7
    obtain ⟨z0, z2, z4, z5, z6, z7⟩ := H1.facts hop hl rfl rfl
    go_wp2_with fail
    refine region_flat_call 8 rfl (by kernel_rfl) (by kernel_rfl) ?_
    simp only [List.take_succ_cons, List.take_zero, List.drop_succ_cons, List.drop_zero, probed, probes, List.nil_append, List.cons_append, probe]
    go_wp2_with fail
    rw [only_normal]
    refine half_static (.int .u32 (pfP s.f.b)) rfl rfl (enters_of Tryz.func94 (by kernel_rfl) rfl) (by simp [Act.eval]) (fun W _ => pf_presence s.f.b W HBB.out) ?_
    simp only [probed, probes, List.nil_append]
    go_wp2_with fail
    rw [only_normal]
    rename_i hK
    refine hK _ _ ?_
    clear hK
    refine wp_from (Facts := fun V => RunHas S0 w0 m a r (.blk w1.heap.size #[.int .u32 s.f.a] :: rs) s V) ?_ (by first | exact H1.drew.box rfl _ _ | exact (H1.box rfl _ _).drew)
    clear z0 z2 z4 z5 z6 z7 H1
    intro W HW
    generalize w1.heap.size = tb at HW ⊢
    obtain ⟨z0, z2, z4, z5, z6, z7⟩ := HW.facts hop hl rfl rfl
    go_wp2_with fail
    go_quiet (fail)
    have HW2 := HW.drewN nq
    clear z0 z2 z4 z5 z6 z7 HW
    generalize W.drewN nq = W2 at HW2 ⊢
    obtain ⟨z0, z2, z4, z5, z6, z7⟩ := HW2.facts hop hl rfl rfl
    go_wp2_with fail
    refine (HWT.out _ _ HW2).mono ?_
    rintro e w1 ⟨rfl, H1⟩
    go_wp2_with fail
    refine (run_note H1 (by have := HC.out; first | exact Nat.le_trans this (by decide) | (simp [Rn.note, Rn.did, Rn.setA, Rn.setB, Rn.waited, Rn.goto, Rn.noted]; omega)) 4 0).mono ?_
    rintro e w2 ⟨rfl, H2⟩
    go_wp2_with fail
    go_end0
    exact ⟨rfl, H2.unbox⟩
  · go_enter Tryz.func68, Tryz.ntmps68
    go_wp2_with fail
    refine (pf_r_none HH.out hop hl (by decide) (by decide) (by decide) (by decide) (by decide)).mono ?_
    rintro e w1 ⟨rfl, H1⟩
    clear z0 z2 z4 z5 z6 z7
    obtain ⟨z0, z2, z4, z5, z6, z7⟩ := H1.facts hop hl rfl rfl
    go_wp2_with fail
    refine region_flat_call 8 rfl (by kernel_rfl) (by kernel_rfl) ?_
    simp only [List.take_succ_cons, List.take_zero, List.drop_succ_cons, List.drop_zero, probed, probes, List.nil_append, List.cons_append, probe]
    go_wp2_with fail
    rw [only_normal]
    refine half_static (.int .u32 (pfP s.f.b)) rfl rfl (enters_of Tryz.func94 (by kernel_rfl) rfl) (by simp [Act.eval]) (fun W _ => pf_presence s.f.b W HBB.out) ?_
    simp only [probed, probes, List.nil_append]
    go_wp2_with fail
    rw [only_normal]
    rename_i hK
    refine hK _ _ ?_
    clear hK
    refine wp_from (Facts := fun V => RunHas S0 w0 m a r (.blk w1.heap.size #[.int .u32 s.f.a] :: rs) s V) ?_ (by first | exact H1.drew.box rfl _ _ | exact (H1.box rfl _ _).drew)
    clear z0 z2 z4 z5 z6 z7 H1
    intro W HW
    generalize w1.heap.size = tb at HW ⊢
    obtain ⟨z0, z2, z4, z5, z6, z7⟩ := HW.facts hop hl rfl rfl
    go_wp2_with fail
    go_quiet (fail)
    have HW2 := HW.drewN nq
    clear z0 z2 z4 z5 z6 z7 HW
    generalize W.drewN nq = W2 at HW2 ⊢
    obtain ⟨z0, z2, z4, z5, z6, z7⟩ := HW2.facts hop hl rfl rfl
    go_wp2_with fail
    refine (HWT.out _ _ HW2).mono ?_
    rintro e w1 ⟨rfl, H1⟩
    go_wp2_with fail
    refine (run_note H1 (by have := HC.out; first | exact Nat.le_trans this (by decide) | (simp [Rn.note, Rn.did, Rn.setA, Rn.setB, Rn.waited, Rn.goto, Rn.noted]; omega)) 4 0).mono ?_
    rintro e w2 ⟨rfl, H2⟩
    go_wp2_with fail
    refine (rn_end H2 true).mono ?_
    rintro e w3 ⟨rfl, H3⟩
    go_wp2_with fail
    go_end0
    exact ⟨rfl, H3.unbox⟩
end Go.Proofs.YthnimpkoidablaaGreat.Z

set_option linter.unusedVariables false
set_option linter.unusedSimpArgs false
namespace Go.Proofs.YthnimpkoidablaaGreat.Z
open Go.RowKit
attribute [local go_sem ↓] Go.wp_at_zero Go.wp_at_succ
def Rn.pfPass (s : Rn) (ok : Bool) : Rn := (((s.did (doA s.L ⟨3, 3, 1, 0, 0⟩)).note 8 0).wake 3).fin ok
theorem pf_pass {S0 : List Nat} {w0 w : World} {m a r : Nat} {rs : List Res} {s : Rn} (H : RunHas S0 w0 m a r rs s w) (hc : s.notes.length ≤ 900) (ok : Bool) :
    Calls Tryz.prog 138 #[.pointer (some ⟨r, 0, none⟩), .bool ok] w fun e w' => e = .returned (.tuple #[]) ∧ RunHas S0 w0 m a r rs (s.pfPass ok) w' := by
  have HC := Lib.hid hc
  have HH := Lib.hid H
  clear hc H
  go_enter Tryz.func138, Tryz.ntmps138
  go_wp2_with fail
  refine (rn_add HH.out 3 1 (by decide)).mono ?_
  rintro e w1 ⟨rfl, H1⟩
  go_wp2_with fail
  refine (run_note H1 (by have := HC.out; first | exact Nat.le_trans this (by decide) | (simp [Rn.note, Rn.did, Rn.setA, Rn.setB, Rn.waited, Rn.goto, Rn.noted]; omega)) 8 0).mono ?_
  rintro e w2 ⟨rfl, H2⟩
  go_wp2_with fail
  refine (rn_wake H2 3).mono ?_
  rintro e w3 ⟨rfl, H3⟩
  go_wp2_with fail
  refine (rn_end H3 ok).mono ?_
  rintro e w4 ⟨rfl, H4⟩
  go_wp2_with fail
  go_end0
  exact ⟨rfl, H4⟩
def pf40 (s : Rn) : Rn :=
  ((s.did (doA s.L ⟨1, 4, 0, 0, 0⟩)).setB (doA s.L ⟨1, 4, 0, 0, 0⟩).1.old).goto 1
set_option maxHeartbeats 800000 in
theorem pf_40 {S0 : List Nat} {w0 w : World} {m a r : Nat} {rs : List Res} {s : Rn} (H : RunHas S0 w0 m a r rs s w) (hop : s.f.op = 4) (hl : s.f.line = 0) (hn : I64 s.n) (ha : 0 ≤ s.f.a ∧ s.f.a < 4294967296) (hb : 0 ≤ s.f.b ∧ s.f.b < 4294967296) (hc : s.notes.length ≤ 900) :
    Calls Tryz.prog 97 #[.pointer (some ⟨r, 0, none⟩)] w fun e w' => e = .returned (.tuple #[]) ∧ RunHas S0 w0 m a r rs (pf40 s) w' := by
  obtain ⟨z0, z2, z4, z5, z6, z7⟩ := H.facts hop hl rfl rfl
  have HC := Lib.hid hc
  have HA := Lib.hid ha
  have HBB := Lib.hid hb
  have HN := Lib.hid hn
  have HH := Lib.hid H
  clear hc H hn ha hb
  unfold pf40
  (try dsimp only)
  go_enter Tryz.func97, Tryz.ntmps97
  go_wp2_with fail
  refine (pf_presence _ _ HBB.out).mono ?_
  rintro e w1 ⟨rfl, rfl⟩
  go_wp2_with fail
  go_quiet (fail)
  have HW := HH.out.drewN nq
  clear z0 z2 z4 z5 z6 z7
  generalize w.drewN nq = W at HW ⊢
  obtain ⟨z0, z2, z4, z5, z6, z7⟩ := HW.facts hop hl rfl rfl
  go_wp2_with fail
  refine (rn_load HW 4).mono ?_
  rintro e w1 ⟨rfl, H1⟩
  obtain ⟨x0, x2, x4, x5, x6, x7⟩ := H1.facts hop hl rfl rfl
  go_wp2_with fail
  refine (rn_go (H1.setB (doA s.L ⟨1, 4, 0, 0, 0⟩).1.old) 1).mono ?_
  rintro e w2 ⟨rfl, H2⟩
  go_wp2_with fail
  go_end0
  exact ⟨rfl, H2⟩
def pf41 (s : Rn) : Rn :=
  (((s.did (doA s.L ⟨3, 0, (-pfP s.f.b % 4294967296), 0, 0⟩)).note 7 0).wake 0).goto 2
set_option maxHeartbeats 800000 in
theorem pf_41 {S0 : List Nat} {w0 w : World} {m a r : Nat} {rs : List Res} {s : Rn} (H : RunHas S0 w0 m a r rs s w) (hop : s.f.op = 4) (hl : s.f.line = 1) (hn : I64 s.n) (ha : 0 ≤ s.f.a ∧ s.f.a < 4294967296) (hb : 0 ≤ s.f.b ∧ s.f.b < 4294967296) (hc : s.notes.length ≤ 900) :
    Calls Tryz.prog 97 #[.pointer (some ⟨r, 0, none⟩)] w fun e w' => e = .returned (.tuple #[]) ∧ RunHas S0 w0 m a r rs (pf41 s) w' := by
  obtain ⟨z0, z2, z4, z5, z6, z7⟩ := H.facts hop hl rfl rfl
  have HC := Lib.hid hc
  have HA := Lib.hid ha
  have HBB := Lib.hid hb
  have HN := Lib.hid hn
  have HH := Lib.hid H
  clear hc H hn ha hb
  unfold pf41
  (try dsimp only)
  go_enter Tryz.func97, Tryz.ntmps97
  go_wp2_with fail
  refine (pf_presence _ _ HBB.out).mono ?_
  rintro e w1 ⟨rfl, rfl⟩
  go_wp2_with fail
  go_quiet (fail)
  have HW := HH.out.drewN nq
  clear z0 z2 z4 z5 z6 z7
  generalize w.drewN nq = W at HW ⊢
  obtain ⟨z0, z2, z4, z5, z6, z7⟩ := HW.facts hop hl rfl rfl
  go_wp2_with fail
  refine (rn_add HW 0 (-pfP s.f.b % 4294967296) (by omega)).mono ?_
  rintro e w1 ⟨rfl, H1⟩
  go_wp2_with fail
  refine (run_note H1 (by have := HC.out; first | exact Nat.le_trans this (by decide) | (simp [Rn.note, Rn.did, Rn.setA, Rn.setB, Rn.waited, Rn.goto, Rn.noted]; omega)) 7 0).mono ?_
  rintro e w2 ⟨rfl, H2⟩
  go_wp2_with fail
  refine (rn_wake H2 0).mono ?_
  rintro e w3 ⟨rfl, H3⟩
  go_wp2_with fail
  refine (rn_go H3 2).mono ?_
  rintro e w4 ⟨rfl, H4⟩
  go_wp2_with fail
  go_end0
  exact ⟨rfl, H4⟩
def pf42 (s : Rn) : Rn :=
  (s.did (doA s.L ⟨2, 4, (s.f.b + 1) % 4294967296, 0, 0⟩)).goto 3
set_option maxHeartbeats 800000 in
theorem pf_42 {S0 : List Nat} {w0 w : World} {m a r : Nat} {rs : List Res} {s : Rn} (H : RunHas S0 w0 m a r rs s w) (hop : s.f.op = 4) (hl : s.f.line = 2) (hn : I64 s.n) (ha : 0 ≤ s.f.a ∧ s.f.a < 4294967296) (hb : 0 ≤ s.f.b ∧ s.f.b < 4294967296) (hc : s.notes.length ≤ 900) :
    Calls Tryz.prog 97 #[.pointer (some ⟨r, 0, none⟩)] w fun e w' => e = .returned (.tuple #[]) ∧ RunHas S0 w0 m a r rs (pf42 s) w' := by
  obtain ⟨z0, z2, z4, z5, z6, z7⟩ := H.facts hop hl rfl rfl
  have HC := Lib.hid hc
  have HA := Lib.hid ha
  have HBB := Lib.hid hb
  have HN := Lib.hid hn
  have HH := Lib.hid H
  clear hc H hn ha hb
  unfold pf42
  (try dsimp only)
  go_enter Tryz.func97, Tryz.ntmps97
  go_wp2_with fail
  refine (pf_presence _ _ HBB.out).mono ?_
  rintro e w1 ⟨rfl, rfl⟩
  go_wp2_with fail
  go_quiet (fail)
  have HW := HH.out.drewN nq
  clear z0 z2 z4 z5 z6 z7
  generalize w.drewN nq = W at HW ⊢
  obtain ⟨z0, z2, z4, z5, z6, z7⟩ := HW.facts hop hl rfl rfl
  go_wp2_with fail
  refine (rn_store HW 4 ((s.f.b + 1) % 4294967296) (by omega)).mono ?_
  rintro e w1 ⟨rfl, H1⟩
  go_wp2_with fail
  refine (rn_go H1 3).mono ?_
  rintro e w2 ⟨rfl, H2⟩
  go_wp2_with fail
  go_end0
  exact ⟨rfl, H2⟩
def pf43 (s : Rn) : Rn :=
  s.pfPass true
set_option maxHeartbeats 800000 in
theorem pf_43 {S0 : List Nat} {w0 w : World} {m a r : Nat} {rs : List Res} {s : Rn} (H : RunHas S0 w0 m a r rs s w) (hop : s.f.op = 4) (hl : s.f.line = 3) (hn : I64 s.n) (ha : 0 ≤ s.f.a ∧ s.f.a < 4294967296) (hb : 0 ≤ s.f.b ∧ s.f.b < 4294967296) (hc : s.notes.length ≤ 900) :
    Calls Tryz.prog 97 #[.pointer (some ⟨r, 0, none⟩)] w fun e w' => e = .returned (.tuple #[]) ∧ RunHas S0 w0 m a r rs (pf43 s) w' := by
  obtain ⟨z0, z2, z4, z5, z6, z7⟩ := H.facts hop hl rfl rfl
  have HC := Lib.hid hc
  have HA := Lib.hid ha
  have HBB := Lib.hid hb
  have HN := Lib.hid hn
  have HH := Lib.hid H
  clear hc H hn ha hb
  unfold pf43
  (try dsimp only)
  go_enter Tryz.func97, Tryz.ntmps97
  go_wp2_with fail
  refine (pf_presence _ _ HBB.out).mono ?_
  rintro e w1 ⟨rfl, rfl⟩
  go_wp2_with fail
  go_quiet (fail)
  have HW := HH.out.drewN nq
  clear z0 z2 z4 z5 z6 z7
  generalize w.drewN nq = W at HW ⊢
  obtain ⟨z0, z2, z4, z5, z6, z7⟩ := HW.facts hop hl rfl rfl
  go_wp2_with fail
  refine (pf_pass HW HC.out true).mono ?_
  rintro e w1 ⟨rfl, H1⟩
  go_wp2_with fail
  go_end0
  exact ⟨rfl, H1⟩
def pf80 (s : Rn) : Rn :=
  ((s.did (doA s.L ⟨1, 4, 0, 0, 0⟩)).setB (doA s.L ⟨1, 4, 0, 0, 0⟩).1.old).goto 1
set_option maxHeartbeats 800000 in
theorem pf_80 {S0 : List Nat} {w0 w : World} {m a r : Nat} {rs : List Res} {s : Rn} (H : RunHas S0 w0 m a r rs s w) (hop : s.f.op = 8) (hl : s.f.line = 0) (hn : I64 s.n) (ha : 0 ≤ s.f.a ∧ s.f.a < 4294967296) (hb : 0 ≤ s.f.b ∧ s.f.b < 4294967296) (hc : s.notes.length ≤ 900) :
    Calls Tryz.prog 97 #[.pointer (some ⟨r, 0, none⟩)] w fun e w' => e = .returned (.tuple #[]) ∧ RunHas S0 w0 m a r rs (pf80 s) w' := by
  obtain ⟨z0, z2, z4, z5, z6, z7⟩ := H.facts hop hl rfl rfl
  have HC := Lib.hid hc
  have HA := Lib.hid ha
  have HBB := Lib.hid hb
  have HN := Lib.hid hn
  have HH := Lib.hid H
  clear hc H hn ha hb
  unfold pf80
  (try dsimp only)
  go_enter Tryz.func97, Tryz.ntmps97
  go_wp2_with fail
  refine (pf_presence _ _ HBB.out).mono ?_
  rintro e w1 ⟨rfl, rfl⟩
  go_wp2_with fail
  go_quiet (fail)
  have HW := HH.out.drewN nq
  clear z0 z2 z4 z5 z6 z7
  generalize w.drewN nq = W at HW ⊢
  obtain ⟨z0, z2, z4, z5, z6, z7⟩ := HW.facts hop hl rfl rfl
  go_wp2_with fail
  refine (rn_load HW 4).mono ?_
  rintro e w1 ⟨rfl, H1⟩
  obtain ⟨x0, x2, x4, x5, x6, x7⟩ := H1.facts hop hl rfl rfl
  go_wp2_with fail
  refine (rn_go (H1.setB (doA s.L ⟨1, 4, 0, 0, 0⟩).1.old) 1).mono ?_
  rintro e w2 ⟨rfl, H2⟩
  go_wp2_with fail
  go_end0
  exact ⟨rfl, H2⟩
def pf81 (s : Rn) : Rn :=
  (((s.did (doA s.L ⟨3, 0, ((256 - pfP s.f.b) % 4294967296), 0, 0⟩)).note 10 0).wake 0).goto 2
set_option maxHeartbeats 800000 in
theorem pf_81 {S0 : List Nat} {w0 w : World} {m a r : Nat} {rs : List Res} {s : Rn} (H : RunHas S0 w0 m a r rs s w) (hop : s.f.op = 8) (hl : s.f.line = 1) (hn : I64 s.n) (ha : 0 ≤ s.f.a ∧ s.f.a < 4294967296) (hb : 0 ≤ s.f.b ∧ s.f.b < 4294967296) (hc : s.notes.length ≤ 900) :
    Calls Tryz.prog 97 #[.pointer (some ⟨r, 0, none⟩)] w fun e w' => e = .returned (.tuple #[]) ∧ RunHas S0 w0 m a r rs (pf81 s) w' := by
  obtain ⟨z0, z2, z4, z5, z6, z7⟩ := H.facts hop hl rfl rfl
  have HC := Lib.hid hc
  have HA := Lib.hid ha
  have HBB := Lib.hid hb
  have HN := Lib.hid hn
  have HH := Lib.hid H
  clear hc H hn ha hb
  unfold pf81
  (try dsimp only)
  go_enter Tryz.func97, Tryz.ntmps97
  go_wp2_with fail
  refine (pf_presence _ _ HBB.out).mono ?_
  rintro e w1 ⟨rfl, rfl⟩
  go_wp2_with fail
  go_quiet (fail)
  have HW := HH.out.drewN nq
  clear z0 z2 z4 z5 z6 z7
  generalize w.drewN nq = W at HW ⊢
  obtain ⟨z0, z2, z4, z5, z6, z7⟩ := HW.facts hop hl rfl rfl
  go_wp2_with fail
  refine (rn_add HW 0 ((256 - pfP s.f.b) % 4294967296) (by omega)).mono ?_
  rintro e w1 ⟨rfl, H1⟩
  go_wp2_with fail
  refine (run_note H1 (by have := HC.out; first | exact Nat.le_trans this (by decide) | (simp [Rn.note, Rn.did, Rn.setA, Rn.setB, Rn.waited, Rn.goto, Rn.noted]; omega)) 10 0).mono ?_
  rintro e w2 ⟨rfl, H2⟩
  go_wp2_with fail
  refine (rn_wake H2 0).mono ?_
  rintro e w3 ⟨rfl, H3⟩
  go_wp2_with fail
  refine (rn_go H3 2).mono ?_
  rintro e w4 ⟨rfl, H4⟩
  go_wp2_with fail
  go_end0
  exact ⟨rfl, H4⟩
def pf82 (s : Rn) : Rn :=
  (s.did (doA s.L ⟨2, 4, (s.f.b + 1) % 4294967296, 0, 0⟩)).goto 3
set_option maxHeartbeats 800000 in
theorem pf_82 {S0 : List Nat} {w0 w : World} {m a r : Nat} {rs : List Res} {s : Rn} (H : RunHas S0 w0 m a r rs s w) (hop : s.f.op = 8) (hl : s.f.line = 2) (hn : I64 s.n) (ha : 0 ≤ s.f.a ∧ s.f.a < 4294967296) (hb : 0 ≤ s.f.b ∧ s.f.b < 4294967296) (hc : s.notes.length ≤ 900) :
    Calls Tryz.prog 97 #[.pointer (some ⟨r, 0, none⟩)] w fun e w' => e = .returned (.tuple #[]) ∧ RunHas S0 w0 m a r rs (pf82 s) w' := by
  obtain ⟨z0, z2, z4, z5, z6, z7⟩ := H.facts hop hl rfl rfl
  have HC := Lib.hid hc
  have HA := Lib.hid ha
  have HBB := Lib.hid hb
  have HN := Lib.hid hn
  have HH := Lib.hid H
  clear hc H hn ha hb
  unfold pf82
  (try dsimp only)
  go_enter Tryz.func97, Tryz.ntmps97
  go_wp2_with fail
  refine (pf_presence _ _ HBB.out).mono ?_
  rintro e w1 ⟨rfl, rfl⟩
  go_wp2_with fail
  go_quiet (fail)
  have HW := HH.out.drewN nq
  clear z0 z2 z4 z5 z6 z7
  generalize w.drewN nq = W at HW ⊢
  obtain ⟨z0, z2, z4, z5, z6, z7⟩ := HW.facts hop hl rfl rfl
  go_wp2_with fail
  refine (rn_store HW 4 ((s.f.b + 1) % 4294967296) (by omega)).mono ?_
  rintro e w1 ⟨rfl, H1⟩
  go_wp2_with fail
  refine (rn_go H1 3).mono ?_
  rintro e w2 ⟨rfl, H2⟩
  go_wp2_with fail
  go_end0
  exact ⟨rfl, H2⟩
def pf83 (s : Rn) : Rn :=
  s.pfPass true
set_option maxHeartbeats 800000 in
theorem pf_83 {S0 : List Nat} {w0 w : World} {m a r : Nat} {rs : List Res} {s : Rn} (H : RunHas S0 w0 m a r rs s w) (hop : s.f.op = 8) (hl : s.f.line = 3) (hn : I64 s.n) (ha : 0 ≤ s.f.a ∧ s.f.a < 4294967296) (hb : 0 ≤ s.f.b ∧ s.f.b < 4294967296) (hc : s.notes.length ≤ 900) :
    Calls Tryz.prog 97 #[.pointer (some ⟨r, 0, none⟩)] w fun e w' => e = .returned (.tuple #[]) ∧ RunHas S0 w0 m a r rs (pf83 s) w' := by
  obtain ⟨z0, z2, z4, z5, z6, z7⟩ := H.facts hop hl rfl rfl
  have HC := Lib.hid hc
  have HA := Lib.hid ha
  have HBB := Lib.hid hb
  have HN := Lib.hid hn
  have HH := Lib.hid H
  clear hc H hn ha hb
  unfold pf83
  (try dsimp only)
  go_enter Tryz.func97, Tryz.ntmps97
  go_wp2_with fail
  refine (pf_presence _ _ HBB.out).mono ?_
  rintro e w1 ⟨rfl, rfl⟩
  go_wp2_with fail
  go_quiet (fail)
  have HW := HH.out.drewN nq
  clear z0 z2 z4 z5 z6 z7
  generalize w.drewN nq = W at HW ⊢
  obtain ⟨z0, z2, z4, z5, z6, z7⟩ := HW.facts hop hl rfl rfl
  go_wp2_with fail
  refine (pf_pass HW HC.out true).mono ?_
  rintro e w1 ⟨rfl, H1⟩
  go_wp2_with fail
  go_end0
  exact ⟨rfl, H1⟩
end Go.Proofs.YthnimpkoidablaaGreat.Z

set_option linter.unusedVariables false
set_option linter.unusedSimpArgs false
namespace Go.Proofs.YthnimpkoidablaaGreat.Z
open Go.RowKit
attribute [local go_sem ↓] Go.wp_at_zero Go.wp_at_succ
def pft0 (s : Rn) : Rn :=
  ((s.did (doA s.L ⟨1, 2, 0, 0, 0⟩)).setA (doA s.L ⟨1, 2, 0, 0, 0⟩).1.old).goto 1
set_option maxHeartbeats 800000 in
theorem pf_t0 {S0 : List Nat} {w0 w : World} {m a r : Nat} {rs : List Res} {s : Rn} (H : RunHas S0 w0 m a r rs s w) {o : Int} (hop : s.f.op = o) (hl : s.f.line = 0) (hn : I64 s.n) (ha : 0 ≤ s.f.a ∧ s.f.a < 4294967296) (hb : 0 ≤ s.f.b ∧ s.f.b < 4294967296) (hc : s.notes.length ≤ 900) :
    Calls Tryz.prog 139 #[.pointer (some ⟨r, 0, none⟩)] w fun e w' => e = .returned (.tuple #[]) ∧ RunHas S0 w0 m a r rs (pft0 s) w' := by
  obtain ⟨z0, z2, z4, z5, z6, z7⟩ := H.facts hop hl rfl rfl
  have HC := Lib.hid hc
  have HA := Lib.hid ha
  have HBB := Lib.hid hb
  have HN := Lib.hid hn
  have HH := Lib.hid H
  clear hc H hn ha hb
  unfold pft0
  (try dsimp only)
  go_enter Tryz.func139, Tryz.ntmps139
  go_wp2_with fail
  refine (rn_load HH.out 2).mono ?_
  rintro e w1 ⟨rfl, H1⟩
  obtain ⟨x0, x2, x4, x5, x6, x7⟩ := H1.facts hop hl rfl rfl
  go_wp2_with fail
  refine (rn_go (H1.setA (doA s.L ⟨1, 2, 0, 0, 0⟩).1.old) 1).mono ?_
  rintro e w2 ⟨rfl, H2⟩
  go_wp2_with fail
  go_end0
  exact ⟨rfl, H2⟩
def pft3 (s : Rn) : Rn :=
  ((s.did (doA s.L ⟨1, 0, 0, 0, 0⟩)).setA (doA s.L ⟨1, 0, 0, 0, 0⟩).1.old).goto 4
set_option maxHeartbeats 800000 in
theorem pf_t3 {S0 : List Nat} {w0 w : World} {m a r : Nat} {rs : List Res} {s : Rn} (H : RunHas S0 w0 m a r rs s w) {o : Int} (hop : s.f.op = o) (hl : s.f.line = 3) (hn : I64 s.n) (ha : 0 ≤ s.f.a ∧ s.f.a < 4294967296) (hb : 0 ≤ s.f.b ∧ s.f.b < 4294967296) (hc : s.notes.length ≤ 900) :
    Calls Tryz.prog 139 #[.pointer (some ⟨r, 0, none⟩)] w fun e w' => e = .returned (.tuple #[]) ∧ RunHas S0 w0 m a r rs (pft3 s) w' := by
  obtain ⟨z0, z2, z4, z5, z6, z7⟩ := H.facts hop hl rfl rfl
  have HC := Lib.hid hc
  have HA := Lib.hid ha
  have HBB := Lib.hid hb
  have HN := Lib.hid hn
  have HH := Lib.hid H
  clear hc H hn ha hb
  unfold pft3
  (try dsimp only)
  go_enter Tryz.func139, Tryz.ntmps139
  go_wp2_with fail
  refine (rn_load HH.out 0).mono ?_
  rintro e w1 ⟨rfl, H1⟩
  obtain ⟨x0, x2, x4, x5, x6, x7⟩ := H1.facts hop hl rfl rfl
  go_wp2_with fail
  refine (rn_go (H1.setA (doA s.L ⟨1, 0, 0, 0, 0⟩).1.old) 4).mono ?_
  rintro e w2 ⟨rfl, H2⟩
  go_wp2_with fail
  go_end0
  exact ⟨rfl, H2⟩
def pft5 (s : Rn) : Rn :=
  ((s.did (doA s.L ⟨1, 4, 0, 0, 0⟩)).setB (doA s.L ⟨1, 4, 0, 0, 0⟩).1.old).goto 6
set_option maxHeartbeats 800000 in
theorem pf_t5 {S0 : List Nat} {w0 w : World} {m a r : Nat} {rs : List Res} {s : Rn} (H : RunHas S0 w0 m a r rs s w) {o : Int} (hop : s.f.op = o) (hl : s.f.line = 5) (hn : I64 s.n) (ha : 0 ≤ s.f.a ∧ s.f.a < 4294967296) (hb : 0 ≤ s.f.b ∧ s.f.b < 4294967296) (hc : s.notes.length ≤ 900) :
    Calls Tryz.prog 139 #[.pointer (some ⟨r, 0, none⟩)] w fun e w' => e = .returned (.tuple #[]) ∧ RunHas S0 w0 m a r rs (pft5 s) w' := by
  obtain ⟨z0, z2, z4, z5, z6, z7⟩ := H.facts hop hl rfl rfl
  have HC := Lib.hid hc
  have HA := Lib.hid ha
  have HBB := Lib.hid hb
  have HN := Lib.hid hn
  have HH := Lib.hid H
  clear hc H hn ha hb
  unfold pft5
  (try dsimp only)
  go_enter Tryz.func139, Tryz.ntmps139
  go_wp2_with fail
  refine (rn_load HH.out 4).mono ?_
  rintro e w1 ⟨rfl, H1⟩
  obtain ⟨x0, x2, x4, x5, x6, x7⟩ := H1.facts hop hl rfl rfl
  go_wp2_with fail
  refine (rn_go (H1.setB (doA s.L ⟨1, 4, 0, 0, 0⟩).1.old) 6).mono ?_
  rintro e w2 ⟨rfl, H2⟩
  go_wp2_with fail
  go_end0
  exact ⟨rfl, H2⟩
def pft6 (s : Rn) : Rn :=
  (((s.did (doA s.L ⟨3, 0, pfP s.f.b, 0, 0⟩)).setA (doA s.L ⟨3, 0, pfP s.f.b, 0, 0⟩).1.old).note 3 0).goto 7
set_option maxHeartbeats 800000 in
theorem pf_t6 {S0 : List Nat} {w0 w : World} {m a r : Nat} {rs : List Res} {s : Rn} (H : RunHas S0 w0 m a r rs s w) {o : Int} (hop : s.f.op = o) (hl : s.f.line = 6) (hn : I64 s.n) (ha : 0 ≤ s.f.a ∧ s.f.a < 4294967296) (hb : 0 ≤ s.f.b ∧ s.f.b < 4294967296) (hc : s.notes.length ≤ 900) :
    Calls Tryz.prog 139 #[.pointer (some ⟨r, 0, none⟩)] w fun e w' => e = .returned (.tuple #[]) ∧ RunHas S0 w0 m a r rs (pft6 s) w' := by
  obtain ⟨z0, z2, z4, z5, z6, z7⟩ := H.facts hop hl rfl rfl
  have HC := Lib.hid hc
  have HA := Lib.hid ha
  have HBB := Lib.hid hb
  have HN := Lib.hid hn
  have HH := Lib.hid H
  clear hc H hn ha hb
  unfold pft6
  (try dsimp only)
  go_enter Tryz.func139, Tryz.ntmps139
  go_wp2_with fail
  refine (pf_presence _ _ HBB.out).mono ?_
  rintro e w9 ⟨rfl, rfl⟩
  go_wp2_with fail
  refine (rn_add HH.out 0 (pfP s.f.b) (by have : 0 ≤ pfP s.f.b ∧ pfP s.f.b < 4294967296 := (by unfold pfP; omega); omega)).mono ?_
  rintro e w1 ⟨rfl, H1⟩
  obtain ⟨x0, x2, x4, x5, x6, x7⟩ := H1.facts hop hl rfl rfl
  go_wp2_with fail
  refine (run_note (H1.setA (doA s.L ⟨3, 0, pfP s.f.b, 0, 0⟩).1.old) (by have := HC.out; first | exact Nat.le_trans this (by decide) | (simp [Rn.note, Rn.did, Rn.setA, Rn.setB, Rn.waited, Rn.goto, Rn.noted]; omega)) 3 0).mono ?_
  rintro e w2 ⟨rfl, H2⟩
  go_wp2_with fail
  refine (rn_go H2 7).mono ?_
  rintro e w3 ⟨rfl, H3⟩
  go_wp2_with fail
  go_end0
  exact ⟨rfl, H3⟩
def pft9 (s : Rn) : Rn :=
  s.pfPass false
set_option maxHeartbeats 800000 in
theorem pf_t9 {S0 : List Nat} {w0 w : World} {m a r : Nat} {rs : List Res} {s : Rn} (H : RunHas S0 w0 m a r rs s w) {o : Int} (hop : s.f.op = o) (hl : s.f.line = 9) (hn : I64 s.n) (ha : 0 ≤ s.f.a ∧ s.f.a < 4294967296) (hb : 0 ≤ s.f.b ∧ s.f.b < 4294967296) (hc : s.notes.length ≤ 900) :
    Calls Tryz.prog 139 #[.pointer (some ⟨r, 0, none⟩)] w fun e w' => e = .returned (.tuple #[]) ∧ RunHas S0 w0 m a r rs (pft9 s) w' := by
  obtain ⟨z0, z2, z4, z5, z6, z7⟩ := H.facts hop hl rfl rfl
  have HC := Lib.hid hc
  have HA := Lib.hid ha
  have HBB := Lib.hid hb
  have HN := Lib.hid hn
  have HH := Lib.hid H
  clear hc H hn ha hb
  unfold pft9
  (try dsimp only)
  go_enter Tryz.func139, Tryz.ntmps139
  go_wp2_with fail
  refine (pf_pass HH.out HC.out false).mono ?_
  rintro e w1 ⟨rfl, H1⟩
  go_wp2_with fail
  go_end0
  exact ⟨rfl, H1⟩
def pft2 (s : Rn) : Rn :=
  if casB s.L 2 s.f.a ((s.f.a + 1) % 4294967296) then ((s.did (doA s.L ⟨5, 2, s.f.a, (s.f.a + 1) % 4294967296, 0⟩)).note 2 2).goto 3 else (s.did (doA s.L ⟨5, 2, s.f.a, (s.f.a + 1) % 4294967296, 0⟩)).goto 0
set_option maxHeartbeats 800000 in
theorem pf_t2 {S0 : List Nat} {w0 w : World} {m a r : Nat} {rs : List Res} {s : Rn} (H : RunHas S0 w0 m a r rs s w) {o : Int} (hop : s.f.op = o) (hl : s.f.line = 2) (hn : I64 s.n) (ha : 0 ≤ s.f.a ∧ s.f.a < 4294967296) (hb : 0 ≤ s.f.b ∧ s.f.b < 4294967296) (hc : s.notes.length ≤ 900) :
    Calls Tryz.prog 139 #[.pointer (some ⟨r, 0, none⟩)] w fun e w' => e = .returned (.tuple #[]) ∧ RunHas S0 w0 m a r rs (pft2 s) w' := by
  obtain ⟨z0, z2, z4, z5, z6, z7⟩ := H.facts hop hl rfl rfl
  have HC := Lib.hid hc
  have HA := Lib.hid ha
  have HBB := Lib.hid hb
  have HN := Lib.hid hn
  have HH := Lib.hid H
  clear hc H hn ha hb
  unfold pft2
  (try dsimp only)
  have hcas := fun W (H : RunHas S0 w0 m a r rs s W) => rn_cas H 2 s.f.a ((s.f.a + 1) % 4294967296) HA.out (by have := HA.out; omega)
  cases hb : casB s.L 2 s.f.a ((s.f.a + 1) % 4294967296) with
  | true =>
    rw [hb] at hcas
    simp only [if_true]
    have HCAS := Lib.hid hcas
    clear hcas hb
    go_enter Tryz.func139, Tryz.ntmps139
    go_wp2_with fail
    refine region_flat (by kernel_rfl) (by kernel_rfl) ?_
    simp only [probed, probes, List.nil_append, List.cons_append, probe]
    go_wp2_with fail
    refine (HCAS.out _ HH.out.drew).mono ?_
    rintro e w1 ⟨rfl, H1⟩
    go_wp2_with fail
    rw [only_normal]
    rename_i hK
    refine hK _ _ ?_
    clear hK
    go_wp2_with fail
    refine (run_note H1 (by have := HC.out; first | exact Nat.le_trans this (by decide) | (simp [Rn.note, Rn.did, Rn.setA, Rn.setB, Rn.waited, Rn.goto, Rn.noted]; omega)) 2 2).mono ?_
    rintro e w2 ⟨rfl, H2⟩
    go_wp2_with fail
    refine (rn_go H2 3).mono ?_
    rintro e w3 ⟨rfl, H3⟩
    go_wp2_with fail
    go_end0
    exact ⟨rfl, H3⟩
  | false =>
    rw [hb] at hcas
    simp only [Bool.false_eq_true, if_false]
    have HCAS := Lib.hid hcas
    clear hcas hb
    go_enter Tryz.func139, Tryz.ntmps139
    go_wp2_with fail
    refine region_flat (by kernel_rfl) (by kernel_rfl) ?_
    simp only [probed, probes, List.nil_append, List.cons_append, probe]
    go_wp2_with fail
    refine (HCAS.out _ HH.out.drew).mono ?_
    rintro e w1 ⟨rfl, H1⟩
    go_wp2_with fail
    rw [only_normal]
    rename_i hK
    refine hK _ _ ?_
    clear hK
    go_wp2_with fail
    refine (rn_go H1 0).mono ?_
    rintro e w2 ⟨rfl, H2⟩
    go_wp2_with fail
    (try simp only [Exit.inBlock, Exit.then]); refine bodyPost_ret (results_none rfl _ _ _) rfl ?_
    exact ⟨rfl, H2⟩
def pft1 (s : Rn) : Rn :=
  let s1 := (s.did (doA s.L ⟨1, 3, 0, 0, 0⟩)).setB (doA s.L ⟨1, 3, 0, 0, 0⟩).1.old
  if 0 < aheadA s.f.a (doA s.L ⟨1, 3, 0, 0, 0⟩).1.old then (s1.note 5 0).fin false else if aheadA s.f.a (doA s.L ⟨1, 3, 0, 0, 0⟩).1.old < 0 then s1.goto 0 else s1.goto 2
set_option maxHeartbeats 800000 in
theorem pf_t1 {S0 : List Nat} {w0 w : World} {m a r : Nat} {rs : List Res} {s : Rn} (H : RunHas S0 w0 m a r rs s w) {o : Int} (hop : s.f.op = o) (hl : s.f.line = 1) (hn : I64 s.n) (ha : 0 ≤ s.f.a ∧ s.f.a < 4294967296) (hb : 0 ≤ s.f.b ∧ s.f.b < 4294967296) (hc : s.notes.length ≤ 900) :
    Calls Tryz.prog 139 #[.pointer (some ⟨r, 0, none⟩)] w fun e w' => e = .returned (.tuple #[]) ∧ RunHas S0 w0 m a r rs (pft1 s) w' := by
  obtain ⟨z0, z2, z4, z5, z6, z7⟩ := H.facts hop hl rfl rfl
  have HC := Lib.hid hc
  have HA := Lib.hid ha
  have HBB := Lib.hid hb
  have HN := Lib.hid hn
  have hv := H.old ⟨1, 3, 0, 0, 0⟩
  have hah := fun W => ahead_any s.f.a (doA s.L ⟨1, 3, 0, 0, 0⟩).1.old W ha hv
  clear hv
  have HH := Lib.hid H
  clear hc H hn ha hb
  unfold pft1
  (try dsimp only)
  have HAH := Lib.hid hah
  clear hah
  generalize aheadA s.f.a (doA s.L ⟨1, 3, 0, 0, 0⟩).1.old = n at HAH ⊢
  by_cases c1 : 0 < n
  · rw [if_pos c1]
    go_enter Tryz.func139, Tryz.ntmps139
    go_wp2_with fail
    refine (rn_load HH.out 3).mono ?_
    rintro e w1 ⟨rfl, H1⟩
    obtain ⟨x0, x2, x4, x5, x6, x7⟩ := H1.facts hop hl rfl rfl
    go_wp2_with fail
    refine region_flat (by kernel_rfl) (by kernel_rfl) ?_
    simp only [probed, probes, List.nil_append]
    go_wp2_with fail
    refine (HAH.out _).mono ?_
    rintro e w2 ⟨rfl, rfl⟩
    go_wp2_with fail
    rw [only_normal]
    rename_i hK
    refine hK _ _ ?_
    clear hK
    have H2 := (H1.setB (doA s.L ⟨1, 3, 0, 0, 0⟩).1.old).drew
    go_wp2_with fail
    refine (run_note H2 (by have := HC.out; first | exact Nat.le_trans this (by decide) | (simp [Rn.note, Rn.did, Rn.setA, Rn.setB, Rn.waited, Rn.goto, Rn.noted]; omega)) 5 0).mono ?_
    rintro e w3 ⟨rfl, H3⟩
    go_wp2_with fail
    refine (rn_end H3 false).mono ?_
    rintro e w4 ⟨rfl, H4⟩
    go_wp2_with fail
    go_end0
    exact ⟨rfl, H4⟩
  · rw [if_neg c1]
    by_cases c2 : n < 0
    · rw [if_pos c2]
      go_enter Tryz.func139, Tryz.ntmps139
      go_wp2_with fail
      refine (rn_load HH.out 3).mono ?_
      rintro e w1 ⟨rfl, H1⟩
      obtain ⟨x0, x2, x4, x5, x6, x7⟩ := H1.facts hop hl rfl rfl
      go_wp2_with fail
      refine region_flat (by kernel_rfl) (by kernel_rfl) ?_
      simp only [probed, probes, List.nil_append]
      go_wp2_with fail
      refine (HAH.out _).mono ?_
      rintro e w2 ⟨rfl, rfl⟩
      go_wp2_with fail
      rw [only_normal]
      rename_i hK
      refine hK _ _ ?_
      clear hK
      have H2 := (H1.setB (doA s.L ⟨1, 3, 0, 0, 0⟩).1.old).drew
      go_wp2_with fail
      refine (rn_go H2 0).mono ?_
      rintro e w3 ⟨rfl, H3⟩
      go_wp2_with fail
      go_end0
      exact ⟨rfl, H3⟩
    · rw [if_neg c2]
      go_enter Tryz.func139, Tryz.ntmps139
      go_wp2_with fail
      refine (rn_load HH.out 3).mono ?_
      rintro e w1 ⟨rfl, H1⟩
      obtain ⟨x0, x2, x4, x5, x6, x7⟩ := H1.facts hop hl rfl rfl
      go_wp2_with fail
      refine region_flat (by kernel_rfl) (by kernel_rfl) ?_
      simp only [probed, probes, List.nil_append]
      go_wp2_with fail
      refine (HAH.out _).mono ?_
      rintro e w2 ⟨rfl, rfl⟩
      go_wp2_with fail
      rw [only_normal]
      rename_i hK
      refine hK _ _ ?_
      clear hK
      have H2 := (H1.setB (doA s.L ⟨1, 3, 0, 0, 0⟩).1.old).drew
      go_wp2_with fail
      refine (rn_go H2 2).mono ?_
      rintro e w3 ⟨rfl, H3⟩
      go_wp2_with fail
      go_end0
      exact ⟨rfl, H3⟩
def pfIn6 (s : Rn) : Rn :=
  let s1 := (s.did (doA s.L ⟨1, 1, 0, 0, 0⟩)).setB (doA s.L ⟨1, 1, 0, 0, 0⟩).1.old
  if 0 < aheadA s.f.a (doA s.L ⟨1, 1, 0, 0, 0⟩).1.old then (s1.note 5 0).goto 9 else s1.goto 5
set_option maxHeartbeats 1600000 in
theorem pf_inside6 {S0 : List Nat} {w0 w : World} {m a r : Nat} {rs : List Res} {s : Rn} (H : RunHas S0 w0 m a r rs s w) {l : Int} (hop : s.f.op = 6) (hl : s.f.line = l) (ha : 0 ≤ s.f.a ∧ s.f.a < 4294967296) (hc : s.notes.length ≤ 900) :
    Calls Tryz.prog 169 #[.pointer (some ⟨r, 0, none⟩)] w fun e w' => e = .returned (.tuple #[]) ∧ RunHas S0 w0 m a r rs (pfIn6 s) w' := by
  have hv := H.old ⟨1, 1, 0, 0, 0⟩
  have hah := fun W => ahead_any s.f.a (doA s.L ⟨1, 1, 0, 0, 0⟩).1.old W ha hv
  have HC := Lib.hid hc
  have HAH := Lib.hid hah
  have HH := Lib.hid H
  clear hv hah hc H ha
  unfold pfIn6
  dsimp only
  generalize aheadA s.f.a (doA s.L ⟨1, 1, 0, 0, 0⟩).1.old = n at HAH ⊢
  have hw0 : IntKind.i64.wrap 0 = 0 := by decide
  by_cases c1 : 0 < n
  · rw [if_pos c1]
    have d1 : decide (0 < n) = true := by simpa using c1
    have HD1 := Lib.hid c1
    clear c1
    go_enter Tryz.func169, Tryz.ntmps169
    go_wp2_with fail
    refine (rn_load HH.out 1).mono ?_
    rintro e w1 ⟨rfl, H1⟩
    obtain ⟨x0, x2, x4, x5, x6, x7⟩ := H1.facts hop hl rfl rfl
    go_wp2_with fail
    have H2 := (H1.setB (doA s.L ⟨1, 1, 0, 0, 0⟩).1.old).drew
    have hd6 : ((w1.setCell ⟨r, 7, none⟩ (.int .u32 (doA s.L ⟨1, 1, 0, 0, 0⟩).1.old)).drew).cell? ⟨r, 6, none⟩ = some (.int .u32 s.f.a) := (H2.facts hop hl rfl rfl).2.2.2.2.1
    have hd7 : ((w1.setCell ⟨r, 7, none⟩ (.int .u32 (doA s.L ⟨1, 1, 0, 0, 0⟩).1.old)).drew).cell? ⟨r, 7, none⟩ = some (.int .u32 (doA s.L ⟨1, 1, 0, 0, 0⟩).1.old) := (H2.facts hop hl rfl rfl).2.2.2.2.2
    go_region_held3 (fun w' => w'.cell? ⟨r, 6, none⟩ = some (.int .u32 s.f.a) ∧ w'.cell? ⟨r, 7, none⟩ = some (.int .u32 (doA s.L ⟨1, 1, 0, 0, 0⟩).1.old) ∧ RunHas S0 w0 m a r rs ((s.did (doA s.L ⟨1, 1, 0, 0, 0⟩)).setB (doA s.L ⟨1, 1, 0, 0, 0⟩).1.old) w')
      (first | (go_split_ands; refine ⟨?_, ?_, ?_⟩ <;> assumption))
      (first | (go_at_call 168; (with_reducible refine (HAH.out _).mono ?_); rintro e w4 ⟨rfl, rfl⟩) | (go_at_call 184; refine (pf_own_no H2 hop hl).mono ?_; rintro e w5 ⟨rfl, rfl⟩))
    all_goals
      go_wp2_with fail
      refine (run_note H2 (by have := HC.out; first | exact Nat.le_trans this (by decide) | (simp [Rn.note, Rn.did, Rn.setA, Rn.setB, Rn.waited, Rn.goto, Rn.noted]; omega)) 5 0).mono ?_
      rintro e w3 ⟨rfl, H3⟩
      go_wp2_with fail
      refine (rn_go H3 9).mono ?_
      rintro e w4 ⟨rfl, H4⟩
      go_wp2_with fail
      (try simp only [Exit.inBlock, Exit.then]); refine bodyPost_ret (results_none rfl _ _ _) rfl ?_
      exact ⟨rfl, H4⟩
  · rw [if_neg c1]
    have d1 : decide (0 < n) = false := by simpa using c1
    clear c1
    go_enter Tryz.func169, Tryz.ntmps169
    go_wp2_with fail
    refine (rn_load HH.out 1).mono ?_
    rintro e w1 ⟨rfl, H1⟩
    obtain ⟨x0, x2, x4, x5, x6, x7⟩ := H1.facts hop hl rfl rfl
    go_wp2_with fail
    have H2 := (H1.setB (doA s.L ⟨1, 1, 0, 0, 0⟩).1.old).drew
    have hd6 : ((w1.setCell ⟨r, 7, none⟩ (.int .u32 (doA s.L ⟨1, 1, 0, 0, 0⟩).1.old)).drew).cell? ⟨r, 6, none⟩ = some (.int .u32 s.f.a) := (H2.facts hop hl rfl rfl).2.2.2.2.1
    have hd7 : ((w1.setCell ⟨r, 7, none⟩ (.int .u32 (doA s.L ⟨1, 1, 0, 0, 0⟩).1.old)).drew).cell? ⟨r, 7, none⟩ = some (.int .u32 (doA s.L ⟨1, 1, 0, 0, 0⟩).1.old) := (H2.facts hop hl rfl rfl).2.2.2.2.2
    go_region_held3 (fun w' => w'.cell? ⟨r, 6, none⟩ = some (.int .u32 s.f.a) ∧ w'.cell? ⟨r, 7, none⟩ = some (.int .u32 (doA s.L ⟨1, 1, 0, 0, 0⟩).1.old) ∧ RunHas S0 w0 m a r rs ((s.did (doA s.L ⟨1, 1, 0, 0, 0⟩)).setB (doA s.L ⟨1, 1, 0, 0, 0⟩).1.old) w')
      (first | (go_split_ands; refine ⟨?_, ?_, ?_⟩ <;> assumption))
      (first | (go_at_call 168; (with_reducible refine (HAH.out _).mono ?_); rintro e w4 ⟨rfl, rfl⟩) | (go_at_call 184; refine (pf_own_no H2 hop hl).mono ?_; rintro e w5 ⟨rfl, rfl⟩))
    all_goals
      go_wp2_with fail
      refine (rn_go H2 5).mono ?_
      rintro e w3 ⟨rfl, H3⟩
      go_wp2_with fail
      go_end0
      exact ⟨rfl, H3⟩
def pft46 (s : Rn) : Rn :=
  pfIn6 s
set_option maxHeartbeats 800000 in
theorem pf_t46 {S0 : List Nat} {w0 w : World} {m a r : Nat} {rs : List Res} {s : Rn} (H : RunHas S0 w0 m a r rs s w) (hop : s.f.op = 6) (hl : s.f.line = 4) (hn : I64 s.n) (ha : 0 ≤ s.f.a ∧ s.f.a < 4294967296) (hb : 0 ≤ s.f.b ∧ s.f.b < 4294967296) (hc : s.notes.length ≤ 900) :
    Calls Tryz.prog 139 #[.pointer (some ⟨r, 0, none⟩)] w fun e w' => e = .returned (.tuple #[]) ∧ RunHas S0 w0 m a r rs (pft46 s) w' := by
  obtain ⟨z0, z2, z4, z5, z6, z7⟩ := H.facts hop hl rfl rfl
  have HC := Lib.hid hc
  have HA := Lib.hid ha
  have HBB := Lib.hid hb
  have HN := Lib.hid hn
  have HH := Lib.hid H
  clear hc H hn ha hb
  unfold pft46
  (try dsimp only)
  go_enter Tryz.func139, Tryz.ntmps139
  go_wp2_with fail
  refine (pf_inside6 HH.out hop hl HA.out HC.out).mono ?_
  rintro e w1 ⟨rfl, H1⟩
  go_wp2_with fail
  go_end0
  exact ⟨rfl, H1⟩
def pfIn7 (s : Rn) : Rn :=
  let s1 := (s.did (doA s.L ⟨1, 1, 0, 0, 0⟩)).setB (doA s.L ⟨1, 1, 0, 0, 0⟩).1.old
  if 256 < aheadA s.f.a (doA s.L ⟨1, 1, 0, 0, 0⟩).1.old then (s1.note 5 0).goto 9 else s1.goto 5
set_option maxHeartbeats 1600000 in
theorem pf_inside7 {S0 : List Nat} {w0 w : World} {m a r : Nat} {rs : List Res} {s : Rn} (H : RunHas S0 w0 m a r rs s w) {l : Int} (hop : s.f.op = 7) (hl : s.f.line = l) (ha : 0 ≤ s.f.a ∧ s.f.a < 4294967296) (hc : s.notes.length ≤ 900) :
    Calls Tryz.prog 169 #[.pointer (some ⟨r, 0, none⟩)] w fun e w' => e = .returned (.tuple #[]) ∧ RunHas S0 w0 m a r rs (pfIn7 s) w' := by
  have hv := H.old ⟨1, 1, 0, 0, 0⟩
  have hah := fun W => ahead_any s.f.a (doA s.L ⟨1, 1, 0, 0, 0⟩).1.old W ha hv
  have HC := Lib.hid hc
  have HAH := Lib.hid hah
  have HH := Lib.hid H
  clear hv hah hc H ha
  unfold pfIn7
  dsimp only
  generalize aheadA s.f.a (doA s.L ⟨1, 1, 0, 0, 0⟩).1.old = n at HAH ⊢
  have hw0 : IntKind.i64.wrap 256 = 256 := by decide
  by_cases c1 : 256 < n
  · rw [if_pos c1]
    have d1 : decide (256 < n) = true := by simpa using c1
    have HD1 := Lib.hid c1
    clear c1
    go_enter Tryz.func169, Tryz.ntmps169
    go_wp2_with fail
    refine (rn_load HH.out 1).mono ?_
    rintro e w1 ⟨rfl, H1⟩
    obtain ⟨x0, x2, x4, x5, x6, x7⟩ := H1.facts hop hl rfl rfl
    go_wp2_with fail
    have H2 := (H1.setB (doA s.L ⟨1, 1, 0, 0, 0⟩).1.old).drew
    have hd6 : ((w1.setCell ⟨r, 7, none⟩ (.int .u32 (doA s.L ⟨1, 1, 0, 0, 0⟩).1.old)).drew).cell? ⟨r, 6, none⟩ = some (.int .u32 s.f.a) := (H2.facts hop hl rfl rfl).2.2.2.2.1
    have hd7 : ((w1.setCell ⟨r, 7, none⟩ (.int .u32 (doA s.L ⟨1, 1, 0, 0, 0⟩).1.old)).drew).cell? ⟨r, 7, none⟩ = some (.int .u32 (doA s.L ⟨1, 1, 0, 0, 0⟩).1.old) := (H2.facts hop hl rfl rfl).2.2.2.2.2
    go_region_held3 (fun w' => w'.cell? ⟨r, 6, none⟩ = some (.int .u32 s.f.a) ∧ w'.cell? ⟨r, 7, none⟩ = some (.int .u32 (doA s.L ⟨1, 1, 0, 0, 0⟩).1.old) ∧ RunHas S0 w0 m a r rs ((s.did (doA s.L ⟨1, 1, 0, 0, 0⟩)).setB (doA s.L ⟨1, 1, 0, 0, 0⟩).1.old) w')
      (first | (go_split_ands; refine ⟨?_, ?_, ?_⟩ <;> assumption))
      (first | (go_at_call 168; (with_reducible refine (HAH.out _).mono ?_); rintro e w4 ⟨rfl, rfl⟩) | (go_at_call 184; refine (pf_own_up H2 hop hl).mono ?_; rintro e w5 ⟨rfl, rfl⟩))
    all_goals
      go_wp2_with fail
      refine (run_note H2 (by have := HC.out; first | exact Nat.le_trans this (by decide) | (simp [Rn.note, Rn.did, Rn.setA, Rn.setB, Rn.waited, Rn.goto, Rn.noted]; omega)) 5 0).mono ?_
      rintro e w3 ⟨rfl, H3⟩
      go_wp2_with fail
      refine (rn_go H3 9).mono ?_
      rintro e w4 ⟨rfl, H4⟩
      go_wp2_with fail
      (try simp only [Exit.inBlock, Exit.then]); refine bodyPost_ret (results_none rfl _ _ _) rfl ?_
      exact ⟨rfl, H4⟩
  · rw [if_neg c1]
    have d1 : decide (256 < n) = false := by simpa using c1
    clear c1
    go_enter Tryz.func169, Tryz.ntmps169
    go_wp2_with fail
    refine (rn_load HH.out 1).mono ?_
    rintro e w1 ⟨rfl, H1⟩
    obtain ⟨x0, x2, x4, x5, x6, x7⟩ := H1.facts hop hl rfl rfl
    go_wp2_with fail
    have H2 := (H1.setB (doA s.L ⟨1, 1, 0, 0, 0⟩).1.old).drew
    have hd6 : ((w1.setCell ⟨r, 7, none⟩ (.int .u32 (doA s.L ⟨1, 1, 0, 0, 0⟩).1.old)).drew).cell? ⟨r, 6, none⟩ = some (.int .u32 s.f.a) := (H2.facts hop hl rfl rfl).2.2.2.2.1
    have hd7 : ((w1.setCell ⟨r, 7, none⟩ (.int .u32 (doA s.L ⟨1, 1, 0, 0, 0⟩).1.old)).drew).cell? ⟨r, 7, none⟩ = some (.int .u32 (doA s.L ⟨1, 1, 0, 0, 0⟩).1.old) := (H2.facts hop hl rfl rfl).2.2.2.2.2
    go_region_held3 (fun w' => w'.cell? ⟨r, 6, none⟩ = some (.int .u32 s.f.a) ∧ w'.cell? ⟨r, 7, none⟩ = some (.int .u32 (doA s.L ⟨1, 1, 0, 0, 0⟩).1.old) ∧ RunHas S0 w0 m a r rs ((s.did (doA s.L ⟨1, 1, 0, 0, 0⟩)).setB (doA s.L ⟨1, 1, 0, 0, 0⟩).1.old) w')
      (first | (go_split_ands; refine ⟨?_, ?_, ?_⟩ <;> assumption))
      (first | (go_at_call 168; (with_reducible refine (HAH.out _).mono ?_); rintro e w4 ⟨rfl, rfl⟩) | (go_at_call 184; refine (pf_own_up H2 hop hl).mono ?_; rintro e w5 ⟨rfl, rfl⟩))
    all_goals
      go_wp2_with fail
      refine (rn_go H2 5).mono ?_
      rintro e w3 ⟨rfl, H3⟩
      go_wp2_with fail
      go_end0
      exact ⟨rfl, H3⟩
def pft47 (s : Rn) : Rn :=
  pfIn7 s
set_option maxHeartbeats 800000 in
theorem pf_t47 {S0 : List Nat} {w0 w : World} {m a r : Nat} {rs : List Res} {s : Rn} (H : RunHas S0 w0 m a r rs s w) (hop : s.f.op = 7) (hl : s.f.line = 4) (hn : I64 s.n) (ha : 0 ≤ s.f.a ∧ s.f.a < 4294967296) (hb : 0 ≤ s.f.b ∧ s.f.b < 4294967296) (hc : s.notes.length ≤ 900) :
    Calls Tryz.prog 139 #[.pointer (some ⟨r, 0, none⟩)] w fun e w' => e = .returned (.tuple #[]) ∧ RunHas S0 w0 m a r rs (pft47 s) w' := by
  obtain ⟨z0, z2, z4, z5, z6, z7⟩ := H.facts hop hl rfl rfl
  have HC := Lib.hid hc
  have HA := Lib.hid ha
  have HBB := Lib.hid hb
  have HN := Lib.hid hn
  have HH := Lib.hid H
  clear hc H hn ha hb
  unfold pft47
  (try dsimp only)
  go_enter Tryz.func139, Tryz.ntmps139
  go_wp2_with fail
  refine (pf_inside7 HH.out hop hl HA.out HC.out).mono ?_
  rintro e w1 ⟨rfl, H1⟩
  go_wp2_with fail
  go_end0
  exact ⟨rfl, H1⟩
def pfLast6 (s : Rn) : Rn :=
  let s1 := s.waited (waitA s.L s.n s.mode s.task s.f.st 1 (fun v => v == s.f.a))
  let s2 := if (waitA s.L s.n s.mode s.task s.f.st 1 (fun v => v == s.f.a)).seen then s1.note 4 0 else s1
  if (waitA s.L s.n s.mode s.task s.f.st 1 (fun v => v == s.f.a)).done then s2.fin true else s2
set_option maxHeartbeats 1600000 in
theorem pf_last6 {S0 : List Nat} {w0 w : World} {m a r : Nat} {rs : List Res} {s : Rn} (H : RunHas S0 w0 m a r rs s w) {l : Int} (hop : s.f.op = 6) (hl : s.f.line = l) (hn : I64 s.n) (ha : 0 ≤ s.f.a ∧ s.f.a < 4294967296) (hc : s.notes.length ≤ 900) :
    Calls Tryz.prog 170 #[.pointer (some ⟨r, 0, none⟩)] w fun e w' => e = .returned (.tuple #[]) ∧ RunHas S0 w0 m a r rs (pfLast6 s) w' := by
  obtain ⟨z0, z2, z4, z5, z6, z7⟩ := H.facts hop hl rfl rfl
  have HC := Lib.hid hc
  have HN := Lib.hid hn
  have HH := Lib.hid H
  clear hc H hn
  unfold pfLast6
  dsimp only
  have hwt := fun (t2 : Nat) W (H : RunHas S0 w0 m a r (.blk t2 #[.int .u32 s.f.a] :: rs) s W) => rn_wait H HN.out 1 185 #[] #[.pointer (some ⟨t2, 0, none⟩)] (fun v => v == s.f.a) (enters_of Tryz.func185 (by kernel_rfl) rfl) (fun W v h0 h1 H => pf_mine2 s.f.a v W H.first)
  cases hs : (waitA s.L s.n s.mode s.task s.f.st 1 (fun v => v == s.f.a)).seen <;> cases hd : (waitA s.L s.n s.mode s.task s.f.st 1 (fun v => v == s.f.a)).done <;> rw [hs, hd] at hwt <;> simp only [if_true, Bool.false_eq_true, if_false] <;> (have HWT := Lib.hid hwt) <;> clear hwt hs hd
  · go_enter Tryz.func170, Tryz.ntmps170
    go_wp2_with fail
    refine region_flat_call 5 rfl (by kernel_rfl) (by kernel_rfl) ?_
    simp only [List.take_succ_cons, List.take_zero, List.drop_succ_cons, List.drop_zero, probed, probes, List.nil_append, List.cons_append, probe]
    go_wp2_with fail
    rw [only_normal]
    refine half_static (.int .u32 0) rfl rfl (enters_of Tryz.func184 (by kernel_rfl) rfl) (by simp [Act.eval]) (fun W t => pf_own_no (HH.out.drew.grow t) hop hl) ?_
    simp only [probed, probes, List.nil_append, List.cons_append, probe]
    go_wp2_with fail
    rw [only_normal]
    rename_i hK
    refine hK _ _ ?_
    clear hK
    refine wp_from (Facts := fun V => RunHas S0 w0 m a r (.blk w.heap.size #[.int .u32 s.f.a] :: rs) s V) ?_ (by first | exact HH.out.drew.box rfl _ _ | exact (HH.out.box rfl _ _).drew)
    clear z0 z2 z4 z5 z6 z7
    intro W HW2
    generalize w.heap.size = tb at HW2 ⊢
    obtain ⟨z0, z2, z4, z5, z6, z7⟩ := HW2.facts hop hl rfl rfl
    go_wp2_with fail
    refine (HWT.out _ _ HW2).mono ?_
    rintro e w1 ⟨rfl, H1⟩
    go_wp2_with fail
    go_end0
    exact ⟨rfl, H1.unbox⟩
  · go_enter Tryz.func170, Tryz.ntmps170
    go_wp2_with fail
    refine region_flat_call 5 rfl (by kernel_rfl) (by kernel_rfl) ?_
    simp only [List.take_succ_cons, List.take_zero, List.drop_succ_cons, List.drop_zero, probed, probes, List.nil_append, List.cons_append, probe]
    go_wp2_with fail
    rw [only_normal]
    refine half_static (.int .u32 0) rfl rfl (enters_of Tryz.func184 (by kernel_rfl) rfl) (by simp [Act.eval]) (fun W t => pf_own_no (HH.out.drew.grow t) hop hl) ?_
    simp only [probed, probes, List.nil_append, List.cons_append, probe]
    go_wp2_with fail
    rw [only_normal]
    rename_i hK
    refine hK _ _ ?_
    clear hK
    refine wp_from (Facts := fun V => RunHas S0 w0 m a r (.blk w.heap.size #[.int .u32 s.f.a] :: rs) s V) ?_ (by first | exact HH.out.drew.box rfl _ _ | exact (HH.out.box rfl _ _).drew)
    clear z0 z2 z4 z5 z6 z7
    intro W HW2
    generalize w.heap.size = tb at HW2 ⊢
    obtain ⟨z0, z2, z4, z5, z6, z7⟩ := HW2.facts hop hl rfl rfl
    go_wp2_with fail
    refine (HWT.out _ _ HW2).mono ?_
    rintro e w1 ⟨rfl, H1⟩
    go_wp2_with fail
    refine (rn_end H1 true).mono ?_
    rintro e w2 ⟨rfl, H2⟩
    go_wp2_with fail
    go_end0
    exact ⟨rfl, H2.unbox⟩
  · go_enter Tryz.func170, Tryz.ntmps170
    go_wp2_with fail
    refine region_flat_call 5 rfl (by kernel_rfl) (by kernel_rfl) ?_
    simp only [List.take_succ_cons, List.take_zero, List.drop_succ_cons, List.drop_zero, probed, probes, List.nil_append, List.cons_append, probe]
    go_wp2_with fail
    rw [only_normal]
    refine half_static (.int .u32 0) rfl rfl (enters_of Tryz.func184 (by kernel_rfl) rfl) (by simp [Act.eval]) (fun W t => pf_own_no (HH.out.drew.grow t) hop hl) ?_
    simp only [probed, probes, List.nil_append, List.cons_append, probe]
    go_wp2_with fail
    rw [only_normal]
    rename_i hK
    refine hK _ _ ?_
    clear hK
    refine wp_from (Facts := fun V => RunHas S0 w0 m a r (.blk w.heap.size #[.int .u32 s.f.a] :: rs) s V) ?_ (by first | exact HH.out.drew.box rfl _ _ | exact (HH.out.box rfl _ _).drew)
    clear z0 z2 z4 z5 z6 z7
    intro W HW2
    generalize w.heap.size = tb at HW2 ⊢
    obtain ⟨z0, z2, z4, z5, z6, z7⟩ := HW2.facts hop hl rfl rfl
    go_wp2_with fail
    refine (HWT.out _ _ HW2).mono ?_
    rintro e w1 ⟨rfl, H1⟩
    go_wp2_with fail
    refine (run_note H1 (by have := HC.out; first | exact Nat.le_trans this (by decide) | (simp [Rn.note, Rn.did, Rn.setA, Rn.setB, Rn.waited, Rn.goto, Rn.noted]; omega)) 4 0).mono ?_
    rintro e w2 ⟨rfl, H2⟩
    go_wp2_with fail
    go_end0
    exact ⟨rfl, H2.unbox⟩
  · go_enter Tryz.func170, Tryz.ntmps170
    go_wp2_with fail
    refine region_flat_call 5 rfl (by kernel_rfl) (by kernel_rfl) ?_
    simp only [List.take_succ_cons, List.take_zero, List.drop_succ_cons, List.drop_zero, probed, probes, List.nil_append, List.cons_append, probe]
    go_wp2_with fail
    rw [only_normal]
    refine half_static (.int .u32 0) rfl rfl (enters_of Tryz.func184 (by kernel_rfl) rfl) (by simp [Act.eval]) (fun W t => pf_own_no (HH.out.drew.grow t) hop hl) ?_
    simp only [probed, probes, List.nil_append, List.cons_append, probe]
    go_wp2_with fail
    rw [only_normal]
    rename_i hK
    refine hK _ _ ?_
    clear hK
    refine wp_from (Facts := fun V => RunHas S0 w0 m a r (.blk w.heap.size #[.int .u32 s.f.a] :: rs) s V) ?_ (by first | exact HH.out.drew.box rfl _ _ | exact (HH.out.box rfl _ _).drew)
    clear z0 z2 z4 z5 z6 z7
    intro W HW2
    generalize w.heap.size = tb at HW2 ⊢
    obtain ⟨z0, z2, z4, z5, z6, z7⟩ := HW2.facts hop hl rfl rfl
    go_wp2_with fail
    refine (HWT.out _ _ HW2).mono ?_
    rintro e w1 ⟨rfl, H1⟩
    go_wp2_with fail
    refine (run_note H1 (by have := HC.out; first | exact Nat.le_trans this (by decide) | (simp [Rn.note, Rn.did, Rn.setA, Rn.setB, Rn.waited, Rn.goto, Rn.noted]; omega)) 4 0).mono ?_
    rintro e w2 ⟨rfl, H2⟩
    go_wp2_with fail
    refine (rn_end H2 true).mono ?_
    rintro e w3 ⟨rfl, H3⟩
    go_wp2_with fail
    go_end0
    exact ⟨rfl, H3.unbox⟩
def pft76 (s : Rn) : Rn :=
  pfLast6 s
set_option maxHeartbeats 800000 in
theorem pf_t76 {S0 : List Nat} {w0 w : World} {m a r : Nat} {rs : List Res} {s : Rn} (H : RunHas S0 w0 m a r rs s w) (hop : s.f.op = 6) (hl : s.f.line = 7) (hn : I64 s.n) (ha : 0 ≤ s.f.a ∧ s.f.a < 4294967296) (hb : 0 ≤ s.f.b ∧ s.f.b < 4294967296) (hc : s.notes.length ≤ 900) :
    Calls Tryz.prog 139 #[.pointer (some ⟨r, 0, none⟩)] w fun e w' => e = .returned (.tuple #[]) ∧ RunHas S0 w0 m a r rs (pft76 s) w' := by
  obtain ⟨z0, z2, z4, z5, z6, z7⟩ := H.facts hop hl rfl rfl
  have HC := Lib.hid hc
  have HA := Lib.hid ha
  have HBB := Lib.hid hb
  have HN := Lib.hid hn
  have HH := Lib.hid H
  clear hc H hn ha hb
  unfold pft76
  (try dsimp only)
  go_enter Tryz.func139, Tryz.ntmps139
  go_wp2_with fail
  refine (pf_last6 HH.out hop hl HN.out HA.out HC.out).mono ?_
  rintro e w1 ⟨rfl, H1⟩
  go_wp2_with fail
  go_end0
  exact ⟨rfl, H1⟩
def pfLast7 (s : Rn) : Rn :=
  let s1 := s.waited (waitA s.L s.n s.mode s.task s.f.st 1 (fun v => v == ((s.f.a - 256) % 4294967296)))
  let s2 := if (waitA s.L s.n s.mode s.task s.f.st 1 (fun v => v == ((s.f.a - 256) % 4294967296))).seen then s1.note 9 0 else s1
  if (waitA s.L s.n s.mode s.task s.f.st 1 (fun v => v == ((s.f.a - 256) % 4294967296))).done then s2.goto 8 else s2
set_option maxHeartbeats 1600000 in
theorem pf_last7 {S0 : List Nat} {w0 w : World} {m a r : Nat} {rs : List Res} {s : Rn} (H : RunHas S0 w0 m a r rs s w) {l : Int} (hop : s.f.op = 7) (hl : s.f.line = l) (hn : I64 s.n) (ha : 0 ≤ s.f.a ∧ s.f.a < 4294967296) (hc : s.notes.length ≤ 900) :
    Calls Tryz.prog 170 #[.pointer (some ⟨r, 0, none⟩)] w fun e w' => e = .returned (.tuple #[]) ∧ RunHas S0 w0 m a r rs (pfLast7 s) w' := by
  obtain ⟨z0, z2, z4, z5, z6, z7⟩ := H.facts hop hl rfl rfl
  have HC := Lib.hid hc
  have HN := Lib.hid hn
  have HH := Lib.hid H
  clear hc H hn
  unfold pfLast7
  dsimp only
  have hwt := fun (t2 : Nat) W (H : RunHas S0 w0 m a r (.blk t2 #[.int .u32 ((s.f.a - 256) % 4294967296)] :: rs) s W) => rn_wait H HN.out 1 185 #[] #[.pointer (some ⟨t2, 0, none⟩)] (fun v => v == ((s.f.a - 256) % 4294967296)) (enters_of Tryz.func185 (by kernel_rfl) rfl) (fun W v h0 h1 H => pf_mine2 ((s.f.a - 256) % 4294967296) v W H.first)
  cases hs : (waitA s.L s.n s.mode s.task s.f.st 1 (fun v => v == ((s.f.a - 256) % 4294967296))).seen <;> cases hd : (waitA s.L s.n s.mode s.task s.f.st 1 (fun v => v == ((s.f.a - 256) % 4294967296))).done <;> rw [hs, hd] at hwt <;> simp only [if_true, Bool.false_eq_true, if_false] <;> (have HWT := Lib.hid hwt) <;> clear hwt hs hd
  · go_enter Tryz.func170, Tryz.ntmps170
    go_wp2_with fail
    refine region_flat_call 5 rfl (by kernel_rfl) (by kernel_rfl) ?_
    simp only [List.take_succ_cons, List.take_zero, List.drop_succ_cons, List.drop_zero, probed, probes, List.nil_append, List.cons_append, probe]
    go_wp2_with fail
    rw [only_normal]
    refine half_static (.int .u32 256) rfl rfl (enters_of Tryz.func184 (by kernel_rfl) rfl) (by simp [Act.eval]) (fun W t => pf_own_up (HH.out.drew.grow t) hop hl) ?_
    simp only [probed, probes, List.nil_append, List.cons_append, probe]
    go_wp2_with fail
    rw [only_normal]
    rename_i hK
    refine hK _ _ ?_
    clear hK
    refine wp_from (Facts := fun V => RunHas S0 w0 m a r (.blk w.heap.size #[.int .u32 ((s.f.a - 256) % 4294967296)] :: rs) s V) ?_ (by first | exact HH.out.drew.box rfl _ _ | exact (HH.out.box rfl _ _).drew)
    clear z0 z2 z4 z5 z6 z7
    intro W HW2
    generalize w.heap.size = tb at HW2 ⊢
    obtain ⟨z0, z2, z4, z5, z6, z7⟩ := HW2.facts hop hl rfl rfl
    go_wp2_with fail
    refine (HWT.out _ _ HW2).mono ?_
    rintro e w1 ⟨rfl, H1⟩
    go_wp2_with fail
    go_end0
    exact ⟨rfl, H1.unbox⟩
  · go_enter Tryz.func170, Tryz.ntmps170
    go_wp2_with fail
    refine region_flat_call 5 rfl (by kernel_rfl) (by kernel_rfl) ?_
    simp only [List.take_succ_cons, List.take_zero, List.drop_succ_cons, List.drop_zero, probed, probes, List.nil_append, List.cons_append, probe]
    go_wp2_with fail
    rw [only_normal]
    refine half_static (.int .u32 256) rfl rfl (enters_of Tryz.func184 (by kernel_rfl) rfl) (by simp [Act.eval]) (fun W t => pf_own_up (HH.out.drew.grow t) hop hl) ?_
    simp only [probed, probes, List.nil_append, List.cons_append, probe]
    go_wp2_with fail
    rw [only_normal]
    rename_i hK
    refine hK _ _ ?_
    clear hK
    refine wp_from (Facts := fun V => RunHas S0 w0 m a r (.blk w.heap.size #[.int .u32 ((s.f.a - 256) % 4294967296)] :: rs) s V) ?_ (by first | exact HH.out.drew.box rfl _ _ | exact (HH.out.box rfl _ _).drew)
    clear z0 z2 z4 z5 z6 z7
    intro W HW2
    generalize w.heap.size = tb at HW2 ⊢
    obtain ⟨z0, z2, z4, z5, z6, z7⟩ := HW2.facts hop hl rfl rfl
    go_wp2_with fail
    refine (HWT.out _ _ HW2).mono ?_
    rintro e w1 ⟨rfl, H1⟩
    go_wp2_with fail
    refine (rn_go H1 8).mono ?_
    rintro e w2 ⟨rfl, H2⟩
    go_wp2_with fail
    go_end0
    exact ⟨rfl, H2.unbox⟩
  · go_enter Tryz.func170, Tryz.ntmps170
    go_wp2_with fail
    refine region_flat_call 5 rfl (by kernel_rfl) (by kernel_rfl) ?_
    simp only [List.take_succ_cons, List.take_zero, List.drop_succ_cons, List.drop_zero, probed, probes, List.nil_append, List.cons_append, probe]
    go_wp2_with fail
    rw [only_normal]
    refine half_static (.int .u32 256) rfl rfl (enters_of Tryz.func184 (by kernel_rfl) rfl) (by simp [Act.eval]) (fun W t => pf_own_up (HH.out.drew.grow t) hop hl) ?_
    simp only [probed, probes, List.nil_append, List.cons_append, probe]
    go_wp2_with fail
    rw [only_normal]
    rename_i hK
    refine hK _ _ ?_
    clear hK
    refine wp_from (Facts := fun V => RunHas S0 w0 m a r (.blk w.heap.size #[.int .u32 ((s.f.a - 256) % 4294967296)] :: rs) s V) ?_ (by first | exact HH.out.drew.box rfl _ _ | exact (HH.out.box rfl _ _).drew)
    clear z0 z2 z4 z5 z6 z7
    intro W HW2
    generalize w.heap.size = tb at HW2 ⊢
    obtain ⟨z0, z2, z4, z5, z6, z7⟩ := HW2.facts hop hl rfl rfl
    go_wp2_with fail
    refine (HWT.out _ _ HW2).mono ?_
    rintro e w1 ⟨rfl, H1⟩
    go_wp2_with fail
    refine (run_note H1 (by have := HC.out; first | exact Nat.le_trans this (by decide) | (simp [Rn.note, Rn.did, Rn.setA, Rn.setB, Rn.waited, Rn.goto, Rn.noted]; omega)) 9 0).mono ?_
    rintro e w2 ⟨rfl, H2⟩
    go_wp2_with fail
    go_end0
    exact ⟨rfl, H2.unbox⟩
  · go_enter Tryz.func170, Tryz.ntmps170
    go_wp2_with fail
    refine region_flat_call 5 rfl (by kernel_rfl) (by kernel_rfl) ?_
    simp only [List.take_succ_cons, List.take_zero, List.drop_succ_cons, List.drop_zero, probed, probes, List.nil_append, List.cons_append, probe]
    go_wp2_with fail
    rw [only_normal]
    refine half_static (.int .u32 256) rfl rfl (enters_of Tryz.func184 (by kernel_rfl) rfl) (by simp [Act.eval]) (fun W t => pf_own_up (HH.out.drew.grow t) hop hl) ?_
    simp only [probed, probes, List.nil_append, List.cons_append, probe]
    go_wp2_with fail
    rw [only_normal]
    rename_i hK
    refine hK _ _ ?_
    clear hK
    refine wp_from (Facts := fun V => RunHas S0 w0 m a r (.blk w.heap.size #[.int .u32 ((s.f.a - 256) % 4294967296)] :: rs) s V) ?_ (by first | exact HH.out.drew.box rfl _ _ | exact (HH.out.box rfl _ _).drew)
    clear z0 z2 z4 z5 z6 z7
    intro W HW2
    generalize w.heap.size = tb at HW2 ⊢
    obtain ⟨z0, z2, z4, z5, z6, z7⟩ := HW2.facts hop hl rfl rfl
    go_wp2_with fail
    refine (HWT.out _ _ HW2).mono ?_
    rintro e w1 ⟨rfl, H1⟩
    go_wp2_with fail
    refine (run_note H1 (by have := HC.out; first | exact Nat.le_trans this (by decide) | (simp [Rn.note, Rn.did, Rn.setA, Rn.setB, Rn.waited, Rn.goto, Rn.noted]; omega)) 9 0).mono ?_
    rintro e w2 ⟨rfl, H2⟩
    go_wp2_with fail
    refine (rn_go H2 8).mono ?_
    rintro e w3 ⟨rfl, H3⟩
    go_wp2_with fail
    go_end0
    exact ⟨rfl, H3.unbox⟩
def pft77 (s : Rn) : Rn :=
  pfLast7 s
set_option maxHeartbeats 800000 in
theorem pf_t77 {S0 : List Nat} {w0 w : World} {m a r : Nat} {rs : List Res} {s : Rn} (H : RunHas S0 w0 m a r rs s w) (hop : s.f.op = 7) (hl : s.f.line = 7) (hn : I64 s.n) (ha : 0 ≤ s.f.a ∧ s.f.a < 4294967296) (hb : 0 ≤ s.f.b ∧ s.f.b < 4294967296) (hc : s.notes.length ≤ 900) :
    Calls Tryz.prog 139 #[.pointer (some ⟨r, 0, none⟩)] w fun e w' => e = .returned (.tuple #[]) ∧ RunHas S0 w0 m a r rs (pft77 s) w' := by
  obtain ⟨z0, z2, z4, z5, z6, z7⟩ := H.facts hop hl rfl rfl
  have HC := Lib.hid hc
  have HA := Lib.hid ha
  have HBB := Lib.hid hb
  have HN := Lib.hid hn
  have HH := Lib.hid H
  clear hc H hn ha hb
  unfold pft77
  (try dsimp only)
  go_enter Tryz.func139, Tryz.ntmps139
  go_wp2_with fail
  refine (pf_last7 HH.out hop hl HN.out HA.out HC.out).mono ?_
  rintro e w1 ⟨rfl, H1⟩
  go_wp2_with fail
  go_end0
  exact ⟨rfl, H1⟩
def pft87 (s : Rn) : Rn :=
  (s.did (doA s.L ⟨3, 1, 256, 0, 0⟩)).fin true
set_option maxHeartbeats 800000 in
theorem pf_t87 {S0 : List Nat} {w0 w : World} {m a r : Nat} {rs : List Res} {s : Rn} (H : RunHas S0 w0 m a r rs s w) (hop : s.f.op = 7) (hl : s.f.line = 8) (hn : I64 s.n) (ha : 0 ≤ s.f.a ∧ s.f.a < 4294967296) (hb : 0 ≤ s.f.b ∧ s.f.b < 4294967296) (hc : s.notes.length ≤ 900) :
    Calls Tryz.prog 139 #[.pointer (some ⟨r, 0, none⟩)] w fun e w' => e = .returned (.tuple #[]) ∧ RunHas S0 w0 m a r rs (pft87 s) w' := by
  obtain ⟨z0, z2, z4, z5, z6, z7⟩ := H.facts hop hl rfl rfl
  have HC := Lib.hid hc
  have HA := Lib.hid ha
  have HBB := Lib.hid hb
  have HN := Lib.hid hn
  have HH := Lib.hid H
  clear hc H hn ha hb
  unfold pft87
  (try dsimp only)
  go_enter Tryz.func139, Tryz.ntmps139
  go_wp2_with fail
  refine (rn_add HH.out 1 256 (by decide)).mono ?_
  rintro e w1 ⟨rfl, H1⟩
  go_wp2_with fail
  refine (rn_end H1 true).mono ?_
  rintro e w2 ⟨rfl, H2⟩
  go_wp2_with fail
  go_end0
  exact ⟨rfl, H2⟩
def pft86 (s : Rn) : Rn :=
  s
set_option maxHeartbeats 800000 in
theorem pf_t86 {S0 : List Nat} {w0 w : World} {m a r : Nat} {rs : List Res} {s : Rn} (H : RunHas S0 w0 m a r rs s w) (hop : s.f.op = 6) (hl : s.f.line = 8) (hn : I64 s.n) (ha : 0 ≤ s.f.a ∧ s.f.a < 4294967296) (hb : 0 ≤ s.f.b ∧ s.f.b < 4294967296) (hc : s.notes.length ≤ 900) :
    Calls Tryz.prog 139 #[.pointer (some ⟨r, 0, none⟩)] w fun e w' => e = .returned (.tuple #[]) ∧ RunHas S0 w0 m a r rs (pft86 s) w' := by
  obtain ⟨z0, z2, z4, z5, z6, z7⟩ := H.facts hop hl rfl rfl
  have HC := Lib.hid hc
  have HA := Lib.hid ha
  have HBB := Lib.hid hb
  have HN := Lib.hid hn
  have HH := Lib.hid H
  clear hc H hn ha hb
  unfold pft86
  (try dsimp only)
  go_enter Tryz.func139, Tryz.ntmps139
  go_wp2_with fail
  go_end0
  exact ⟨rfl, HH.out⟩
end Go.Proofs.YthnimpkoidablaaGreat.Z

set_option linter.unusedVariables false
set_option linter.unusedSimpArgs false
namespace Go.Proofs.YthnimpkoidablaaGreat.Z
open Go.RowKit
theorem pf_reads {S0 : List Nat} {w0 w : World} {m a r : Nat} {rs : List Res} {s s2 : Rn} (H : RunHas S0 w0 m a r rs s w)
    (hr : ∀ W, RunHas S0 w0 m a r rs s W → Calls Tryz.prog 93 #[.pointer (some ⟨r, 0, none⟩), .int .i64 0, .int .i64 1] W fun e w' => e = .returned (.bool true) ∧ RunHas S0 w0 m a r rs s2 w') :
    Calls Tryz.prog 68 #[.pointer (some ⟨r, 0, none⟩)] w fun e w' => e = .returned (.tuple #[]) ∧ RunHas S0 w0 m a r rs s2 w' := by
  have HR := Lib.hid hr
  have HH := Lib.hid H
  clear hr H
  go_enter Tryz.func68, Tryz.ntmps68
  go_wp2_with fail
  refine (HR.out _ HH.out).mono ?_
  rintro e w1 ⟨rfl, H1⟩
  go_wp2_with fail
  (try simp only [Exit.inBlock, Exit.then]); refine bodyPost_ret (results_none rfl _ _ _) rfl ?_
  exact ⟨rfl, H1⟩
set_option maxHeartbeats 3200000 in
theorem pf_default {S0 : List Nat} {w0 w : World} {m a r : Nat} {rs : List Res} {s s2 : Rn} (H : RunHas S0 w0 m a r rs s w) {o l : Int} (hop : s.f.op = o) (hl : s.f.line = l) (hb : 0 ≤ s.f.b ∧ s.f.b < 4294967296)
    (h0 : ¬ (o = 1 ∧ l = 0)) (h1 : ¬ (o = 1 ∧ l = 1)) (h2 : ¬ (o = 2 ∧ l = 0)) (h3 : ¬ (o = 5 ∧ l = 0)) (h4 : ¬ (o = 5 ∧ l = 1)) (h5 : ¬ (o = 3 ∧ l = 0)) (h6 : ¬ (o = 3 ∧ l = 1)) (h7 : ¬ (o = 3 ∧ l = 2)) (h8 : ¬ (o = 3 ∧ l = 3)) (h9 : ¬ (o = 3 ∧ l = 4))
    (ht : ∀ rs W, RunHas S0 w0 m a r rs s W → Calls Tryz.prog 97 #[.pointer (some ⟨r, 0, none⟩)] W fun e w' => e = .returned (.tuple #[]) ∧ RunHas S0 w0 m a r rs s2 w') :
    Calls Tryz.prog 68 #[.pointer (some ⟨r, 0, none⟩)] w fun e w' => e = .returned (.tuple #[]) ∧ RunHas S0 w0 m a r rs s2 w' := by
  have HT := Lib.hid ht
  have HBB := Lib.hid hb
  obtain ⟨z0, z2, z4, z5, z6, z7⟩ := H.facts hop hl rfl rfl
  have HH := Lib.hid H
  clear H ht hb
  go_enter Tryz.func68, Tryz.ntmps68
  go_wp2_with fail
  refine (pf_r_none HH.out hop hl h0 h1 h2 h3 h4).mono ?_
  rintro e w1 ⟨rfl, H1⟩
  clear z0 z2 z4 z5 z6 z7
  obtain ⟨z0, z2, z4, z5, z6, z7⟩ := H1.facts hop hl rfl rfl
  go_wp2_with fail
  refine region_flat_call 8 rfl (by kernel_rfl) (by kernel_rfl) ?_
  simp only [List.take_succ_cons, List.take_zero, List.drop_succ_cons, List.drop_zero, probed, probes, List.nil_append, List.cons_append, probe]
  go_wp2_with fail
  rw [only_normal]
  refine half_static (.int .u32 (pfP s.f.b)) rfl rfl (enters_of Tryz.func94 (by kernel_rfl) rfl) (by simp [Act.eval]) (fun W _ => pf_presence s.f.b W HBB.out) ?_
  simp only [probed, probes, List.nil_append]
  go_wp2_with fail
  rw [only_normal]
  rename_i hK
  refine hK _ _ ?_
  clear hK
  refine wp_from (Facts := fun V => RunHas S0 w0 m a r (.blk w1.heap.size #[.int .u32 s.f.a] :: rs) s V) ?_ (by first | exact H1.drew.box rfl _ _ | exact (H1.box rfl _ _).drew)
  clear z0 z2 z4 z5 z6 z7 H1
  intro W HW
  generalize w1.heap.size = tb at HW ⊢
  obtain ⟨z0, z2, z4, z5, z6, z7⟩ := HW.facts hop hl rfl rfl
  go_wp2_with fail
  go_quiet (fail)
  have HW2 := HW.drewN nq
  clear z0 z2 z4 z5 z6 z7 HW
  generalize W.drewN nq = W2 at HW2 ⊢
  obtain ⟨z0, z2, z4, z5, z6, z7⟩ := HW2.facts hop hl rfl rfl
  go_wp2_with fail
  all_goals
    refine (HT.out _ _ HW2).mono ?_
    rintro e w1 ⟨rfl, H1⟩
    go_wp2_with fail
    go_end0
    exact ⟨rfl, H1.unbox⟩
set_option maxHeartbeats 1600000 in
theorem pf_to_tries6 {S0 : List Nat} {w0 w : World} {m a r : Nat} {rs : List Res} {s s2 : Rn} (H : RunHas S0 w0 m a r rs s w) {l : Int} (hop : s.f.op = 6) (hl : s.f.line = l) (hb : 0 ≤ s.f.b ∧ s.f.b < 4294967296)
    (ht : ∀ W, RunHas S0 w0 m a r rs s W → Calls Tryz.prog 139 #[.pointer (some ⟨r, 0, none⟩)] W fun e w' => e = .returned (.tuple #[]) ∧ RunHas S0 w0 m a r rs s2 w') :
    Calls Tryz.prog 97 #[.pointer (some ⟨r, 0, none⟩)] w fun e w' => e = .returned (.tuple #[]) ∧ RunHas S0 w0 m a r rs s2 w' := by
  have HT := Lib.hid ht
  have HBB := Lib.hid hb
  obtain ⟨z0, z2, z4, z5, z6, z7⟩ := H.facts hop hl rfl rfl
  have HH := Lib.hid H
  clear H ht hb
  go_enter Tryz.func97, Tryz.ntmps97
  go_wp2_with fail
  refine (pf_presence _ _ HBB.out).mono ?_
  rintro e w1 ⟨rfl, rfl⟩
  go_wp2_with fail
  go_quiet (fail)
  have HW := HH.out.drewN nq
  clear z0 z2 z4 z5 z6 z7
  generalize w.drewN nq = W at HW ⊢
  obtain ⟨z0, z2, z4, z5, z6, z7⟩ := HW.facts hop hl rfl rfl
  go_wp2_with fail
  refine (HT.out _ HW).mono ?_
  rintro e w1 ⟨rfl, H1⟩
  go_wp2_with fail
  go_end0
  exact ⟨rfl, H1⟩
set_option maxHeartbeats 1600000 in
theorem pf_to_tries7 {S0 : List Nat} {w0 w : World} {m a r : Nat} {rs : List Res} {s s2 : Rn} (H : RunHas S0 w0 m a r rs s w) {l : Int} (hop : s.f.op = 7) (hl : s.f.line = l) (hb : 0 ≤ s.f.b ∧ s.f.b < 4294967296)
    (ht : ∀ W, RunHas S0 w0 m a r rs s W → Calls Tryz.prog 139 #[.pointer (some ⟨r, 0, none⟩)] W fun e w' => e = .returned (.tuple #[]) ∧ RunHas S0 w0 m a r rs s2 w') :
    Calls Tryz.prog 97 #[.pointer (some ⟨r, 0, none⟩)] w fun e w' => e = .returned (.tuple #[]) ∧ RunHas S0 w0 m a r rs s2 w' := by
  have HT := Lib.hid ht
  have HBB := Lib.hid hb
  obtain ⟨z0, z2, z4, z5, z6, z7⟩ := H.facts hop hl rfl rfl
  have HH := Lib.hid H
  clear H ht hb
  go_enter Tryz.func97, Tryz.ntmps97
  go_wp2_with fail
  refine (pf_presence _ _ HBB.out).mono ?_
  rintro e w1 ⟨rfl, rfl⟩
  go_wp2_with fail
  go_quiet (fail)
  have HW := HH.out.drewN nq
  clear z0 z2 z4 z5 z6 z7
  generalize w.drewN nq = W at HW ⊢
  obtain ⟨z0, z2, z4, z5, z6, z7⟩ := HW.facts hop hl rfl rfl
  go_wp2_with fail
  refine (HT.out _ HW).mono ?_
  rintro e w1 ⟨rfl, H1⟩
  go_wp2_with fail
  go_end0
  exact ⟨rfl, H1⟩
set_option maxHeartbeats 3200000 in
theorem pf_leaves_none {S0 : List Nat} {w0 w : World} {m a r : Nat} {rs : List Res} {s : Rn} (H : RunHas S0 w0 m a r rs s w) {o l : Int} (hop : s.f.op = o) (hl : s.f.line = l) (hb : 0 ≤ s.f.b ∧ s.f.b < 4294967296) (h0 : ¬ (o = 4 ∧ l = 0)) (h1 : ¬ (o = 8 ∧ l = 0)) (h2 : ¬ (o = 4 ∧ l = 1)) (h3 : ¬ (o = 8 ∧ l = 1)) (h4 : ¬ (o = 4 ∧ l = 2)) (h5 : ¬ (o = 8 ∧ l = 2)) (h6 : ¬ (o = 4 ∧ l = 3)) (h7 : ¬ (o = 8 ∧ l = 3)) (k6 : ¬ o = 6) (k7 : ¬ o = 7) :
    Calls Tryz.prog 97 #[.pointer (some ⟨r, 0, none⟩)] w fun e w' => e = .returned (.tuple #[]) ∧ RunHas S0 w0 m a r rs s w' := by
  have HBB := Lib.hid hb
  have k6' : (o == 6) = false := by simpa using k6
  have k7' : (o == 7) = false := by simpa using k7
  obtain ⟨z0, z2, z4, z5, z6, z7⟩ := H.facts hop hl rfl rfl
  have HH := Lib.hid H
  clear H hb
  go_enter Tryz.func97, Tryz.ntmps97
  go_wp2_with fail
  refine (pf_presence _ _ HBB.out).mono ?_
  rintro e w1 ⟨rfl, rfl⟩
  go_wp2_with fail
  go_quiet (fail)
  have HW := HH.out.drewN nq
  clear z0 z2 z4 z5 z6 z7
  generalize w.drewN nq = W at HW ⊢
  obtain ⟨z0, z2, z4, z5, z6, z7⟩ := HW.facts hop hl rfl rfl
  go_wp2_with fail
  all_goals
    go_end0
    exact ⟨rfl, HW⟩
set_option maxHeartbeats 1600000 in
theorem pf_tries_none {S0 : List Nat} {w0 w : World} {m a r : Nat} {rs : List Res} {s : Rn} (H : RunHas S0 w0 m a r rs s w) {o l : Int} (hop : s.f.op = o) (hl : s.f.line = l) (k0 : ¬ l = 0) (k1 : ¬ l = 1) (k2 : ¬ l = 2) (k3 : ¬ l = 3) (k4 : ¬ l = 4) (k5 : ¬ l = 5) (k6 : ¬ l = 6) (k7 : ¬ l = 7) (k8 : ¬ l = 8) (k9 : ¬ l = 9) :
    Calls Tryz.prog 139 #[.pointer (some ⟨r, 0, none⟩)] w fun e w' => e = .returned (.tuple #[]) ∧ RunHas S0 w0 m a r rs s w' := by
  obtain ⟨z0, z2, z4, z5, z6, z7⟩ := H.facts hop hl rfl rfl
  have j0 : (l == 0) = false := by simpa using k0
  have j1 : (l == 1) = false := by simpa using k1
  have j2 : (l == 2) = false := by simpa using k2
  have j3 : (l == 3) = false := by simpa using k3
  have j4 : (l == 4) = false := by simpa using k4
  have j5 : (l == 5) = false := by simpa using k5
  have j6 : (l == 6) = false := by simpa using k6
  have j7 : (l == 7) = false := by simpa using k7
  have j8 : (l == 8) = false := by simpa using k8
  have j9 : (l == 9) = false := by simpa using k9
  have HH := Lib.hid H
  clear H
  go_enter Tryz.func139, Tryz.ntmps139
  go_wp2_with fail
  all_goals
    go_end0
    exact ⟨rfl, HH.out⟩
def pfA (s : Rn) : Rn := if s.f.op = 1 ∧ s.f.line = 0 then pfR10 s else if s.f.op = 1 ∧ s.f.line = 1 then pfR11 s else if s.f.op = 2 ∧ s.f.line = 0 then pfR20 s else if s.f.op = 5 ∧ s.f.line = 0 then pfR50 s else if s.f.op = 5 ∧ s.f.line = 1 then pfR51 s else if s.f.op = 3 ∧ s.f.line = 0 then pf30 s else if s.f.op = 3 ∧ s.f.line = 1 then pf31 s else if s.f.op = 3 ∧ s.f.line = 2 then pf32 s else if s.f.op = 3 ∧ s.f.line = 3 then pf33 s else if s.f.op = 3 ∧ s.f.line = 4 then pf34 s else if s.f.op = 4 ∧ s.f.line = 0 then pf40 s else if s.f.op = 8 ∧ s.f.line = 0 then pf80 s else if s.f.op = 4 ∧ s.f.line = 1 then pf41 s else if s.f.op = 8 ∧ s.f.line = 1 then pf81 s else if s.f.op = 4 ∧ s.f.line = 2 then pf42 s else if s.f.op = 8 ∧ s.f.line = 2 then pf82 s else if s.f.op = 4 ∧ s.f.line = 3 then pf43 s else if s.f.op = 8 ∧ s.f.line = 3 then pf83 s else if s.f.op = 6 ∧ s.f.line = 0 then pft0 s else if s.f.op = 6 ∧ s.f.line = 1 then pft1 s else if s.f.op = 6 ∧ s.f.line = 2 then pft2 s else if s.f.op = 6 ∧ s.f.line = 3 then pft3 s else if s.f.op = 6 ∧ s.f.line = 4 then pft46 s else if s.f.op = 6 ∧ s.f.line = 5 then pft5 s else if s.f.op = 6 ∧ s.f.line = 6 then pft6 s else if s.f.op = 6 ∧ s.f.line = 7 then pft76 s else if s.f.op = 6 ∧ s.f.line = 8 then pft86 s else if s.f.op = 6 ∧ s.f.line = 9 then pft9 s else if s.f.op = 7 ∧ s.f.line = 0 then pft0 s else if s.f.op = 7 ∧ s.f.line = 1 then pft1 s else if s.f.op = 7 ∧ s.f.line = 2 then pft2 s else if s.f.op = 7 ∧ s.f.line = 3 then pft3 s else if s.f.op = 7 ∧ s.f.line = 4 then pft47 s else if s.f.op = 7 ∧ s.f.line = 5 then pft5 s else if s.f.op = 7 ∧ s.f.line = 6 then pft6 s else if s.f.op = 7 ∧ s.f.line = 7 then pft77 s else if s.f.op = 7 ∧ s.f.line = 8 then pft87 s else if s.f.op = 7 ∧ s.f.line = 9 then pft9 s else s
theorem pf_lines {S0 : List Nat} {w0 w : World} {m a r : Nat} {rs : List Res} {s : Rn} (H : RunHas S0 w0 m a r rs s w) (hn : I64 s.n) (ha : 0 ≤ s.f.a ∧ s.f.a < 4294967296) (hb : 0 ≤ s.f.b ∧ s.f.b < 4294967296) (hc : s.notes.length ≤ 900) :
    Calls Tryz.prog 68 #[.pointer (some ⟨r, 0, none⟩)] w fun e w' => e = .returned (.tuple #[]) ∧ RunHas S0 w0 m a r rs (pfA s) w' := by
  unfold pfA
  by_cases h10 : s.f.op = 1 ∧ s.f.line = 0
  · rw [if_pos h10]; exact pf_reads H (fun W HW => pf_r10 HW h10.1 h10.2 hn ha hc)
  rw [if_neg h10]
  by_cases h11 : s.f.op = 1 ∧ s.f.line = 1
  · rw [if_pos h11]; exact pf_reads H (fun W HW => pf_r11 HW h11.1 h11.2 hn ha hc)
  rw [if_neg h11]
  by_cases h20 : s.f.op = 2 ∧ s.f.line = 0
  · rw [if_pos h20]; exact pf_reads H (fun W HW => pf_r20 HW h20.1 h20.2 hn ha hc)
  rw [if_neg h20]
  by_cases h50 : s.f.op = 5 ∧ s.f.line = 0
  · rw [if_pos h50]; exact pf_reads H (fun W HW => pf_r50 HW h50.1 h50.2 hn ha hc)
  rw [if_neg h50]
  by_cases h51 : s.f.op = 5 ∧ s.f.line = 1
  · rw [if_pos h51]; exact pf_reads H (fun W HW => pf_r51 HW h51.1 h51.2 hn ha hc)
  rw [if_neg h51]
  by_cases h30 : s.f.op = 3 ∧ s.f.line = 0
  · rw [if_pos h30]; exact pf_30 H h30.1 h30.2 hn ha hb hc
  rw [if_neg h30]
  by_cases h31 : s.f.op = 3 ∧ s.f.line = 1
  · rw [if_pos h31]; exact pf_31 H h31.1 h31.2 hn ha hb hc
  rw [if_neg h31]
  by_cases h32 : s.f.op = 3 ∧ s.f.line = 2
  · rw [if_pos h32]; exact pf_32 H h32.1 h32.2 hn ha hb hc
  rw [if_neg h32]
  by_cases h33 : s.f.op = 3 ∧ s.f.line = 3
  · rw [if_pos h33]; exact pf_33 H h33.1 h33.2 hn ha hb hc
  rw [if_neg h33]
  by_cases h34 : s.f.op = 3 ∧ s.f.line = 4
  · rw [if_pos h34]; exact pf_34 H h34.1 h34.2 hn ha hb hc
  rw [if_neg h34]
  refine pf_default H rfl rfl hb h10 h11 h20 h50 h51 h30 h31 h32 h33 h34 (fun rs W HW => ?_)
  by_cases h40 : s.f.op = 4 ∧ s.f.line = 0
  · rw [if_pos h40]; exact pf_40 HW h40.1 h40.2 hn ha hb hc
  rw [if_neg h40]
  by_cases h80 : s.f.op = 8 ∧ s.f.line = 0
  · rw [if_pos h80]; exact pf_80 HW h80.1 h80.2 hn ha hb hc
  rw [if_neg h80]
  by_cases h41 : s.f.op = 4 ∧ s.f.line = 1
  · rw [if_pos h41]; exact pf_41 HW h41.1 h41.2 hn ha hb hc
  rw [if_neg h41]
  by_cases h81 : s.f.op = 8 ∧ s.f.line = 1
  · rw [if_pos h81]; exact pf_81 HW h81.1 h81.2 hn ha hb hc
  rw [if_neg h81]
  by_cases h42 : s.f.op = 4 ∧ s.f.line = 2
  · rw [if_pos h42]; exact pf_42 HW h42.1 h42.2 hn ha hb hc
  rw [if_neg h42]
  by_cases h82 : s.f.op = 8 ∧ s.f.line = 2
  · rw [if_pos h82]; exact pf_82 HW h82.1 h82.2 hn ha hb hc
  rw [if_neg h82]
  by_cases h43 : s.f.op = 4 ∧ s.f.line = 3
  · rw [if_pos h43]; exact pf_43 HW h43.1 h43.2 hn ha hb hc
  rw [if_neg h43]
  by_cases h83 : s.f.op = 8 ∧ s.f.line = 3
  · rw [if_pos h83]; exact pf_83 HW h83.1 h83.2 hn ha hb hc
  rw [if_neg h83]
  by_cases k6 : s.f.op = 6
  · refine pf_to_tries6 HW k6 rfl hb (fun W HX => ?_)
    by_cases l0 : s.f.op = 6 ∧ s.f.line = 0
    · rw [if_pos l0]; exact pf_t0 HX l0.1 l0.2 hn ha hb hc
    rw [if_neg l0]
    by_cases l1 : s.f.op = 6 ∧ s.f.line = 1
    · rw [if_pos l1]; exact pf_t1 HX l1.1 l1.2 hn ha hb hc
    rw [if_neg l1]
    by_cases l2 : s.f.op = 6 ∧ s.f.line = 2
    · rw [if_pos l2]; exact pf_t2 HX l2.1 l2.2 hn ha hb hc
    rw [if_neg l2]
    by_cases l3 : s.f.op = 6 ∧ s.f.line = 3
    · rw [if_pos l3]; exact pf_t3 HX l3.1 l3.2 hn ha hb hc
    rw [if_neg l3]
    by_cases l4 : s.f.op = 6 ∧ s.f.line = 4
    · rw [if_pos l4]; exact pf_t46 HX l4.1 l4.2 hn ha hb hc
    rw [if_neg l4]
    by_cases l5 : s.f.op = 6 ∧ s.f.line = 5
    · rw [if_pos l5]; exact pf_t5 HX l5.1 l5.2 hn ha hb hc
    rw [if_neg l5]
    by_cases l6 : s.f.op = 6 ∧ s.f.line = 6
    · rw [if_pos l6]; exact pf_t6 HX l6.1 l6.2 hn ha hb hc
    rw [if_neg l6]
    by_cases l7 : s.f.op = 6 ∧ s.f.line = 7
    · rw [if_pos l7]; exact pf_t76 HX l7.1 l7.2 hn ha hb hc
    rw [if_neg l7]
    by_cases l8 : s.f.op = 6 ∧ s.f.line = 8
    · rw [if_pos l8]; exact pf_t86 HX l8.1 l8.2 hn ha hb hc
    rw [if_neg l8]
    by_cases l9 : s.f.op = 6 ∧ s.f.line = 9
    · rw [if_pos l9]; exact pf_t9 HX l9.1 l9.2 hn ha hb hc
    rw [if_neg l9]
    rw [if_neg (fun h => by rw [k6] at h; exact absurd h.1 (by decide))]
    rw [if_neg (fun h => by rw [k6] at h; exact absurd h.1 (by decide))]
    rw [if_neg (fun h => by rw [k6] at h; exact absurd h.1 (by decide))]
    rw [if_neg (fun h => by rw [k6] at h; exact absurd h.1 (by decide))]
    rw [if_neg (fun h => by rw [k6] at h; exact absurd h.1 (by decide))]
    rw [if_neg (fun h => by rw [k6] at h; exact absurd h.1 (by decide))]
    rw [if_neg (fun h => by rw [k6] at h; exact absurd h.1 (by decide))]
    rw [if_neg (fun h => by rw [k6] at h; exact absurd h.1 (by decide))]
    rw [if_neg (fun h => by rw [k6] at h; exact absurd h.1 (by decide))]
    rw [if_neg (fun h => by rw [k6] at h; exact absurd h.1 (by decide))]
    exact pf_tries_none HX k6 rfl (fun h => l0 ⟨k6, h⟩) (fun h => l1 ⟨k6, h⟩) (fun h => l2 ⟨k6, h⟩) (fun h => l3 ⟨k6, h⟩) (fun h => l4 ⟨k6, h⟩) (fun h => l5 ⟨k6, h⟩) (fun h => l6 ⟨k6, h⟩) (fun h => l7 ⟨k6, h⟩) (fun h => l8 ⟨k6, h⟩) (fun h => l9 ⟨k6, h⟩)
  by_cases k7 : s.f.op = 7
  · refine pf_to_tries7 HW k7 rfl hb (fun W HX => ?_)
    rw [if_neg (fun h => by rw [k7] at h; exact absurd h.1 (by decide))]
    rw [if_neg (fun h => by rw [k7] at h; exact absurd h.1 (by decide))]
    rw [if_neg (fun h => by rw [k7] at h; exact absurd h.1 (by decide))]
    rw [if_neg (fun h => by rw [k7] at h; exact absurd h.1 (by decide))]
    rw [if_neg (fun h => by rw [k7] at h; exact absurd h.1 (by decide))]
    rw [if_neg (fun h => by rw [k7] at h; exact absurd h.1 (by decide))]
    rw [if_neg (fun h => by rw [k7] at h; exact absurd h.1 (by decide))]
    rw [if_neg (fun h => by rw [k7] at h; exact absurd h.1 (by decide))]
    rw [if_neg (fun h => by rw [k7] at h; exact absurd h.1 (by decide))]
    rw [if_neg (fun h => by rw [k7] at h; exact absurd h.1 (by decide))]
    by_cases l0 : s.f.op = 7 ∧ s.f.line = 0
    · rw [if_pos l0]; exact pf_t0 HX l0.1 l0.2 hn ha hb hc
    rw [if_neg l0]
    by_cases l1 : s.f.op = 7 ∧ s.f.line = 1
    · rw [if_pos l1]; exact pf_t1 HX l1.1 l1.2 hn ha hb hc
    rw [if_neg l1]
    by_cases l2 : s.f.op = 7 ∧ s.f.line = 2
    · rw [if_pos l2]; exact pf_t2 HX l2.1 l2.2 hn ha hb hc
    rw [if_neg l2]
    by_cases l3 : s.f.op = 7 ∧ s.f.line = 3
    · rw [if_pos l3]; exact pf_t3 HX l3.1 l3.2 hn ha hb hc
    rw [if_neg l3]
    by_cases l4 : s.f.op = 7 ∧ s.f.line = 4
    · rw [if_pos l4]; exact pf_t47 HX l4.1 l4.2 hn ha hb hc
    rw [if_neg l4]
    by_cases l5 : s.f.op = 7 ∧ s.f.line = 5
    · rw [if_pos l5]; exact pf_t5 HX l5.1 l5.2 hn ha hb hc
    rw [if_neg l5]
    by_cases l6 : s.f.op = 7 ∧ s.f.line = 6
    · rw [if_pos l6]; exact pf_t6 HX l6.1 l6.2 hn ha hb hc
    rw [if_neg l6]
    by_cases l7 : s.f.op = 7 ∧ s.f.line = 7
    · rw [if_pos l7]; exact pf_t77 HX l7.1 l7.2 hn ha hb hc
    rw [if_neg l7]
    by_cases l8 : s.f.op = 7 ∧ s.f.line = 8
    · rw [if_pos l8]; exact pf_t87 HX l8.1 l8.2 hn ha hb hc
    rw [if_neg l8]
    by_cases l9 : s.f.op = 7 ∧ s.f.line = 9
    · rw [if_pos l9]; exact pf_t9 HX l9.1 l9.2 hn ha hb hc
    rw [if_neg l9]
    exact pf_tries_none HX k7 rfl (fun h => l0 ⟨k7, h⟩) (fun h => l1 ⟨k7, h⟩) (fun h => l2 ⟨k7, h⟩) (fun h => l3 ⟨k7, h⟩) (fun h => l4 ⟨k7, h⟩) (fun h => l5 ⟨k7, h⟩) (fun h => l6 ⟨k7, h⟩) (fun h => l7 ⟨k7, h⟩) (fun h => l8 ⟨k7, h⟩) (fun h => l9 ⟨k7, h⟩)
  rw [if_neg (fun h => k6 h.1)]
  rw [if_neg (fun h => k6 h.1)]
  rw [if_neg (fun h => k6 h.1)]
  rw [if_neg (fun h => k6 h.1)]
  rw [if_neg (fun h => k6 h.1)]
  rw [if_neg (fun h => k6 h.1)]
  rw [if_neg (fun h => k6 h.1)]
  rw [if_neg (fun h => k6 h.1)]
  rw [if_neg (fun h => k6 h.1)]
  rw [if_neg (fun h => k6 h.1)]
  rw [if_neg (fun h => k7 h.1)]
  rw [if_neg (fun h => k7 h.1)]
  rw [if_neg (fun h => k7 h.1)]
  rw [if_neg (fun h => k7 h.1)]
  rw [if_neg (fun h => k7 h.1)]
  rw [if_neg (fun h => k7 h.1)]
  rw [if_neg (fun h => k7 h.1)]
  rw [if_neg (fun h => k7 h.1)]
  rw [if_neg (fun h => k7 h.1)]
  rw [if_neg (fun h => k7 h.1)]
  exact pf_leaves_none HW rfl rfl hb h40 h80 h41 h81 h42 h82 h43 h83 k6 k7
end Go.Proofs.YthnimpkoidablaaGreat.Z

set_option linter.unusedVariables false
set_option linter.unusedSimpArgs false
namespace Go.Proofs.YthnimpkoidablaaGreat.Z
open Go.RowKit
set_option maxHeartbeats 800000 in
theorem pfR10_fine (s : Rn) (hw : Words s.L) (h : I64 s.n ∧ (0 ≤ s.f.a ∧ s.f.a < 4294967296) ∧ (0 ≤ s.f.b ∧ s.f.b < 4294967296)) : Fine s (pfR10 s) := by
  have hold := fun b => doA_old s.L hw b
  obtain ⟨h1, h2, h3⟩ := h
  unfold pfR10
  (try dsimp only)
  (repeat' split) <;> first
    | exact fine_mk ⟨⟨h1, h2, h3⟩, by simp [Rn.pfPass, Rn.noted, Rn.did, Rn.setA, Rn.setB, Rn.note, Rn.goto, Rn.fin, Rn.wake, Rn.waited]⟩
    | exact fine_mk ⟨⟨h1, hold _, h3⟩, by simp [Rn.pfPass, Rn.noted, Rn.did, Rn.setA, Rn.setB, Rn.note, Rn.goto, Rn.fin, Rn.wake, Rn.waited]⟩
    | exact fine_mk ⟨⟨h1, h2, hold _⟩, by simp [Rn.pfPass, Rn.noted, Rn.did, Rn.setA, Rn.setB, Rn.note, Rn.goto, Rn.fin, Rn.wake, Rn.waited]⟩
set_option maxHeartbeats 800000 in
theorem pfR11_fine (s : Rn) (hw : Words s.L) (h : I64 s.n ∧ (0 ≤ s.f.a ∧ s.f.a < 4294967296) ∧ (0 ≤ s.f.b ∧ s.f.b < 4294967296)) : Fine s (pfR11 s) := by
  have hold := fun b => doA_old s.L hw b
  obtain ⟨h1, h2, h3⟩ := h
  unfold pfR11
  (try dsimp only)
  (repeat' split) <;> first
    | exact fine_mk ⟨⟨h1, h2, h3⟩, by simp [Rn.pfPass, Rn.noted, Rn.did, Rn.setA, Rn.setB, Rn.note, Rn.goto, Rn.fin, Rn.wake, Rn.waited]⟩
    | exact fine_mk ⟨⟨h1, hold _, h3⟩, by simp [Rn.pfPass, Rn.noted, Rn.did, Rn.setA, Rn.setB, Rn.note, Rn.goto, Rn.fin, Rn.wake, Rn.waited]⟩
    | exact fine_mk ⟨⟨h1, h2, hold _⟩, by simp [Rn.pfPass, Rn.noted, Rn.did, Rn.setA, Rn.setB, Rn.note, Rn.goto, Rn.fin, Rn.wake, Rn.waited]⟩
set_option maxHeartbeats 800000 in
theorem pfR20_fine (s : Rn) (hw : Words s.L) (h : I64 s.n ∧ (0 ≤ s.f.a ∧ s.f.a < 4294967296) ∧ (0 ≤ s.f.b ∧ s.f.b < 4294967296)) : Fine s (pfR20 s) := by
  have hold := fun b => doA_old s.L hw b
  obtain ⟨h1, h2, h3⟩ := h
  unfold pfR20
  (try dsimp only)
  (repeat' split) <;> first
    | exact fine_mk ⟨⟨h1, h2, h3⟩, by simp [Rn.pfPass, Rn.noted, Rn.did, Rn.setA, Rn.setB, Rn.note, Rn.goto, Rn.fin, Rn.wake, Rn.waited]⟩
    | exact fine_mk ⟨⟨h1, hold _, h3⟩, by simp [Rn.pfPass, Rn.noted, Rn.did, Rn.setA, Rn.setB, Rn.note, Rn.goto, Rn.fin, Rn.wake, Rn.waited]⟩
    | exact fine_mk ⟨⟨h1, h2, hold _⟩, by simp [Rn.pfPass, Rn.noted, Rn.did, Rn.setA, Rn.setB, Rn.note, Rn.goto, Rn.fin, Rn.wake, Rn.waited]⟩
set_option maxHeartbeats 800000 in
theorem pfR50_fine (s : Rn) (hw : Words s.L) (h : I64 s.n ∧ (0 ≤ s.f.a ∧ s.f.a < 4294967296) ∧ (0 ≤ s.f.b ∧ s.f.b < 4294967296)) : Fine s (pfR50 s) := by
  have hold := fun b => doA_old s.L hw b
  obtain ⟨h1, h2, h3⟩ := h
  unfold pfR50
  (try dsimp only)
  (repeat' split) <;> first
    | exact fine_mk ⟨⟨h1, h2, h3⟩, by simp [Rn.pfPass, Rn.noted, Rn.did, Rn.setA, Rn.setB, Rn.note, Rn.goto, Rn.fin, Rn.wake, Rn.waited]⟩
    | exact fine_mk ⟨⟨h1, hold _, h3⟩, by simp [Rn.pfPass, Rn.noted, Rn.did, Rn.setA, Rn.setB, Rn.note, Rn.goto, Rn.fin, Rn.wake, Rn.waited]⟩
    | exact fine_mk ⟨⟨h1, h2, hold _⟩, by simp [Rn.pfPass, Rn.noted, Rn.did, Rn.setA, Rn.setB, Rn.note, Rn.goto, Rn.fin, Rn.wake, Rn.waited]⟩
set_option maxHeartbeats 800000 in
theorem pfR51_fine (s : Rn) (hw : Words s.L) (h : I64 s.n ∧ (0 ≤ s.f.a ∧ s.f.a < 4294967296) ∧ (0 ≤ s.f.b ∧ s.f.b < 4294967296)) : Fine s (pfR51 s) := by
  have hold := fun b => doA_old s.L hw b
  obtain ⟨h1, h2, h3⟩ := h
  unfold pfR51
  (try dsimp only)
  (repeat' split) <;> first
    | exact fine_mk ⟨⟨h1, h2, h3⟩, by simp [Rn.pfPass, Rn.noted, Rn.did, Rn.setA, Rn.setB, Rn.note, Rn.goto, Rn.fin, Rn.wake, Rn.waited]⟩
    | exact fine_mk ⟨⟨h1, hold _, h3⟩, by simp [Rn.pfPass, Rn.noted, Rn.did, Rn.setA, Rn.setB, Rn.note, Rn.goto, Rn.fin, Rn.wake, Rn.waited]⟩
    | exact fine_mk ⟨⟨h1, h2, hold _⟩, by simp [Rn.pfPass, Rn.noted, Rn.did, Rn.setA, Rn.setB, Rn.note, Rn.goto, Rn.fin, Rn.wake, Rn.waited]⟩
set_option maxHeartbeats 800000 in
theorem pf30_fine (s : Rn) (hw : Words s.L) (h : I64 s.n ∧ (0 ≤ s.f.a ∧ s.f.a < 4294967296) ∧ (0 ≤ s.f.b ∧ s.f.b < 4294967296)) : Fine s (pf30 s) := by
  have hold := fun b => doA_old s.L hw b
  obtain ⟨h1, h2, h3⟩ := h
  unfold pf30
  (try dsimp only)
  (repeat' split) <;> first
    | exact fine_mk ⟨⟨h1, h2, h3⟩, by simp [Rn.pfPass, Rn.noted, Rn.did, Rn.setA, Rn.setB, Rn.note, Rn.goto, Rn.fin, Rn.wake, Rn.waited]⟩
    | exact fine_mk ⟨⟨h1, hold _, h3⟩, by simp [Rn.pfPass, Rn.noted, Rn.did, Rn.setA, Rn.setB, Rn.note, Rn.goto, Rn.fin, Rn.wake, Rn.waited]⟩
    | exact fine_mk ⟨⟨h1, h2, hold _⟩, by simp [Rn.pfPass, Rn.noted, Rn.did, Rn.setA, Rn.setB, Rn.note, Rn.goto, Rn.fin, Rn.wake, Rn.waited]⟩
set_option maxHeartbeats 800000 in
theorem pf31_fine (s : Rn) (hw : Words s.L) (h : I64 s.n ∧ (0 ≤ s.f.a ∧ s.f.a < 4294967296) ∧ (0 ≤ s.f.b ∧ s.f.b < 4294967296)) : Fine s (pf31 s) := by
  have hold := fun b => doA_old s.L hw b
  obtain ⟨h1, h2, h3⟩ := h
  unfold pf31
  (try dsimp only)
  (repeat' split) <;> first
    | exact fine_mk ⟨⟨h1, h2, h3⟩, by simp [Rn.pfPass, Rn.noted, Rn.did, Rn.setA, Rn.setB, Rn.note, Rn.goto, Rn.fin, Rn.wake, Rn.waited]⟩
    | exact fine_mk ⟨⟨h1, hold _, h3⟩, by simp [Rn.pfPass, Rn.noted, Rn.did, Rn.setA, Rn.setB, Rn.note, Rn.goto, Rn.fin, Rn.wake, Rn.waited]⟩
    | exact fine_mk ⟨⟨h1, h2, hold _⟩, by simp [Rn.pfPass, Rn.noted, Rn.did, Rn.setA, Rn.setB, Rn.note, Rn.goto, Rn.fin, Rn.wake, Rn.waited]⟩
set_option maxHeartbeats 800000 in
theorem pf32_fine (s : Rn) (hw : Words s.L) (h : I64 s.n ∧ (0 ≤ s.f.a ∧ s.f.a < 4294967296) ∧ (0 ≤ s.f.b ∧ s.f.b < 4294967296)) : Fine s (pf32 s) := by
  have hold := fun b => doA_old s.L hw b
  obtain ⟨h1, h2, h3⟩ := h
  unfold pf32
  (try dsimp only)
  (repeat' split) <;> first
    | exact fine_mk ⟨⟨h1, h2, h3⟩, by simp [Rn.pfPass, Rn.noted, Rn.did, Rn.setA, Rn.setB, Rn.note, Rn.goto, Rn.fin, Rn.wake, Rn.waited]⟩
    | exact fine_mk ⟨⟨h1, hold _, h3⟩, by simp [Rn.pfPass, Rn.noted, Rn.did, Rn.setA, Rn.setB, Rn.note, Rn.goto, Rn.fin, Rn.wake, Rn.waited]⟩
    | exact fine_mk ⟨⟨h1, h2, hold _⟩, by simp [Rn.pfPass, Rn.noted, Rn.did, Rn.setA, Rn.setB, Rn.note, Rn.goto, Rn.fin, Rn.wake, Rn.waited]⟩
set_option maxHeartbeats 800000 in
theorem pf33_fine (s : Rn) (hw : Words s.L) (h : I64 s.n ∧ (0 ≤ s.f.a ∧ s.f.a < 4294967296) ∧ (0 ≤ s.f.b ∧ s.f.b < 4294967296)) : Fine s (pf33 s) := by
  have hold := fun b => doA_old s.L hw b
  obtain ⟨h1, h2, h3⟩ := h
  unfold pf33
  (try dsimp only)
  (repeat' split) <;> first
    | exact fine_mk ⟨⟨h1, h2, h3⟩, by simp [Rn.pfPass, Rn.noted, Rn.did, Rn.setA, Rn.setB, Rn.note, Rn.goto, Rn.fin, Rn.wake, Rn.waited]⟩
    | exact fine_mk ⟨⟨h1, hold _, h3⟩, by simp [Rn.pfPass, Rn.noted, Rn.did, Rn.setA, Rn.setB, Rn.note, Rn.goto, Rn.fin, Rn.wake, Rn.waited]⟩
    | exact fine_mk ⟨⟨h1, h2, hold _⟩, by simp [Rn.pfPass, Rn.noted, Rn.did, Rn.setA, Rn.setB, Rn.note, Rn.goto, Rn.fin, Rn.wake, Rn.waited]⟩
set_option maxHeartbeats 800000 in
theorem pf34_fine (s : Rn) (hw : Words s.L) (h : I64 s.n ∧ (0 ≤ s.f.a ∧ s.f.a < 4294967296) ∧ (0 ≤ s.f.b ∧ s.f.b < 4294967296)) : Fine s (pf34 s) := by
  have hold := fun b => doA_old s.L hw b
  obtain ⟨h1, h2, h3⟩ := h
  unfold pf34
  (try dsimp only)
  (repeat' split) <;> first
    | exact fine_mk ⟨⟨h1, h2, h3⟩, by simp [Rn.pfPass, Rn.noted, Rn.did, Rn.setA, Rn.setB, Rn.note, Rn.goto, Rn.fin, Rn.wake, Rn.waited]⟩
    | exact fine_mk ⟨⟨h1, hold _, h3⟩, by simp [Rn.pfPass, Rn.noted, Rn.did, Rn.setA, Rn.setB, Rn.note, Rn.goto, Rn.fin, Rn.wake, Rn.waited]⟩
    | exact fine_mk ⟨⟨h1, h2, hold _⟩, by simp [Rn.pfPass, Rn.noted, Rn.did, Rn.setA, Rn.setB, Rn.note, Rn.goto, Rn.fin, Rn.wake, Rn.waited]⟩
set_option maxHeartbeats 800000 in
theorem pf40_fine (s : Rn) (hw : Words s.L) (h : I64 s.n ∧ (0 ≤ s.f.a ∧ s.f.a < 4294967296) ∧ (0 ≤ s.f.b ∧ s.f.b < 4294967296)) : Fine s (pf40 s) := by
  have hold := fun b => doA_old s.L hw b
  obtain ⟨h1, h2, h3⟩ := h
  unfold pf40
  (try dsimp only)
  (repeat' split) <;> first
    | exact fine_mk ⟨⟨h1, h2, h3⟩, by simp [Rn.pfPass, Rn.noted, Rn.did, Rn.setA, Rn.setB, Rn.note, Rn.goto, Rn.fin, Rn.wake, Rn.waited]⟩
    | exact fine_mk ⟨⟨h1, hold _, h3⟩, by simp [Rn.pfPass, Rn.noted, Rn.did, Rn.setA, Rn.setB, Rn.note, Rn.goto, Rn.fin, Rn.wake, Rn.waited]⟩
    | exact fine_mk ⟨⟨h1, h2, hold _⟩, by simp [Rn.pfPass, Rn.noted, Rn.did, Rn.setA, Rn.setB, Rn.note, Rn.goto, Rn.fin, Rn.wake, Rn.waited]⟩
set_option maxHeartbeats 800000 in
theorem pf80_fine (s : Rn) (hw : Words s.L) (h : I64 s.n ∧ (0 ≤ s.f.a ∧ s.f.a < 4294967296) ∧ (0 ≤ s.f.b ∧ s.f.b < 4294967296)) : Fine s (pf80 s) := by
  have hold := fun b => doA_old s.L hw b
  obtain ⟨h1, h2, h3⟩ := h
  unfold pf80
  (try dsimp only)
  (repeat' split) <;> first
    | exact fine_mk ⟨⟨h1, h2, h3⟩, by simp [Rn.pfPass, Rn.noted, Rn.did, Rn.setA, Rn.setB, Rn.note, Rn.goto, Rn.fin, Rn.wake, Rn.waited]⟩
    | exact fine_mk ⟨⟨h1, hold _, h3⟩, by simp [Rn.pfPass, Rn.noted, Rn.did, Rn.setA, Rn.setB, Rn.note, Rn.goto, Rn.fin, Rn.wake, Rn.waited]⟩
    | exact fine_mk ⟨⟨h1, h2, hold _⟩, by simp [Rn.pfPass, Rn.noted, Rn.did, Rn.setA, Rn.setB, Rn.note, Rn.goto, Rn.fin, Rn.wake, Rn.waited]⟩
set_option maxHeartbeats 800000 in
theorem pf41_fine (s : Rn) (hw : Words s.L) (h : I64 s.n ∧ (0 ≤ s.f.a ∧ s.f.a < 4294967296) ∧ (0 ≤ s.f.b ∧ s.f.b < 4294967296)) : Fine s (pf41 s) := by
  have hold := fun b => doA_old s.L hw b
  obtain ⟨h1, h2, h3⟩ := h
  unfold pf41
  (try dsimp only)
  (repeat' split) <;> first
    | exact fine_mk ⟨⟨h1, h2, h3⟩, by simp [Rn.pfPass, Rn.noted, Rn.did, Rn.setA, Rn.setB, Rn.note, Rn.goto, Rn.fin, Rn.wake, Rn.waited]⟩
    | exact fine_mk ⟨⟨h1, hold _, h3⟩, by simp [Rn.pfPass, Rn.noted, Rn.did, Rn.setA, Rn.setB, Rn.note, Rn.goto, Rn.fin, Rn.wake, Rn.waited]⟩
    | exact fine_mk ⟨⟨h1, h2, hold _⟩, by simp [Rn.pfPass, Rn.noted, Rn.did, Rn.setA, Rn.setB, Rn.note, Rn.goto, Rn.fin, Rn.wake, Rn.waited]⟩
set_option maxHeartbeats 800000 in
theorem pf81_fine (s : Rn) (hw : Words s.L) (h : I64 s.n ∧ (0 ≤ s.f.a ∧ s.f.a < 4294967296) ∧ (0 ≤ s.f.b ∧ s.f.b < 4294967296)) : Fine s (pf81 s) := by
  have hold := fun b => doA_old s.L hw b
  obtain ⟨h1, h2, h3⟩ := h
  unfold pf81
  (try dsimp only)
  (repeat' split) <;> first
    | exact fine_mk ⟨⟨h1, h2, h3⟩, by simp [Rn.pfPass, Rn.noted, Rn.did, Rn.setA, Rn.setB, Rn.note, Rn.goto, Rn.fin, Rn.wake, Rn.waited]⟩
    | exact fine_mk ⟨⟨h1, hold _, h3⟩, by simp [Rn.pfPass, Rn.noted, Rn.did, Rn.setA, Rn.setB, Rn.note, Rn.goto, Rn.fin, Rn.wake, Rn.waited]⟩
    | exact fine_mk ⟨⟨h1, h2, hold _⟩, by simp [Rn.pfPass, Rn.noted, Rn.did, Rn.setA, Rn.setB, Rn.note, Rn.goto, Rn.fin, Rn.wake, Rn.waited]⟩
set_option maxHeartbeats 800000 in
theorem pf42_fine (s : Rn) (hw : Words s.L) (h : I64 s.n ∧ (0 ≤ s.f.a ∧ s.f.a < 4294967296) ∧ (0 ≤ s.f.b ∧ s.f.b < 4294967296)) : Fine s (pf42 s) := by
  have hold := fun b => doA_old s.L hw b
  obtain ⟨h1, h2, h3⟩ := h
  unfold pf42
  (try dsimp only)
  (repeat' split) <;> first
    | exact fine_mk ⟨⟨h1, h2, h3⟩, by simp [Rn.pfPass, Rn.noted, Rn.did, Rn.setA, Rn.setB, Rn.note, Rn.goto, Rn.fin, Rn.wake, Rn.waited]⟩
    | exact fine_mk ⟨⟨h1, hold _, h3⟩, by simp [Rn.pfPass, Rn.noted, Rn.did, Rn.setA, Rn.setB, Rn.note, Rn.goto, Rn.fin, Rn.wake, Rn.waited]⟩
    | exact fine_mk ⟨⟨h1, h2, hold _⟩, by simp [Rn.pfPass, Rn.noted, Rn.did, Rn.setA, Rn.setB, Rn.note, Rn.goto, Rn.fin, Rn.wake, Rn.waited]⟩
set_option maxHeartbeats 800000 in
theorem pf82_fine (s : Rn) (hw : Words s.L) (h : I64 s.n ∧ (0 ≤ s.f.a ∧ s.f.a < 4294967296) ∧ (0 ≤ s.f.b ∧ s.f.b < 4294967296)) : Fine s (pf82 s) := by
  have hold := fun b => doA_old s.L hw b
  obtain ⟨h1, h2, h3⟩ := h
  unfold pf82
  (try dsimp only)
  (repeat' split) <;> first
    | exact fine_mk ⟨⟨h1, h2, h3⟩, by simp [Rn.pfPass, Rn.noted, Rn.did, Rn.setA, Rn.setB, Rn.note, Rn.goto, Rn.fin, Rn.wake, Rn.waited]⟩
    | exact fine_mk ⟨⟨h1, hold _, h3⟩, by simp [Rn.pfPass, Rn.noted, Rn.did, Rn.setA, Rn.setB, Rn.note, Rn.goto, Rn.fin, Rn.wake, Rn.waited]⟩
    | exact fine_mk ⟨⟨h1, h2, hold _⟩, by simp [Rn.pfPass, Rn.noted, Rn.did, Rn.setA, Rn.setB, Rn.note, Rn.goto, Rn.fin, Rn.wake, Rn.waited]⟩
set_option maxHeartbeats 800000 in
theorem pf43_fine (s : Rn) (hw : Words s.L) (h : I64 s.n ∧ (0 ≤ s.f.a ∧ s.f.a < 4294967296) ∧ (0 ≤ s.f.b ∧ s.f.b < 4294967296)) : Fine s (pf43 s) := by
  have hold := fun b => doA_old s.L hw b
  obtain ⟨h1, h2, h3⟩ := h
  unfold pf43
  (try dsimp only)
  (repeat' split) <;> first
    | exact fine_mk ⟨⟨h1, h2, h3⟩, by simp [Rn.pfPass, Rn.noted, Rn.did, Rn.setA, Rn.setB, Rn.note, Rn.goto, Rn.fin, Rn.wake, Rn.waited]⟩
    | exact fine_mk ⟨⟨h1, hold _, h3⟩, by simp [Rn.pfPass, Rn.noted, Rn.did, Rn.setA, Rn.setB, Rn.note, Rn.goto, Rn.fin, Rn.wake, Rn.waited]⟩
    | exact fine_mk ⟨⟨h1, h2, hold _⟩, by simp [Rn.pfPass, Rn.noted, Rn.did, Rn.setA, Rn.setB, Rn.note, Rn.goto, Rn.fin, Rn.wake, Rn.waited]⟩
set_option maxHeartbeats 800000 in
theorem pf83_fine (s : Rn) (hw : Words s.L) (h : I64 s.n ∧ (0 ≤ s.f.a ∧ s.f.a < 4294967296) ∧ (0 ≤ s.f.b ∧ s.f.b < 4294967296)) : Fine s (pf83 s) := by
  have hold := fun b => doA_old s.L hw b
  obtain ⟨h1, h2, h3⟩ := h
  unfold pf83
  (try dsimp only)
  (repeat' split) <;> first
    | exact fine_mk ⟨⟨h1, h2, h3⟩, by simp [Rn.pfPass, Rn.noted, Rn.did, Rn.setA, Rn.setB, Rn.note, Rn.goto, Rn.fin, Rn.wake, Rn.waited]⟩
    | exact fine_mk ⟨⟨h1, hold _, h3⟩, by simp [Rn.pfPass, Rn.noted, Rn.did, Rn.setA, Rn.setB, Rn.note, Rn.goto, Rn.fin, Rn.wake, Rn.waited]⟩
    | exact fine_mk ⟨⟨h1, h2, hold _⟩, by simp [Rn.pfPass, Rn.noted, Rn.did, Rn.setA, Rn.setB, Rn.note, Rn.goto, Rn.fin, Rn.wake, Rn.waited]⟩
set_option maxHeartbeats 800000 in
theorem pft0_fine (s : Rn) (hw : Words s.L) (h : I64 s.n ∧ (0 ≤ s.f.a ∧ s.f.a < 4294967296) ∧ (0 ≤ s.f.b ∧ s.f.b < 4294967296)) : Fine s (pft0 s) := by
  have hold := fun b => doA_old s.L hw b
  obtain ⟨h1, h2, h3⟩ := h
  unfold pft0
  (try dsimp only)
  (repeat' split) <;> first
    | exact fine_mk ⟨⟨h1, h2, h3⟩, by simp [Rn.pfPass, Rn.noted, Rn.did, Rn.setA, Rn.setB, Rn.note, Rn.goto, Rn.fin, Rn.wake, Rn.waited]⟩
    | exact fine_mk ⟨⟨h1, hold _, h3⟩, by simp [Rn.pfPass, Rn.noted, Rn.did, Rn.setA, Rn.setB, Rn.note, Rn.goto, Rn.fin, Rn.wake, Rn.waited]⟩
    | exact fine_mk ⟨⟨h1, h2, hold _⟩, by simp [Rn.pfPass, Rn.noted, Rn.did, Rn.setA, Rn.setB, Rn.note, Rn.goto, Rn.fin, Rn.wake, Rn.waited]⟩
set_option maxHeartbeats 800000 in
theorem pft1_fine (s : Rn) (hw : Words s.L) (h : I64 s.n ∧ (0 ≤ s.f.a ∧ s.f.a < 4294967296) ∧ (0 ≤ s.f.b ∧ s.f.b < 4294967296)) : Fine s (pft1 s) := by
  have hold := fun b => doA_old s.L hw b
  obtain ⟨h1, h2, h3⟩ := h
  unfold pft1
  (try dsimp only)
  (repeat' split) <;> first
    | exact fine_mk ⟨⟨h1, h2, h3⟩, by simp [Rn.pfPass, Rn.noted, Rn.did, Rn.setA, Rn.setB, Rn.note, Rn.goto, Rn.fin, Rn.wake, Rn.waited]⟩
    | exact fine_mk ⟨⟨h1, hold _, h3⟩, by simp [Rn.pfPass, Rn.noted, Rn.did, Rn.setA, Rn.setB, Rn.note, Rn.goto, Rn.fin, Rn.wake, Rn.waited]⟩
    | exact fine_mk ⟨⟨h1, h2, hold _⟩, by simp [Rn.pfPass, Rn.noted, Rn.did, Rn.setA, Rn.setB, Rn.note, Rn.goto, Rn.fin, Rn.wake, Rn.waited]⟩
set_option maxHeartbeats 800000 in
theorem pft2_fine (s : Rn) (hw : Words s.L) (h : I64 s.n ∧ (0 ≤ s.f.a ∧ s.f.a < 4294967296) ∧ (0 ≤ s.f.b ∧ s.f.b < 4294967296)) : Fine s (pft2 s) := by
  have hold := fun b => doA_old s.L hw b
  obtain ⟨h1, h2, h3⟩ := h
  unfold pft2
  (try dsimp only)
  (repeat' split) <;> first
    | exact fine_mk ⟨⟨h1, h2, h3⟩, by simp [Rn.pfPass, Rn.noted, Rn.did, Rn.setA, Rn.setB, Rn.note, Rn.goto, Rn.fin, Rn.wake, Rn.waited]⟩
    | exact fine_mk ⟨⟨h1, hold _, h3⟩, by simp [Rn.pfPass, Rn.noted, Rn.did, Rn.setA, Rn.setB, Rn.note, Rn.goto, Rn.fin, Rn.wake, Rn.waited]⟩
    | exact fine_mk ⟨⟨h1, h2, hold _⟩, by simp [Rn.pfPass, Rn.noted, Rn.did, Rn.setA, Rn.setB, Rn.note, Rn.goto, Rn.fin, Rn.wake, Rn.waited]⟩
set_option maxHeartbeats 800000 in
theorem pft3_fine (s : Rn) (hw : Words s.L) (h : I64 s.n ∧ (0 ≤ s.f.a ∧ s.f.a < 4294967296) ∧ (0 ≤ s.f.b ∧ s.f.b < 4294967296)) : Fine s (pft3 s) := by
  have hold := fun b => doA_old s.L hw b
  obtain ⟨h1, h2, h3⟩ := h
  unfold pft3
  (try dsimp only)
  (repeat' split) <;> first
    | exact fine_mk ⟨⟨h1, h2, h3⟩, by simp [Rn.pfPass, Rn.noted, Rn.did, Rn.setA, Rn.setB, Rn.note, Rn.goto, Rn.fin, Rn.wake, Rn.waited]⟩
    | exact fine_mk ⟨⟨h1, hold _, h3⟩, by simp [Rn.pfPass, Rn.noted, Rn.did, Rn.setA, Rn.setB, Rn.note, Rn.goto, Rn.fin, Rn.wake, Rn.waited]⟩
    | exact fine_mk ⟨⟨h1, h2, hold _⟩, by simp [Rn.pfPass, Rn.noted, Rn.did, Rn.setA, Rn.setB, Rn.note, Rn.goto, Rn.fin, Rn.wake, Rn.waited]⟩
set_option maxHeartbeats 800000 in
theorem pft46_fine (s : Rn) (hw : Words s.L) (h : I64 s.n ∧ (0 ≤ s.f.a ∧ s.f.a < 4294967296) ∧ (0 ≤ s.f.b ∧ s.f.b < 4294967296)) : Fine s (pft46 s) := by
  have hold := fun b => doA_old s.L hw b
  obtain ⟨h1, h2, h3⟩ := h
  unfold pft46 pfIn6
  (try dsimp only)
  (repeat' split) <;> first
    | exact fine_mk ⟨⟨h1, h2, h3⟩, by simp [Rn.pfPass, Rn.noted, Rn.did, Rn.setA, Rn.setB, Rn.note, Rn.goto, Rn.fin, Rn.wake, Rn.waited]⟩
    | exact fine_mk ⟨⟨h1, hold _, h3⟩, by simp [Rn.pfPass, Rn.noted, Rn.did, Rn.setA, Rn.setB, Rn.note, Rn.goto, Rn.fin, Rn.wake, Rn.waited]⟩
    | exact fine_mk ⟨⟨h1, h2, hold _⟩, by simp [Rn.pfPass, Rn.noted, Rn.did, Rn.setA, Rn.setB, Rn.note, Rn.goto, Rn.fin, Rn.wake, Rn.waited]⟩
set_option maxHeartbeats 800000 in
theorem pft5_fine (s : Rn) (hw : Words s.L) (h : I64 s.n ∧ (0 ≤ s.f.a ∧ s.f.a < 4294967296) ∧ (0 ≤ s.f.b ∧ s.f.b < 4294967296)) : Fine s (pft5 s) := by
  have hold := fun b => doA_old s.L hw b
  obtain ⟨h1, h2, h3⟩ := h
  unfold pft5
  (try dsimp only)
  (repeat' split) <;> first
    | exact fine_mk ⟨⟨h1, h2, h3⟩, by simp [Rn.pfPass, Rn.noted, Rn.did, Rn.setA, Rn.setB, Rn.note, Rn.goto, Rn.fin, Rn.wake, Rn.waited]⟩
    | exact fine_mk ⟨⟨h1, hold _, h3⟩, by simp [Rn.pfPass, Rn.noted, Rn.did, Rn.setA, Rn.setB, Rn.note, Rn.goto, Rn.fin, Rn.wake, Rn.waited]⟩
    | exact fine_mk ⟨⟨h1, h2, hold _⟩, by simp [Rn.pfPass, Rn.noted, Rn.did, Rn.setA, Rn.setB, Rn.note, Rn.goto, Rn.fin, Rn.wake, Rn.waited]⟩
set_option maxHeartbeats 800000 in
theorem pft6_fine (s : Rn) (hw : Words s.L) (h : I64 s.n ∧ (0 ≤ s.f.a ∧ s.f.a < 4294967296) ∧ (0 ≤ s.f.b ∧ s.f.b < 4294967296)) : Fine s (pft6 s) := by
  have hold := fun b => doA_old s.L hw b
  obtain ⟨h1, h2, h3⟩ := h
  unfold pft6
  (try dsimp only)
  (repeat' split) <;> first
    | exact fine_mk ⟨⟨h1, h2, h3⟩, by simp [Rn.pfPass, Rn.noted, Rn.did, Rn.setA, Rn.setB, Rn.note, Rn.goto, Rn.fin, Rn.wake, Rn.waited]⟩
    | exact fine_mk ⟨⟨h1, hold _, h3⟩, by simp [Rn.pfPass, Rn.noted, Rn.did, Rn.setA, Rn.setB, Rn.note, Rn.goto, Rn.fin, Rn.wake, Rn.waited]⟩
    | exact fine_mk ⟨⟨h1, h2, hold _⟩, by simp [Rn.pfPass, Rn.noted, Rn.did, Rn.setA, Rn.setB, Rn.note, Rn.goto, Rn.fin, Rn.wake, Rn.waited]⟩
set_option maxHeartbeats 800000 in
theorem pft76_fine (s : Rn) (hw : Words s.L) (h : I64 s.n ∧ (0 ≤ s.f.a ∧ s.f.a < 4294967296) ∧ (0 ≤ s.f.b ∧ s.f.b < 4294967296)) : Fine s (pft76 s) := by
  have hold := fun b => doA_old s.L hw b
  obtain ⟨h1, h2, h3⟩ := h
  unfold pft76 pfLast6
  (try dsimp only)
  (repeat' split) <;> first
    | exact fine_mk ⟨⟨h1, h2, h3⟩, by simp [Rn.pfPass, Rn.noted, Rn.did, Rn.setA, Rn.setB, Rn.note, Rn.goto, Rn.fin, Rn.wake, Rn.waited]⟩
    | exact fine_mk ⟨⟨h1, hold _, h3⟩, by simp [Rn.pfPass, Rn.noted, Rn.did, Rn.setA, Rn.setB, Rn.note, Rn.goto, Rn.fin, Rn.wake, Rn.waited]⟩
    | exact fine_mk ⟨⟨h1, h2, hold _⟩, by simp [Rn.pfPass, Rn.noted, Rn.did, Rn.setA, Rn.setB, Rn.note, Rn.goto, Rn.fin, Rn.wake, Rn.waited]⟩
set_option maxHeartbeats 800000 in
theorem pft86_fine (s : Rn) (hw : Words s.L) (h : I64 s.n ∧ (0 ≤ s.f.a ∧ s.f.a < 4294967296) ∧ (0 ≤ s.f.b ∧ s.f.b < 4294967296)) : Fine s (pft86 s) := by
  have hold := fun b => doA_old s.L hw b
  obtain ⟨h1, h2, h3⟩ := h
  unfold pft86
  (try dsimp only)
  (repeat' split) <;> first
    | exact fine_mk ⟨⟨h1, h2, h3⟩, by simp [Rn.pfPass, Rn.noted, Rn.did, Rn.setA, Rn.setB, Rn.note, Rn.goto, Rn.fin, Rn.wake, Rn.waited]⟩
    | exact fine_mk ⟨⟨h1, hold _, h3⟩, by simp [Rn.pfPass, Rn.noted, Rn.did, Rn.setA, Rn.setB, Rn.note, Rn.goto, Rn.fin, Rn.wake, Rn.waited]⟩
    | exact fine_mk ⟨⟨h1, h2, hold _⟩, by simp [Rn.pfPass, Rn.noted, Rn.did, Rn.setA, Rn.setB, Rn.note, Rn.goto, Rn.fin, Rn.wake, Rn.waited]⟩
set_option maxHeartbeats 800000 in
theorem pft9_fine (s : Rn) (hw : Words s.L) (h : I64 s.n ∧ (0 ≤ s.f.a ∧ s.f.a < 4294967296) ∧ (0 ≤ s.f.b ∧ s.f.b < 4294967296)) : Fine s (pft9 s) := by
  have hold := fun b => doA_old s.L hw b
  obtain ⟨h1, h2, h3⟩ := h
  unfold pft9
  (try dsimp only)
  (repeat' split) <;> first
    | exact fine_mk ⟨⟨h1, h2, h3⟩, by simp [Rn.pfPass, Rn.noted, Rn.did, Rn.setA, Rn.setB, Rn.note, Rn.goto, Rn.fin, Rn.wake, Rn.waited]⟩
    | exact fine_mk ⟨⟨h1, hold _, h3⟩, by simp [Rn.pfPass, Rn.noted, Rn.did, Rn.setA, Rn.setB, Rn.note, Rn.goto, Rn.fin, Rn.wake, Rn.waited]⟩
    | exact fine_mk ⟨⟨h1, h2, hold _⟩, by simp [Rn.pfPass, Rn.noted, Rn.did, Rn.setA, Rn.setB, Rn.note, Rn.goto, Rn.fin, Rn.wake, Rn.waited]⟩
set_option maxHeartbeats 800000 in
theorem pft47_fine (s : Rn) (hw : Words s.L) (h : I64 s.n ∧ (0 ≤ s.f.a ∧ s.f.a < 4294967296) ∧ (0 ≤ s.f.b ∧ s.f.b < 4294967296)) : Fine s (pft47 s) := by
  have hold := fun b => doA_old s.L hw b
  obtain ⟨h1, h2, h3⟩ := h
  unfold pft47 pfIn7
  (try dsimp only)
  (repeat' split) <;> first
    | exact fine_mk ⟨⟨h1, h2, h3⟩, by simp [Rn.pfPass, Rn.noted, Rn.did, Rn.setA, Rn.setB, Rn.note, Rn.goto, Rn.fin, Rn.wake, Rn.waited]⟩
    | exact fine_mk ⟨⟨h1, hold _, h3⟩, by simp [Rn.pfPass, Rn.noted, Rn.did, Rn.setA, Rn.setB, Rn.note, Rn.goto, Rn.fin, Rn.wake, Rn.waited]⟩
    | exact fine_mk ⟨⟨h1, h2, hold _⟩, by simp [Rn.pfPass, Rn.noted, Rn.did, Rn.setA, Rn.setB, Rn.note, Rn.goto, Rn.fin, Rn.wake, Rn.waited]⟩
set_option maxHeartbeats 800000 in
theorem pft77_fine (s : Rn) (hw : Words s.L) (h : I64 s.n ∧ (0 ≤ s.f.a ∧ s.f.a < 4294967296) ∧ (0 ≤ s.f.b ∧ s.f.b < 4294967296)) : Fine s (pft77 s) := by
  have hold := fun b => doA_old s.L hw b
  obtain ⟨h1, h2, h3⟩ := h
  unfold pft77 pfLast7
  (try dsimp only)
  (repeat' split) <;> first
    | exact fine_mk ⟨⟨h1, h2, h3⟩, by simp [Rn.pfPass, Rn.noted, Rn.did, Rn.setA, Rn.setB, Rn.note, Rn.goto, Rn.fin, Rn.wake, Rn.waited]⟩
    | exact fine_mk ⟨⟨h1, hold _, h3⟩, by simp [Rn.pfPass, Rn.noted, Rn.did, Rn.setA, Rn.setB, Rn.note, Rn.goto, Rn.fin, Rn.wake, Rn.waited]⟩
    | exact fine_mk ⟨⟨h1, h2, hold _⟩, by simp [Rn.pfPass, Rn.noted, Rn.did, Rn.setA, Rn.setB, Rn.note, Rn.goto, Rn.fin, Rn.wake, Rn.waited]⟩
set_option maxHeartbeats 800000 in
theorem pft87_fine (s : Rn) (hw : Words s.L) (h : I64 s.n ∧ (0 ≤ s.f.a ∧ s.f.a < 4294967296) ∧ (0 ≤ s.f.b ∧ s.f.b < 4294967296)) : Fine s (pft87 s) := by
  have hold := fun b => doA_old s.L hw b
  obtain ⟨h1, h2, h3⟩ := h
  unfold pft87
  (try dsimp only)
  (repeat' split) <;> first
    | exact fine_mk ⟨⟨h1, h2, h3⟩, by simp [Rn.pfPass, Rn.noted, Rn.did, Rn.setA, Rn.setB, Rn.note, Rn.goto, Rn.fin, Rn.wake, Rn.waited]⟩
    | exact fine_mk ⟨⟨h1, hold _, h3⟩, by simp [Rn.pfPass, Rn.noted, Rn.did, Rn.setA, Rn.setB, Rn.note, Rn.goto, Rn.fin, Rn.wake, Rn.waited]⟩
    | exact fine_mk ⟨⟨h1, h2, hold _⟩, by simp [Rn.pfPass, Rn.noted, Rn.did, Rn.setA, Rn.setB, Rn.note, Rn.goto, Rn.fin, Rn.wake, Rn.waited]⟩
theorem pfA_fine (s : Rn) (hw : Words s.L) (h : I64 s.n ∧ (0 ≤ s.f.a ∧ s.f.a < 4294967296) ∧ (0 ≤ s.f.b ∧ s.f.b < 4294967296)) : (I64 (pfA s).n ∧ (0 ≤ (pfA s).f.a ∧ (pfA s).f.a < 4294967296) ∧ (0 ≤ (pfA s).f.b ∧ (pfA s).f.b < 4294967296)) ∧ (pfA s).notes.length ≤ s.notes.length + 10 := by
  suffices h0 : Fine s (pfA s) from h0
  unfold pfA
  by_cases h10 : s.f.op = 1 ∧ s.f.line = 0
  · rw [if_pos h10]; exact pfR10_fine s hw h
  rw [if_neg h10]
  by_cases h11 : s.f.op = 1 ∧ s.f.line = 1
  · rw [if_pos h11]; exact pfR11_fine s hw h
  rw [if_neg h11]
  by_cases h20 : s.f.op = 2 ∧ s.f.line = 0
  · rw [if_pos h20]; exact pfR20_fine s hw h
  rw [if_neg h20]
  by_cases h50 : s.f.op = 5 ∧ s.f.line = 0
  · rw [if_pos h50]; exact pfR50_fine s hw h
  rw [if_neg h50]
  by_cases h51 : s.f.op = 5 ∧ s.f.line = 1
  · rw [if_pos h51]; exact pfR51_fine s hw h
  rw [if_neg h51]
  by_cases h30 : s.f.op = 3 ∧ s.f.line = 0
  · rw [if_pos h30]; exact pf30_fine s hw h
  rw [if_neg h30]
  by_cases h31 : s.f.op = 3 ∧ s.f.line = 1
  · rw [if_pos h31]; exact pf31_fine s hw h
  rw [if_neg h31]
  by_cases h32 : s.f.op = 3 ∧ s.f.line = 2
  · rw [if_pos h32]; exact pf32_fine s hw h
  rw [if_neg h32]
  by_cases h33 : s.f.op = 3 ∧ s.f.line = 3
  · rw [if_pos h33]; exact pf33_fine s hw h
  rw [if_neg h33]
  by_cases h34 : s.f.op = 3 ∧ s.f.line = 4
  · rw [if_pos h34]; exact pf34_fine s hw h
  rw [if_neg h34]
  by_cases h40 : s.f.op = 4 ∧ s.f.line = 0
  · rw [if_pos h40]; exact pf40_fine s hw h
  rw [if_neg h40]
  by_cases h80 : s.f.op = 8 ∧ s.f.line = 0
  · rw [if_pos h80]; exact pf80_fine s hw h
  rw [if_neg h80]
  by_cases h41 : s.f.op = 4 ∧ s.f.line = 1
  · rw [if_pos h41]; exact pf41_fine s hw h
  rw [if_neg h41]
  by_cases h81 : s.f.op = 8 ∧ s.f.line = 1
  · rw [if_pos h81]; exact pf81_fine s hw h
  rw [if_neg h81]
  by_cases h42 : s.f.op = 4 ∧ s.f.line = 2
  · rw [if_pos h42]; exact pf42_fine s hw h
  rw [if_neg h42]
  by_cases h82 : s.f.op = 8 ∧ s.f.line = 2
  · rw [if_pos h82]; exact pf82_fine s hw h
  rw [if_neg h82]
  by_cases h43 : s.f.op = 4 ∧ s.f.line = 3
  · rw [if_pos h43]; exact pf43_fine s hw h
  rw [if_neg h43]
  by_cases h83 : s.f.op = 8 ∧ s.f.line = 3
  · rw [if_pos h83]; exact pf83_fine s hw h
  rw [if_neg h83]
  by_cases h60 : s.f.op = 6 ∧ s.f.line = 0
  · rw [if_pos h60]; exact pft0_fine s hw h
  rw [if_neg h60]
  by_cases h61 : s.f.op = 6 ∧ s.f.line = 1
  · rw [if_pos h61]; exact pft1_fine s hw h
  rw [if_neg h61]
  by_cases h62 : s.f.op = 6 ∧ s.f.line = 2
  · rw [if_pos h62]; exact pft2_fine s hw h
  rw [if_neg h62]
  by_cases h63 : s.f.op = 6 ∧ s.f.line = 3
  · rw [if_pos h63]; exact pft3_fine s hw h
  rw [if_neg h63]
  by_cases h64 : s.f.op = 6 ∧ s.f.line = 4
  · rw [if_pos h64]; exact pft46_fine s hw h
  rw [if_neg h64]
  by_cases h65 : s.f.op = 6 ∧ s.f.line = 5
  · rw [if_pos h65]; exact pft5_fine s hw h
  rw [if_neg h65]
  by_cases h66 : s.f.op = 6 ∧ s.f.line = 6
  · rw [if_pos h66]; exact pft6_fine s hw h
  rw [if_neg h66]
  by_cases h67 : s.f.op = 6 ∧ s.f.line = 7
  · rw [if_pos h67]; exact pft76_fine s hw h
  rw [if_neg h67]
  by_cases h68 : s.f.op = 6 ∧ s.f.line = 8
  · rw [if_pos h68]; exact pft86_fine s hw h
  rw [if_neg h68]
  by_cases h69 : s.f.op = 6 ∧ s.f.line = 9
  · rw [if_pos h69]; exact pft9_fine s hw h
  rw [if_neg h69]
  by_cases h70 : s.f.op = 7 ∧ s.f.line = 0
  · rw [if_pos h70]; exact pft0_fine s hw h
  rw [if_neg h70]
  by_cases h71 : s.f.op = 7 ∧ s.f.line = 1
  · rw [if_pos h71]; exact pft1_fine s hw h
  rw [if_neg h71]
  by_cases h72 : s.f.op = 7 ∧ s.f.line = 2
  · rw [if_pos h72]; exact pft2_fine s hw h
  rw [if_neg h72]
  by_cases h73 : s.f.op = 7 ∧ s.f.line = 3
  · rw [if_pos h73]; exact pft3_fine s hw h
  rw [if_neg h73]
  by_cases h74 : s.f.op = 7 ∧ s.f.line = 4
  · rw [if_pos h74]; exact pft47_fine s hw h
  rw [if_neg h74]
  by_cases h75 : s.f.op = 7 ∧ s.f.line = 5
  · rw [if_pos h75]; exact pft5_fine s hw h
  rw [if_neg h75]
  by_cases h76 : s.f.op = 7 ∧ s.f.line = 6
  · rw [if_pos h76]; exact pft6_fine s hw h
  rw [if_neg h76]
  by_cases h77 : s.f.op = 7 ∧ s.f.line = 7
  · rw [if_pos h77]; exact pft77_fine s hw h
  rw [if_neg h77]
  by_cases h78 : s.f.op = 7 ∧ s.f.line = 8
  · rw [if_pos h78]; exact pft87_fine s hw h
  rw [if_neg h78]
  by_cases h79 : s.f.op = 7 ∧ s.f.line = 9
  · rw [if_pos h79]; exact pft9_fine s hw h
  rw [if_neg h79]
  exact fine_mk ⟨h, by simp⟩
end Go.Proofs.YthnimpkoidablaaGreat.Z
