/- 5 texts of this claim, joined: what Package world needs of them. -/
import Derived.Test.YthnimpkoidablaaGreatZB13
import Derived.Test.YthnimpkoidablaaGreatZB07
import Derived.Test.YthnimpkoidablaaGreatZB15
import Derived.Deep.RegionHeld3
import Derived.Deep.DrawnRows
import Derived.Test.YthnimpkoidablaaGreatZB16
import Derived.Test.YthnimpkoidablaaGreatZB11
import Derived.Test.YthnimpkoidablaaGreatZB17
set_option linter.unusedVariables false
set_option linter.unusedSimpArgs false
namespace Go.Proofs.YthnimpkoidablaaGreat.Z
open Go.RowKit
attribute [local go_sem ↓] Go.wp_at_zero Go.wp_at_succ
def qpfP (b : Int) : Int := 2 + b % 2
theorem qand_1 (v : Int) (hv : 0 ≤ v ∧ v < 4294967296) : Go.bits .and .u32 v 1 = v % 2 := by
  obtain ⟨n, rfl⟩ : ∃ n : Nat, v = n := ⟨v.toNat, by omega⟩
  have h := ZB.bits_and n 1 (by omega) (by decide)
  have h2 : n &&& 1 = n / 1 % 2 * 1 := ZB.and_mask n 0 1
  rw [h2] at h
  refine Eq.trans h ?_
  omega
theorem qand_3 (v : Int) (hv : 0 ≤ v ∧ v < 4294967296) : Go.bits .and .u32 v 3 = v % 4 := by
  obtain ⟨n, rfl⟩ : ∃ n : Nat, v = n := ⟨v.toNat, by omega⟩
  have h := ZB.bits_and n 3 (by omega) (by decide)
  have h2 : n &&& 3 = n / 1 % 4 * 1 := ZB.and_mask n 0 2
  rw [h2] at h
  refine Eq.trans h ?_
  omega
theorem qor_2 (x : Int) (hx : x = 0 ∨ x = 1) : Go.bits .or .u32 2 x = 2 + x := by
  rcases hx with rfl | rfl <;> decide +kernel
theorem qpf_presence (b : Int) (w : World) (hb : 0 ≤ b ∧ b < 4294967296) : Calls Tryz.prog 140 #[.int .u32 b] w fun e w' => e = .returned (.int .u32 (qpfP b)) ∧ w = w' := by
  have h1 := qand_1 b hb
  have h2 := qor_2 (b % 2) (by omega)
  have H1 := Lib.hid h1
  have H2 := Lib.hid h2
  clear h1 h2
  go_enter Tryz.func140, Tryz.ntmps140
  go_wp2
  go_ret
  refine ⟨?_, rfl⟩
  show Ending.returned (Value.int .u32 _) = Ending.returned (Value.int .u32 _)
  unfold qpfP
  rw [H1.out, H2.out]
theorem qpf_mine (x v : Int) {b : Nat} (w : World) (hb : Blk w b #[.int .u32 x]) :
    Calls Tryz.prog 141 #[.int .u32 v, .pointer (some ⟨b, 0, none⟩)] w fun e w' => e = .returned (.bool (v == x)) ∧ Touch [] w w' := by
  obtain ⟨x0, x1, x2⟩ := hb.own
  go_enter Tryz.func141, Tryz.ntmps141
  go_wp2
  go_ret
  exact ⟨rfl, Touch.refl _ _⟩
theorem qpf_mine2 (x v : Int) {b : Nat} (w : World) (hb : Blk w b #[.int .u32 x]) :
    Calls Tryz.prog 180 #[.int .u32 v, .pointer (some ⟨b, 0, none⟩)] w fun e w' => e = .returned (.bool (v == x)) ∧ Touch [] w w' := by
  obtain ⟨x0, x1, x2⟩ := hb.own
  go_enter Tryz.func180, Tryz.ntmps180
  go_wp2
  go_ret
  exact ⟨rfl, Touch.refl _ _⟩
theorem qpf_other (x v : Int) {b : Nat} (w : World) (hv : 0 ≤ v ∧ v < 4294967296) (hb : Blk w b #[.int .u32 x]) :
    Calls Tryz.prog 136 #[.int .u32 v, .pointer (some ⟨b, 0, none⟩)] w fun e w' => e = .returned (.bool (v % 4 != x)) ∧ Touch [] w w' := by
  obtain ⟨x0, x1, x2⟩ := hb.own
  have h3 := qand_3 v hv
  have H3 := Lib.hid h3
  clear h3
  go_enter Tryz.func136, Tryz.ntmps136
  go_wp2
  go_ret
  refine ⟨?_, Touch.refl _ _⟩
  show Ending.returned (Value.bool _) = Ending.returned (Value.bool _)
  rw [H3.out]
theorem qpf_own_up {S0 : List Nat} {w0 w : World} {m a r : Nat} {rs : List Res} {s : Rn} (H : RunHas S0 w0 m a r rs s w) {l : Int} (hop : s.f.op = 7) (hl : s.f.line = l) : Calls Tryz.prog 179 #[.pointer (some ⟨r, 0, none⟩)] w fun e w' => e = .returned (.int .u32 256) ∧ w = w' := by
  obtain ⟨x0, x2, x4, x5, x6, x7⟩ := H.facts hop hl rfl rfl
  go_enter Tryz.func179, Tryz.ntmps179
  go_wp2
  go_ret
  exact ⟨rfl, rfl⟩
theorem qpf_own_no {S0 : List Nat} {w0 w : World} {m a r : Nat} {rs : List Res} {s : Rn} (H : RunHas S0 w0 m a r rs s w) {l : Int} (hop : s.f.op = 6) (hl : s.f.line = l) : Calls Tryz.prog 179 #[.pointer (some ⟨r, 0, none⟩)] w fun e w' => e = .returned (.int .u32 0) ∧ w = w' := by
  obtain ⟨x0, x2, x4, x5, x6, x7⟩ := H.facts hop hl rfl rfl
  go_enter Tryz.func179, Tryz.ntmps179
  go_wp2
  go_ret
  exact ⟨rfl, rfl⟩
def qpfR10 (s : Rn) : Rn :=
  let s1 := ((s.did (doA s.L ⟨3, 0, 256, 0, 0⟩)).setA (doA s.L ⟨3, 0, 256, 0, 0⟩).1.old).note 2 1
  if (doA s.L ⟨3, 0, 256, 0, 0⟩).1.old % 4 = 0 then (s1.note 4 0).fin true else s1.goto 1
set_option maxHeartbeats 800000 in
theorem qpf_r10 {S0 : List Nat} {w0 w : World} {m a r : Nat} {rs : List Res} {s : Rn} (H : RunHas S0 w0 m a r rs s w) (hop : s.f.op = 1) (hl : s.f.line = 0) (hn : I64 s.n) (ha : 0 ≤ s.f.a ∧ s.f.a < 4294967296) (hc : s.notes.length ≤ 900) :
    Calls Tryz.prog 93 #[.pointer (some ⟨r, 0, none⟩), .int .i64 0, .int .i64 1] w fun e w' => e = .returned (.bool true) ∧ RunHas S0 w0 m a r rs (qpfR10 s) w' := by
  obtain ⟨z0, z2, z4, z5, z6, z7⟩ := H.facts hop hl rfl rfl
  have HC := Lib.hid hc
  have HA := Lib.hid ha
  have HN := Lib.hid hn
  have HV := Lib.hid (H.old ⟨3, 0, 256, 0, 0⟩)
  have HH := Lib.hid H
  clear hc H hn ha
  unfold qpfR10
  (try dsimp only)
  by_cases hq : (doA s.L ⟨3, 0, 256, 0, 0⟩).1.old % 4 = 0
  · simp only [if_pos hq]
    have HQ := Lib.hid hq
    clear hq
    go_enter Tryz.func93, Tryz.ntmps93
    go_wp2_with fail
    go_quiet (fail)
    have HW := HH.out.drewN nq
    clear z0 z2 z4 z5 z6 z7
    generalize w.drewN nq = W at HW ⊢
    obtain ⟨z0, z2, z4, z5, z6, z7⟩ := HW.facts hop hl rfl rfl
    go_wp2_with fail
    refine (rn_add HW 0 256 (by decide)).mono ?_
    rintro e w1 ⟨rfl, H1⟩
    obtain ⟨x0, x2, x4, x5, x6, x7⟩ := H1.facts hop hl rfl rfl
    go_wp2_with fail
    refine (run_note (H1.setA (doA s.L ⟨3, 0, 256, 0, 0⟩).1.old) (by have := HC.out; first | exact Nat.le_trans this (by decide) | (simp [Rn.note, Rn.did, Rn.setA, Rn.setB, Rn.waited, Rn.goto, Rn.noted]; omega)) 2 1).mono ?_
    rintro e w2 ⟨rfl, H2⟩
    obtain ⟨x0, x2, x4, x5, x6, x7⟩ := H2.facts hop hl (x := (doA s.L ⟨3, 0, 256, 0, 0⟩).1.old) rfl rfl
    have hv := HV.out
    have hbit := qand_3 (doA s.L ⟨3, 0, 256, 0, 0⟩).1.old hv
    have hz : (Go.bits .and .u32 (doA s.L ⟨3, 0, 256, 0, 0⟩).1.old 3 == 0) = true := by rw [hbit]; simpa using HQ.out
    clear hv hbit
    go_wp2_with fail
    refine (run_note H2 (by have := HC.out; first | exact Nat.le_trans this (by decide) | (simp [Rn.note, Rn.did, Rn.setA, Rn.setB, Rn.waited, Rn.goto, Rn.noted]; omega)) 4 0).mono ?_
    rintro e w3 ⟨rfl, H3⟩
    go_wp2_with fail
    refine (rn_end H3 true).mono ?_
    rintro e w4 ⟨rfl, H4⟩
    go_wp2_with fail
    go_ret
    exact ⟨rfl, H4⟩
  · simp only [if_neg hq]
    have HQ := Lib.hid hq
    clear hq
    go_enter Tryz.func93, Tryz.ntmps93
    go_wp2_with fail
    go_quiet (fail)
    have HW := HH.out.drewN nq
    clear z0 z2 z4 z5 z6 z7
    generalize w.drewN nq = W at HW ⊢
    obtain ⟨z0, z2, z4, z5, z6, z7⟩ := HW.facts hop hl rfl rfl
    go_wp2_with fail
    refine (rn_add HW 0 256 (by decide)).mono ?_
    rintro e w1 ⟨rfl, H1⟩
    obtain ⟨x0, x2, x4, x5, x6, x7⟩ := H1.facts hop hl rfl rfl
    go_wp2_with fail
    refine (run_note (H1.setA (doA s.L ⟨3, 0, 256, 0, 0⟩).1.old) (by have := HC.out; first | exact Nat.le_trans this (by decide) | (simp [Rn.note, Rn.did, Rn.setA, Rn.setB, Rn.waited, Rn.goto, Rn.noted]; omega)) 2 1).mono ?_
    rintro e w2 ⟨rfl, H2⟩
    obtain ⟨x0, x2, x4, x5, x6, x7⟩ := H2.facts hop hl (x := (doA s.L ⟨3, 0, 256, 0, 0⟩).1.old) rfl rfl
    have hv := HV.out
    have hbit := qand_3 (doA s.L ⟨3, 0, 256, 0, 0⟩).1.old hv
    have hz : (Go.bits .and .u32 (doA s.L ⟨3, 0, 256, 0, 0⟩).1.old 3 == 0) = false := by rw [hbit]; simpa using HQ.out
    clear hv hbit
    go_wp2_with fail
    refine (rn_go H2 1).mono ?_
    rintro e w3 ⟨rfl, H3⟩
    go_wp2_with fail
    go_ret
    exact ⟨rfl, H3⟩
def qpfR11 (s : Rn) : Rn :=
  let s1 := s.waited (waitA s.L s.n s.mode s.task s.f.st 0 (fun v => v % 4 != s.f.a % 4))
  let s2 := if (waitA s.L s.n s.mode s.task s.f.st 0 (fun v => v % 4 != s.f.a % 4)).seen then s1.note 4 0 else s1
  if (waitA s.L s.n s.mode s.task s.f.st 0 (fun v => v % 4 != s.f.a % 4)).done then s2.fin true else s2
set_option maxHeartbeats 800000 in
theorem qpf_r11 {S0 : List Nat} {w0 w : World} {m a r : Nat} {rs : List Res} {s : Rn} (H : RunHas S0 w0 m a r rs s w) (hop : s.f.op = 1) (hl : s.f.line = 1) (hn : I64 s.n) (ha : 0 ≤ s.f.a ∧ s.f.a < 4294967296) (hc : s.notes.length ≤ 900) :
    Calls Tryz.prog 93 #[.pointer (some ⟨r, 0, none⟩), .int .i64 0, .int .i64 1] w fun e w' => e = .returned (.bool true) ∧ RunHas S0 w0 m a r rs (qpfR11 s) w' := by
  obtain ⟨z0, z2, z4, z5, z6, z7⟩ := H.facts hop hl rfl rfl
  have HC := Lib.hid hc
  have HA := Lib.hid ha
  have HN := Lib.hid hn
  have HH := Lib.hid H
  clear hc H hn ha
  unfold qpfR11
  (try dsimp only)
  have hbit := qand_3 s.f.a HA.out
  have HBIT := Lib.hid hbit
  clear hbit
  have hwt := fun (t2 : Nat) W (H : RunHas S0 w0 m a r (.blk t2 #[.int .u32 (s.f.a % 4)] :: rs) s W) => rn_wait H HN.out 0 136 #[] #[.pointer (some ⟨t2, 0, none⟩)] (fun v => v % 4 != s.f.a % 4) (enters_of Tryz.func136 (by kernel_rfl) rfl) (fun W v h0 h1 H => qpf_other (s.f.a % 4) v W ⟨h0, h1⟩ H.first)
  cases hs : (waitA s.L s.n s.mode s.task s.f.st 0 (fun v => v % 4 != s.f.a % 4)).seen <;> cases hd : (waitA s.L s.n s.mode s.task s.f.st 0 (fun v => v % 4 != s.f.a % 4)).done <;> rw [hs, hd] at hwt <;> simp only [if_true, Bool.false_eq_true, if_false] <;> (have HWT := Lib.hid hwt) <;> clear hwt hs hd
  · go_enter Tryz.func93, Tryz.ntmps93
    go_wp2_with fail
    go_quiet (fail)
    have HW := HH.out.drewN nq
    clear z0 z2 z4 z5 z6 z7
    generalize w.drewN nq = W at HW ⊢
    obtain ⟨z0, z2, z4, z5, z6, z7⟩ := HW.facts hop hl rfl rfl
    have HW0 := Lib.hid HW
    skip
    go_wp2_with fail
    refine calls_from (Facts := fun V => RunHas S0 w0 m a r (.blk W.heap.size #[.int .u32 (s.f.a % 4)] :: rs) s V) ?_ (by rw [← HBIT.out]; exact HW0.out.box rfl _ _)
    intro W1 HW1
    refine (HWT.out _ _ HW1).mono ?_
    rintro e w1 ⟨rfl, H1⟩
    go_wp2_with fail
    go_ret
    exact ⟨rfl, H1.unbox⟩
  · go_enter Tryz.func93, Tryz.ntmps93
    go_wp2_with fail
    go_quiet (fail)
    have HW := HH.out.drewN nq
    clear z0 z2 z4 z5 z6 z7
    generalize w.drewN nq = W at HW ⊢
    obtain ⟨z0, z2, z4, z5, z6, z7⟩ := HW.facts hop hl rfl rfl
    have HW0 := Lib.hid HW
    skip
    go_wp2_with fail
    refine calls_from (Facts := fun V => RunHas S0 w0 m a r (.blk W.heap.size #[.int .u32 (s.f.a % 4)] :: rs) s V) ?_ (by rw [← HBIT.out]; exact HW0.out.box rfl _ _)
    intro W1 HW1
    refine (HWT.out _ _ HW1).mono ?_
    rintro e w1 ⟨rfl, H1⟩
    go_wp2_with fail
    refine (rn_end H1 true).mono ?_
    rintro e w2 ⟨rfl, H2⟩
    go_wp2_with fail
    go_ret
    exact ⟨rfl, H2.unbox⟩
  · go_enter Tryz.func93, Tryz.ntmps93
    go_wp2_with fail
    go_quiet (fail)
    have HW := HH.out.drewN nq
    clear z0 z2 z4 z5 z6 z7
    generalize w.drewN nq = W at HW ⊢
    obtain ⟨z0, z2, z4, z5, z6, z7⟩ := HW.facts hop hl rfl rfl
    have HW0 := Lib.hid HW
    skip
    go_wp2_with fail
    refine calls_from (Facts := fun V => RunHas S0 w0 m a r (.blk W.heap.size #[.int .u32 (s.f.a % 4)] :: rs) s V) ?_ (by rw [← HBIT.out]; exact HW0.out.box rfl _ _)
    intro W1 HW1
    refine (HWT.out _ _ HW1).mono ?_
    rintro e w1 ⟨rfl, H1⟩
    go_wp2_with fail
    refine (run_note H1 (by have := HC.out; first | exact Nat.le_trans this (by decide) | (simp [Rn.note, Rn.did, Rn.setA, Rn.setB, Rn.waited, Rn.goto, Rn.noted]; omega)) 4 0).mono ?_
    rintro e w2 ⟨rfl, H2⟩
    go_wp2_with fail
    go_ret
    exact ⟨rfl, H2.unbox⟩
  · go_enter Tryz.func93, Tryz.ntmps93
    go_wp2_with fail
    go_quiet (fail)
    have HW := HH.out.drewN nq
    clear z0 z2 z4 z5 z6 z7
    generalize w.drewN nq = W at HW ⊢
    obtain ⟨z0, z2, z4, z5, z6, z7⟩ := HW.facts hop hl rfl rfl
    have HW0 := Lib.hid HW
    skip
    go_wp2_with fail
    refine calls_from (Facts := fun V => RunHas S0 w0 m a r (.blk W.heap.size #[.int .u32 (s.f.a % 4)] :: rs) s V) ?_ (by rw [← HBIT.out]; exact HW0.out.box rfl _ _)
    intro W1 HW1
    refine (HWT.out _ _ HW1).mono ?_
    rintro e w1 ⟨rfl, H1⟩
    go_wp2_with fail
    refine (run_note H1 (by have := HC.out; first | exact Nat.le_trans this (by decide) | (simp [Rn.note, Rn.did, Rn.setA, Rn.setB, Rn.waited, Rn.goto, Rn.noted]; omega)) 4 0).mono ?_
    rintro e w2 ⟨rfl, H2⟩
    go_wp2_with fail
    refine (rn_end H2 true).mono ?_
    rintro e w3 ⟨rfl, H3⟩
    go_wp2_with fail
    go_ret
    exact ⟨rfl, H3.unbox⟩
def qpfR20 (s : Rn) : Rn :=
  (((s.did (doA s.L ⟨3, 1, 256, 0, 0⟩)).note 6 0).wake 1).fin true
set_option maxHeartbeats 800000 in
theorem qpf_r20 {S0 : List Nat} {w0 w : World} {m a r : Nat} {rs : List Res} {s : Rn} (H : RunHas S0 w0 m a r rs s w) (hop : s.f.op = 2) (hl : s.f.line = 0) (hn : I64 s.n) (ha : 0 ≤ s.f.a ∧ s.f.a < 4294967296) (hc : s.notes.length ≤ 900) :
    Calls Tryz.prog 93 #[.pointer (some ⟨r, 0, none⟩), .int .i64 0, .int .i64 1] w fun e w' => e = .returned (.bool true) ∧ RunHas S0 w0 m a r rs (qpfR20 s) w' := by
  obtain ⟨z0, z2, z4, z5, z6, z7⟩ := H.facts hop hl rfl rfl
  have HC := Lib.hid hc
  have HA := Lib.hid ha
  have HN := Lib.hid hn
  have HH := Lib.hid H
  clear hc H hn ha
  unfold qpfR20
  (try dsimp only)
  go_enter Tryz.func93, Tryz.ntmps93
  go_wp2_with fail
  go_quiet (fail)
  have HW := HH.out.drewN nq
  clear z0 z2 z4 z5 z6 z7
  generalize w.drewN nq = W at HW ⊢
  obtain ⟨z0, z2, z4, z5, z6, z7⟩ := HW.facts hop hl rfl rfl
  go_wp2_with fail
  refine (rn_add HW 1 256 (by decide)).mono ?_
  rintro e w1 ⟨rfl, H1⟩
  go_wp2_with fail
  refine (run_note H1 (by have := HC.out; first | exact Nat.le_trans this (by decide) | (simp [Rn.note, Rn.did, Rn.setA, Rn.setB, Rn.waited, Rn.goto, Rn.noted]; omega)) 6 0).mono ?_
  rintro e w2 ⟨rfl, H2⟩
  go_wp2_with fail
  refine (rn_wake H2 1).mono ?_
  rintro e w3 ⟨rfl, H3⟩
  go_wp2_with fail
  refine (rn_end H3 true).mono ?_
  rintro e w4 ⟨rfl, H4⟩
  go_wp2_with fail
  go_ret
  exact ⟨rfl, H4⟩
def qpfR50 (s : Rn) : Rn :=
  let s1 := (s.did (doA s.L ⟨1, 0, 0, 0, 0⟩)).setA (doA s.L ⟨1, 0, 0, 0, 0⟩).1.old
  if (doA s.L ⟨1, 0, 0, 0, 0⟩).1.old % 4 = 0 then s1.goto 1 else (s1.note 5 0).fin false
set_option maxHeartbeats 800000 in
theorem qpf_r50 {S0 : List Nat} {w0 w : World} {m a r : Nat} {rs : List Res} {s : Rn} (H : RunHas S0 w0 m a r rs s w) (hop : s.f.op = 5) (hl : s.f.line = 0) (hn : I64 s.n) (ha : 0 ≤ s.f.a ∧ s.f.a < 4294967296) (hc : s.notes.length ≤ 900) :
    Calls Tryz.prog 93 #[.pointer (some ⟨r, 0, none⟩), .int .i64 0, .int .i64 1] w fun e w' => e = .returned (.bool true) ∧ RunHas S0 w0 m a r rs (qpfR50 s) w' := by
  obtain ⟨z0, z2, z4, z5, z6, z7⟩ := H.facts hop hl rfl rfl
  have HC := Lib.hid hc
  have HA := Lib.hid ha
  have HN := Lib.hid hn
  have HV := Lib.hid (H.old ⟨1, 0, 0, 0, 0⟩)
  have HH := Lib.hid H
  clear hc H hn ha
  unfold qpfR50
  (try dsimp only)
  by_cases hq : (doA s.L ⟨1, 0, 0, 0, 0⟩).1.old % 4 = 0
  · simp only [if_pos hq]
    have HQ := Lib.hid hq
    clear hq
    go_enter Tryz.func93, Tryz.ntmps93
    go_wp2_with fail
    go_quiet (fail)
    have HW := HH.out.drewN nq
    clear z0 z2 z4 z5 z6 z7
    generalize w.drewN nq = W at HW ⊢
    obtain ⟨z0, z2, z4, z5, z6, z7⟩ := HW.facts hop hl rfl rfl
    go_wp2_with fail
    refine (rn_load HW 0).mono ?_
    rintro e w1 ⟨rfl, H1⟩
    obtain ⟨x0, x2, x4, x5, x6, x7⟩ := H1.facts hop hl rfl rfl
    have hv := HV.out
    have hbit := qand_3 (doA s.L ⟨1, 0, 0, 0, 0⟩).1.old hv
    have hz : (Go.bits .and .u32 (doA s.L ⟨1, 0, 0, 0, 0⟩).1.old 3 != 0) = false := by rw [hbit]; simpa using HQ.out
    clear hv hbit
    go_wp2_with fail
    refine (rn_go (H1.setA (doA s.L ⟨1, 0, 0, 0, 0⟩).1.old) 1).mono ?_
    rintro e w2 ⟨rfl, H2⟩
    go_wp2_with fail
    go_ret
    exact ⟨rfl, H2⟩
  · simp only [if_neg hq]
    have HQ := Lib.hid hq
    clear hq
    go_enter Tryz.func93, Tryz.ntmps93
    go_wp2_with fail
    go_quiet (fail)
    have HW := HH.out.drewN nq
    clear z0 z2 z4 z5 z6 z7
    generalize w.drewN nq = W at HW ⊢
    obtain ⟨z0, z2, z4, z5, z6, z7⟩ := HW.facts hop hl rfl rfl
    go_wp2_with fail
    refine (rn_load HW 0).mono ?_
    rintro e w1 ⟨rfl, H1⟩
    obtain ⟨x0, x2, x4, x5, x6, x7⟩ := H1.facts hop hl rfl rfl
    have hv := HV.out
    have hbit := qand_3 (doA s.L ⟨1, 0, 0, 0, 0⟩).1.old hv
    have hz : (Go.bits .and .u32 (doA s.L ⟨1, 0, 0, 0, 0⟩).1.old 3 != 0) = true := by rw [hbit]; simpa using HQ.out
    clear hv hbit
    go_wp2_with fail
    refine (run_note (H1.setA (doA s.L ⟨1, 0, 0, 0, 0⟩).1.old) (by have := HC.out; first | exact Nat.le_trans this (by decide) | (simp [Rn.note, Rn.did, Rn.setA, Rn.setB, Rn.waited, Rn.goto, Rn.noted]; omega)) 5 0).mono ?_
    rintro e w2 ⟨rfl, H2⟩
    go_wp2_with fail
    refine (rn_end H2 false).mono ?_
    rintro e w3 ⟨rfl, H3⟩
    go_wp2_with fail
    go_ret
    exact ⟨rfl, H3⟩
def qpfR51 (s : Rn) : Rn :=
  if casB s.L 0 s.f.a ((s.f.a + 256) % 4294967296) then (((s.did (doA s.L ⟨5, 0, s.f.a, (s.f.a + 256) % 4294967296, 0⟩)).note 2 1).note 4 0).fin true else (s.did (doA s.L ⟨5, 0, s.f.a, (s.f.a + 256) % 4294967296, 0⟩)).goto 0
set_option maxHeartbeats 800000 in
theorem qpf_r51 {S0 : List Nat} {w0 w : World} {m a r : Nat} {rs : List Res} {s : Rn} (H : RunHas S0 w0 m a r rs s w) (hop : s.f.op = 5) (hl : s.f.line = 1) (hn : I64 s.n) (ha : 0 ≤ s.f.a ∧ s.f.a < 4294967296) (hc : s.notes.length ≤ 900) :
    Calls Tryz.prog 93 #[.pointer (some ⟨r, 0, none⟩), .int .i64 0, .int .i64 1] w fun e w' => e = .returned (.bool true) ∧ RunHas S0 w0 m a r rs (qpfR51 s) w' := by
  obtain ⟨z0, z2, z4, z5, z6, z7⟩ := H.facts hop hl rfl rfl
  have HC := Lib.hid hc
  have HA := Lib.hid ha
  have HN := Lib.hid hn
  have HH := Lib.hid H
  clear hc H hn ha
  unfold qpfR51
  (try dsimp only)
  have hcas := fun W (H : RunHas S0 w0 m a r rs s W) => rn_cas H 0 s.f.a ((s.f.a + 256) % 4294967296) HA.out (by have := HA.out; omega)
  cases hb : casB s.L 0 s.f.a ((s.f.a + 256) % 4294967296) with
  | true =>
    rw [hb] at hcas
    simp only [if_true]
    have HCAS := Lib.hid hcas
    clear hcas hb
    go_enter Tryz.func93, Tryz.ntmps93
    go_wp2_with fail
    go_quiet (fail)
    have HW := HH.out.drewN nq
    clear z0 z2 z4 z5 z6 z7
    generalize w.drewN nq = W at HW ⊢
    obtain ⟨z0, z2, z4, z5, z6, z7⟩ := HW.facts hop hl rfl rfl
    go_wp2_with fail
    refine region_flat (by kernel_rfl) (by kernel_rfl) ?_
    simp only [probed, probes, List.nil_append, List.cons_append, probe]
    go_wp2_with fail
    refine (HCAS.out _ HW.drew).mono ?_
    rintro e w1 ⟨rfl, H1⟩
    go_wp2_with fail
    rw [only_normal]
    rename_i hK
    refine hK _ _ ?_
    clear hK
    go_wp2_with fail
    refine (run_note H1 (by have := HC.out; first | exact Nat.le_trans this (by decide) | (simp [Rn.note, Rn.did, Rn.setA, Rn.setB, Rn.waited, Rn.goto, Rn.noted]; omega)) 2 1).mono ?_
    rintro e w2 ⟨rfl, H2⟩
    go_wp2_with fail
    refine (run_note H2 (by have := HC.out; first | exact Nat.le_trans this (by decide) | (simp [Rn.note, Rn.did, Rn.setA, Rn.setB, Rn.waited, Rn.goto, Rn.noted]; omega)) 4 0).mono ?_
    rintro e w3 ⟨rfl, H3⟩
    go_wp2_with fail
    refine (rn_end H3 true).mono ?_
    rintro e w4 ⟨rfl, H4⟩
    go_wp2_with fail
    go_ret
    exact ⟨rfl, H4⟩
  | false =>
    rw [hb] at hcas
    simp only [Bool.false_eq_true, if_false]
    have HCAS := Lib.hid hcas
    clear hcas hb
    go_enter Tryz.func93, Tryz.ntmps93
    go_wp2_with fail
    go_quiet (fail)
    have HW := HH.out.drewN nq
    clear z0 z2 z4 z5 z6 z7
    generalize w.drewN nq = W at HW ⊢
    obtain ⟨z0, z2, z4, z5, z6, z7⟩ := HW.facts hop hl rfl rfl
    go_wp2_with fail
    refine region_flat (by kernel_rfl) (by kernel_rfl) ?_
    simp only [probed, probes, List.nil_append, List.cons_append, probe]
    go_wp2_with fail
    refine (HCAS.out _ HW.drew).mono ?_
    rintro e w1 ⟨rfl, H1⟩
    go_wp2_with fail
    rw [only_normal]
    rename_i hK
    refine hK _ _ ?_
    clear hK
    go_wp2_with fail
    refine (rn_go H1 0).mono ?_
    rintro e w2 ⟨rfl, H2⟩
    go_wp2_with fail
    go_ret
    exact ⟨rfl, H2⟩
set_option maxHeartbeats 1600000 in
theorem qpf_r_none {S0 : List Nat} {w0 w : World} {m a r : Nat} {rs : List Res} {s : Rn} (H : RunHas S0 w0 m a r rs s w) {o l : Int} (hop : s.f.op = o) (hl : s.f.line = l) (h0 : ¬ (o = 1 ∧ l = 0)) (h1 : ¬ (o = 1 ∧ l = 1)) (h2 : ¬ (o = 2 ∧ l = 0)) (h3 : ¬ (o = 5 ∧ l = 0)) (h4 : ¬ (o = 5 ∧ l = 1)) :
    Calls Tryz.prog 93 #[.pointer (some ⟨r, 0, none⟩), .int .i64 0, .int .i64 1] w fun e w' => e = .returned (.bool false) ∧ RunHas S0 w0 m a r rs s w' := by
  obtain ⟨z0, z2, z4, z5, z6, z7⟩ := H.facts hop hl rfl rfl
  have HH := Lib.hid H
  clear H
  go_enter Tryz.func93, Tryz.ntmps93
  go_wp2_with fail
  go_quiet (fail)
  have HW := HH.out.drewN nq
  clear z0 z2 z4 z5 z6 z7
  generalize w.drewN nq = W at HW ⊢
  obtain ⟨z0, z2, z4, z5, z6, z7⟩ := HW.facts hop hl rfl rfl
  go_wp2_with fail
  all_goals
    go_ret
    exact ⟨rfl, HW⟩
end Go.Proofs.YthnimpkoidablaaGreat.Z

set_option linter.unusedVariables false
set_option linter.unusedSimpArgs false
namespace Go.Proofs.YthnimpkoidablaaGreat.Z
open Go.RowKit
attribute [local go_sem ↓] Go.wp_at_zero Go.wp_at_succ
theorem qmxTry_notes (tail : Int) (s : Rn) : (mxTry tail s).2.2.notes = s.notes := by
  unfold mxTry
  split
  · rfl
  split <;> rfl
def pqGive (q : Int) (ok : Bool) (s : Rn) : Rn := if (mxGive 2 q [8] s).1 then (mxGive 2 q [8] s).2.fin ok else (mxGive 2 q [8] s).2
set_option maxHeartbeats 1600000 in
theorem pq_lock5 {S0 : List Nat} {w0 w : World} {m a r : Nat} {rs : List Res} {s : Rn} (H : RunHas S0 w0 m a r rs s w) {o l : Int} (hop : s.f.op = o) (hl : s.f.line = l) (h5 : l = 5) (hn : I64 s.n) (ha : 0 ≤ s.f.a ∧ s.f.a < 4294967296) (hb : 0 ≤ s.f.b ∧ s.f.b < 4294967296) (hc : s.notes.length ≤ 800) :
    Calls Tryz.prog 98 #[.pointer (some ⟨r, 0, none⟩)] w fun e w' => e = .returned (.tuple #[]) ∧ RunHas S0 w0 m a r rs (((s.did (doA s.L ⟨1, 3, 0, 0, 0⟩)).setB (doA s.L ⟨1, 3, 0, 0, 0⟩).1.old).goto 6) w' := by
  obtain ⟨z0, z2, z4, z5, z6, z7⟩ := H.facts hop hl rfl rfl
  have HC := Lib.hid hc
  have HA := Lib.hid ha
  have HBB := Lib.hid hb
  have HN := Lib.hid hn
  have HH := Lib.hid H
  clear hc H hn ha hb
  subst h5
  go_enter Tryz.func98, Tryz.ntmps98
  go_wp2_with fail
  refine calls_from (Facts := fun V => RunHas S0 w0 m a r (.blk w.heap.size #[.int .u32 s.f.a] :: rs) s V) ?_ (by first | exact HH.out.box rfl _ _ | exact (HH.out.box rfl _ _).drew | exact HH.out.drew.box rfl _ _)
  clear z0 z2 z4 z5 z6 z7
  intro W HW
  generalize w.heap.size = tb at HW ⊢
  obtain ⟨z0, z2, z4, z5, z6, z7⟩ := HW.facts hop hl rfl rfl
  refine (rn_load HW 3).mono ?_
  rintro e w1 ⟨rfl, H1⟩
  obtain ⟨x0, x2, x4, x5, x6, x7⟩ := H1.facts hop hl rfl rfl
  go_wp2_with fail
  refine (rn_go (H1.setB (doA s.L ⟨1, 3, 0, 0, 0⟩).1.old) 6).mono ?_
  rintro e w2 ⟨rfl, H2⟩
  go_wp2_with fail
  go_end0
  exact ⟨rfl, H2.unbox⟩
set_option maxHeartbeats 1600000 in
theorem pq_lock6 {S0 : List Nat} {w0 w : World} {m a r : Nat} {rs : List Res} {s : Rn} (H : RunHas S0 w0 m a r rs s w) {o l : Int} (hop : s.f.op = o) (hl : s.f.line = l) (h5 : l = 6) (hn : I64 s.n) (ha : 0 ≤ s.f.a ∧ s.f.a < 4294967296) (hb : 0 ≤ s.f.b ∧ s.f.b < 4294967296) (hc : s.notes.length ≤ 800) :
    Calls Tryz.prog 98 #[.pointer (some ⟨r, 0, none⟩)] w fun e w' => e = .returned (.tuple #[]) ∧ RunHas S0 w0 m a r rs ((((s.did (doA s.L ⟨3, 0, qpfP s.f.b, 0, 0⟩)).setA (doA s.L ⟨3, 0, qpfP s.f.b, 0, 0⟩).1.old).note 3 0).goto 7) w' := by
  obtain ⟨z0, z2, z4, z5, z6, z7⟩ := H.facts hop hl rfl rfl
  have HC := Lib.hid hc
  have HA := Lib.hid ha
  have HBB := Lib.hid hb
  have HN := Lib.hid hn
  have HH := Lib.hid H
  clear hc H hn ha hb
  subst h5
  go_enter Tryz.func98, Tryz.ntmps98
  go_wp2_with fail
  refine calls_from (Facts := fun V => RunHas S0 w0 m a r (.blk w.heap.size #[.int .u32 s.f.a] :: rs) s V) ?_ (by first | exact HH.out.box rfl _ _ | exact (HH.out.box rfl _ _).drew | exact HH.out.drew.box rfl _ _)
  clear z0 z2 z4 z5 z6 z7
  intro W HW
  generalize w.heap.size = tb at HW ⊢
  obtain ⟨z0, z2, z4, z5, z6, z7⟩ := HW.facts hop hl rfl rfl
  refine (qpf_presence _ _ HBB.out).mono ?_
  rintro e w9 ⟨rfl, rfl⟩
  go_wp2_with fail
  refine (rn_add HW 0 (qpfP s.f.b) (by have : 0 ≤ qpfP s.f.b ∧ qpfP s.f.b < 4294967296 := (by unfold qpfP; omega); omega)).mono ?_
  rintro e w1 ⟨rfl, H1⟩
  obtain ⟨x0, x2, x4, x5, x6, x7⟩ := H1.facts hop hl rfl rfl
  go_wp2_with fail
  refine (run_note (H1.setA (doA s.L ⟨3, 0, qpfP s.f.b, 0, 0⟩).1.old) (by have := HC.out; first | exact Nat.le_trans this (by decide) | (simp [Rn.note, Rn.did, Rn.setA, Rn.setB, Rn.waited, Rn.goto, Rn.noted]; omega)) 3 0).mono ?_
  rintro e w2 ⟨rfl, H2⟩
  go_wp2_with fail
  refine (rn_go H2 7).mono ?_
  rintro e w3 ⟨rfl, H3⟩
  go_wp2_with fail
  go_end0
  exact ⟨rfl, H3.unbox⟩
set_option maxHeartbeats 1600000 in
theorem pq_lock7 {S0 : List Nat} {w0 w : World} {m a r : Nat} {rs : List Res} {s : Rn} (H : RunHas S0 w0 m a r rs s w) {o l : Int} (hop : s.f.op = o) (hl : s.f.line = l) (h5 : l = 7) (hn : I64 s.n) (ha : 0 ≤ s.f.a ∧ s.f.a < 4294967296) (hb : 0 ≤ s.f.b ∧ s.f.b < 4294967296) (hc : s.notes.length ≤ 800) :
    Calls Tryz.prog 98 #[.pointer (some ⟨r, 0, none⟩)] w fun e w' => e = .returned (.tuple #[]) ∧ RunHas S0 w0 m a r rs (let s1 := s.waited (waitA s.L s.n s.mode s.task s.f.st 1 (fun v => v == s.f.a)); let s2 := if (waitA s.L s.n s.mode s.task s.f.st 1 (fun v => v == s.f.a)).seen then s1.note 4 0 else s1; if (waitA s.L s.n s.mode s.task s.f.st 1 (fun v => v == s.f.a)).done then s2.fin true else s2) w' := by
  obtain ⟨z0, z2, z4, z5, z6, z7⟩ := H.facts hop hl rfl rfl
  have HC := Lib.hid hc
  have HA := Lib.hid ha
  have HBB := Lib.hid hb
  have HN := Lib.hid hn
  have HH := Lib.hid H
  clear hc H hn ha hb
  subst h5
  have hwt := fun (t2 : Nat) W (H : RunHas S0 w0 m a r (.blk t2 #[.int .u32 s.f.a] :: rs) s W) => rn_wait H HN.out 1 141 #[] #[.pointer (some ⟨t2, 0, none⟩)] (fun v => v == s.f.a) (enters_of Tryz.func141 (by kernel_rfl) rfl) (fun W v h0 h1 H => qpf_mine s.f.a v W H.first)
  cases hs : (waitA s.L s.n s.mode s.task s.f.st 1 (fun v => v == s.f.a)).seen <;> cases hd : (waitA s.L s.n s.mode s.task s.f.st 1 (fun v => v == s.f.a)).done <;> rw [hs, hd] at hwt <;> simp only [if_true, Bool.false_eq_true, if_false] <;> (have HWT := Lib.hid hwt) <;> clear hwt hs hd
  · go_enter Tryz.func98, Tryz.ntmps98
    go_wp2_with fail
    refine calls_from (Facts := fun V => RunHas S0 w0 m a r (.blk w.heap.size #[.int .u32 s.f.a] :: rs) s V) ?_ (by first | exact HH.out.box rfl _ _ | exact (HH.out.box rfl _ _).drew | exact HH.out.drew.box rfl _ _)
    clear z0 z2 z4 z5 z6 z7
    intro W HW
    generalize w.heap.size = tb at HW ⊢
    obtain ⟨z0, z2, z4, z5, z6, z7⟩ := HW.facts hop hl rfl rfl
    refine (HWT.out _ _ HW).mono ?_
    rintro e w1 ⟨rfl, H1⟩
    go_wp2_with fail
    go_end0
    exact ⟨rfl, H1.unbox⟩
  · go_enter Tryz.func98, Tryz.ntmps98
    go_wp2_with fail
    refine calls_from (Facts := fun V => RunHas S0 w0 m a r (.blk w.heap.size #[.int .u32 s.f.a] :: rs) s V) ?_ (by first | exact HH.out.box rfl _ _ | exact (HH.out.box rfl _ _).drew | exact HH.out.drew.box rfl _ _)
    clear z0 z2 z4 z5 z6 z7
    intro W HW
    generalize w.heap.size = tb at HW ⊢
    obtain ⟨z0, z2, z4, z5, z6, z7⟩ := HW.facts hop hl rfl rfl
    refine (HWT.out _ _ HW).mono ?_
    rintro e w1 ⟨rfl, H1⟩
    go_wp2_with fail
    refine (rn_end H1 true).mono ?_
    rintro e w2 ⟨rfl, H2⟩
    go_wp2_with fail
    go_end0
    exact ⟨rfl, H2.unbox⟩
  · go_enter Tryz.func98, Tryz.ntmps98
    go_wp2_with fail
    refine calls_from (Facts := fun V => RunHas S0 w0 m a r (.blk w.heap.size #[.int .u32 s.f.a] :: rs) s V) ?_ (by first | exact HH.out.box rfl _ _ | exact (HH.out.box rfl _ _).drew | exact HH.out.drew.box rfl _ _)
    clear z0 z2 z4 z5 z6 z7
    intro W HW
    generalize w.heap.size = tb at HW ⊢
    obtain ⟨z0, z2, z4, z5, z6, z7⟩ := HW.facts hop hl rfl rfl
    refine (HWT.out _ _ HW).mono ?_
    rintro e w1 ⟨rfl, H1⟩
    go_wp2_with fail
    refine (run_note H1 (by have := HC.out; first | exact Nat.le_trans this (by decide) | (simp [Rn.note, Rn.did, Rn.setA, Rn.setB, Rn.waited, Rn.goto, Rn.noted]; omega)) 4 0).mono ?_
    rintro e w2 ⟨rfl, H2⟩
    go_wp2_with fail
    go_end0
    exact ⟨rfl, H2.unbox⟩
  · go_enter Tryz.func98, Tryz.ntmps98
    go_wp2_with fail
    refine calls_from (Facts := fun V => RunHas S0 w0 m a r (.blk w.heap.size #[.int .u32 s.f.a] :: rs) s V) ?_ (by first | exact HH.out.box rfl _ _ | exact (HH.out.box rfl _ _).drew | exact HH.out.drew.box rfl _ _)
    clear z0 z2 z4 z5 z6 z7
    intro W HW
    generalize w.heap.size = tb at HW ⊢
    obtain ⟨z0, z2, z4, z5, z6, z7⟩ := HW.facts hop hl rfl rfl
    refine (HWT.out _ _ HW).mono ?_
    rintro e w1 ⟨rfl, H1⟩
    go_wp2_with fail
    refine (run_note H1 (by have := HC.out; first | exact Nat.le_trans this (by decide) | (simp [Rn.note, Rn.did, Rn.setA, Rn.setB, Rn.waited, Rn.goto, Rn.noted]; omega)) 4 0).mono ?_
    rintro e w2 ⟨rfl, H2⟩
    go_wp2_with fail
    refine (rn_end H2 true).mono ?_
    rintro e w3 ⟨rfl, H3⟩
    go_wp2_with fail
    go_end0
    exact ⟨rfl, H3.unbox⟩
def pqEnter (s : Rn) : Rn := if (mxEnter 2 2 s).1 then (mxEnter 2 2 s).2.goto 5 else (mxEnter 2 2 s).2
set_option maxHeartbeats 1600000 in
theorem pq_lockE {S0 : List Nat} {w0 w : World} {m a r : Nat} {rs : List Res} {s : Rn} (H : RunHas S0 w0 m a r rs s w) {o l : Int} (hop : s.f.op = o) (hl : s.f.line = l) (h5 : ¬ l = 5) (h6 : ¬ l = 6) (h7 : ¬ l = 7) (hn : I64 s.n) (ha : 0 ≤ s.f.a ∧ s.f.a < 4294967296) (hb : 0 ≤ s.f.b ∧ s.f.b < 4294967296) (hc : s.notes.length ≤ 800) :
    Calls Tryz.prog 98 #[.pointer (some ⟨r, 0, none⟩)] w fun e w' => e = .returned (.tuple #[]) ∧ RunHas S0 w0 m a r rs (pqEnter s) w' := by
  obtain ⟨z0, z2, z4, z5, z6, z7⟩ := H.facts hop hl rfl rfl
  have HC := Lib.hid hc
  have HA := Lib.hid ha
  have HBB := Lib.hid hb
  have HN := Lib.hid hn
  have HH := Lib.hid H
  clear hc H hn ha hb
  have he := fun (tb : Nat) W (HX : RunHas S0 w0 m a r (.blk tb #[.int .u32 s.f.a] :: rs) s W) => mx_enter HX 2 2 HN.out HA.out (by have := HC.out; omega)
  unfold pqEnter
  generalize mxEnter 2 2 s = R at he ⊢
  obtain ⟨b, s1⟩ := R
  have HE := Lib.hid he
  clear he
  cases b with
  | true =>
    go_enter Tryz.func98, Tryz.ntmps98
    go_wp2_with fail
    refine calls_from (Facts := fun V => RunHas S0 w0 m a r (.blk w.heap.size #[.int .u32 s.f.a] :: rs) s V) ?_ (by first | exact HH.out.box rfl _ _ | exact (HH.out.box rfl _ _).drew | exact HH.out.drew.box rfl _ _)
    clear z0 z2 z4 z5 z6 z7
    intro W HW
    generalize w.heap.size = tb at HW ⊢
    obtain ⟨z0, z2, z4, z5, z6, z7⟩ := HW.facts hop hl rfl rfl
    refine (HE.out _ _ HW).mono ?_
    rintro e w1 ⟨rfl, H1⟩
    go_wp2_with fail
    refine (rn_go H1 5).mono ?_
    rintro e w2 ⟨rfl, H2⟩
    go_wp2_with fail
    go_end0
    exact ⟨rfl, H2.unbox⟩
  | false =>
    go_enter Tryz.func98, Tryz.ntmps98
    go_wp2_with fail
    refine calls_from (Facts := fun V => RunHas S0 w0 m a r (.blk w.heap.size #[.int .u32 s.f.a] :: rs) s V) ?_ (by first | exact HH.out.box rfl _ _ | exact (HH.out.box rfl _ _).drew | exact HH.out.drew.box rfl _ _)
    clear z0 z2 z4 z5 z6 z7
    intro W HW
    generalize w.heap.size = tb at HW ⊢
    obtain ⟨z0, z2, z4, z5, z6, z7⟩ := HW.facts hop hl rfl rfl
    refine (HE.out _ _ HW).mono ?_
    rintro e w1 ⟨rfl, H1⟩
    go_wp2_with fail
    go_end0
    exact ⟨rfl, H1.unbox⟩
def pqLock (s : Rn) : Rn :=
  if s.f.line = 5 then (((s.did (doA s.L ⟨1, 3, 0, 0, 0⟩)).setB (doA s.L ⟨1, 3, 0, 0, 0⟩).1.old).goto 6)
  else if s.f.line = 6 then ((((s.did (doA s.L ⟨3, 0, qpfP s.f.b, 0, 0⟩)).setA (doA s.L ⟨3, 0, qpfP s.f.b, 0, 0⟩).1.old).note 3 0).goto 7)
  else if s.f.line = 7 then (let s1 := s.waited (waitA s.L s.n s.mode s.task s.f.st 1 (fun v => v == s.f.a)); let s2 := if (waitA s.L s.n s.mode s.task s.f.st 1 (fun v => v == s.f.a)).seen then s1.note 4 0 else s1; if (waitA s.L s.n s.mode s.task s.f.st 1 (fun v => v == s.f.a)).done then s2.fin true else s2)
  else pqEnter s
theorem pq_lock {S0 : List Nat} {w0 w : World} {m a r : Nat} {rs : List Res} {s : Rn} (H : RunHas S0 w0 m a r rs s w) (hn : I64 s.n) (ha : 0 ≤ s.f.a ∧ s.f.a < 4294967296) (hb : 0 ≤ s.f.b ∧ s.f.b < 4294967296) (hc : s.notes.length ≤ 800) : Calls Tryz.prog 98 #[.pointer (some ⟨r, 0, none⟩)] w fun e w' => e = .returned (.tuple #[]) ∧ RunHas S0 w0 m a r rs (pqLock s) w' := by
  unfold pqLock
  split
  · exact pq_lock5 H rfl rfl (by assumption) hn ha hb hc
  split
  · exact pq_lock6 H rfl rfl (by assumption) hn ha hb hc
  split
  · exact pq_lock7 H rfl rfl (by assumption) hn ha hb hc
  · exact pq_lockE H rfl rfl (by assumption) (by assumption) (by assumption) hn ha hb hc
set_option maxHeartbeats 1600000 in
theorem pq_leave40 {S0 : List Nat} {w0 w : World} {m a r : Nat} {rs : List Res} {s : Rn} (H : RunHas S0 w0 m a r rs s w) {o l : Int} (hop : s.f.op = o) (hl : s.f.line = l) (ho : o = 4) (h0 : l = 0) (hn : I64 s.n) (ha : 0 ≤ s.f.a ∧ s.f.a < 4294967296) (hb : 0 ≤ s.f.b ∧ s.f.b < 4294967296) (hc : s.notes.length ≤ 800) :
    Calls Tryz.prog 99 #[.pointer (some ⟨r, 0, none⟩)] w fun e w' => e = .returned (.tuple #[]) ∧ RunHas S0 w0 m a r rs (((s.did (doA s.L ⟨1, 3, 0, 0, 0⟩)).setB (doA s.L ⟨1, 3, 0, 0, 0⟩).1.old).goto 1) w' := by
  obtain ⟨z0, z2, z4, z5, z6, z7⟩ := H.facts hop hl rfl rfl
  have HC := Lib.hid hc
  have HA := Lib.hid ha
  have HBB := Lib.hid hb
  have HN := Lib.hid hn
  have HH := Lib.hid H
  clear hc H hn ha hb
  subst ho h0
  go_enter Tryz.func99, Tryz.ntmps99
  go_wp2_with fail
  refine (qpf_presence _ _ HBB.out).mono ?_
  rintro e w1 ⟨rfl, rfl⟩
  go_wp2_with fail
  go_quiet (fail)
  have HW := HH.out.drewN nq
  clear z0 z2 z4 z5 z6 z7
  generalize w.drewN nq = W at HW ⊢
  obtain ⟨z0, z2, z4, z5, z6, z7⟩ := HW.facts hop hl rfl rfl
  go_wp2_with fail
  refine (rn_load HW 3).mono ?_
  rintro e w1 ⟨rfl, H1⟩
  obtain ⟨x0, x2, x4, x5, x6, x7⟩ := H1.facts hop hl rfl rfl
  go_wp2_with fail
  refine (rn_go (H1.setB (doA s.L ⟨1, 3, 0, 0, 0⟩).1.old) 1).mono ?_
  rintro e w2 ⟨rfl, H2⟩
  go_wp2_with fail
  go_end0
  exact ⟨rfl, H2⟩
set_option maxHeartbeats 1600000 in
theorem pq_leave41 {S0 : List Nat} {w0 w : World} {m a r : Nat} {rs : List Res} {s : Rn} (H : RunHas S0 w0 m a r rs s w) {o l : Int} (hop : s.f.op = o) (hl : s.f.line = l) (ho : o = 4) (h0 : l = 1) (hn : I64 s.n) (ha : 0 ≤ s.f.a ∧ s.f.a < 4294967296) (hb : 0 ≤ s.f.b ∧ s.f.b < 4294967296) (hc : s.notes.length ≤ 800) :
    Calls Tryz.prog 99 #[.pointer (some ⟨r, 0, none⟩)] w fun e w' => e = .returned (.tuple #[]) ∧ RunHas S0 w0 m a r rs ((((s.did (doA s.L ⟨3, 0, (-qpfP s.f.b % 4294967296), 0, 0⟩)).note 7 0).wake 0).goto 2) w' := by
  obtain ⟨z0, z2, z4, z5, z6, z7⟩ := H.facts hop hl rfl rfl
  have HC := Lib.hid hc
  have HA := Lib.hid ha
  have HBB := Lib.hid hb
  have HN := Lib.hid hn
  have HH := Lib.hid H
  clear hc H hn ha hb
  subst ho h0
  go_enter Tryz.func99, Tryz.ntmps99
  go_wp2_with fail
  refine (qpf_presence _ _ HBB.out).mono ?_
  rintro e w1 ⟨rfl, rfl⟩
  go_wp2_with fail
  go_quiet (fail)
  have HW := HH.out.drewN nq
  clear z0 z2 z4 z5 z6 z7
  generalize w.drewN nq = W at HW ⊢
  obtain ⟨z0, z2, z4, z5, z6, z7⟩ := HW.facts hop hl rfl rfl
  go_wp2_with fail
  refine (rn_add HW 0 (-qpfP s.f.b % 4294967296) (by omega)).mono ?_
  rintro e w1 ⟨rfl, H1⟩
  go_wp2_with fail
  refine (run_note H1 (by have := HC.out; first | exact Nat.le_trans this (by decide) | (simp [Rn.note, Rn.did, Rn.setA, Rn.setB, Rn.waited, Rn.goto, Rn.noted]; omega)) 7 0).mono ?_
  rintro e w2 ⟨rfl, H2⟩
  go_wp2_with fail
  refine (rn_wake H2 0).mono ?_
  rintro e w3 ⟨rfl, H3⟩
  go_wp2_with fail
  refine (rn_go H3 2).mono ?_
  rintro e w4 ⟨rfl, H4⟩
  go_wp2_with fail
  go_end0
  exact ⟨rfl, H4⟩
set_option maxHeartbeats 1600000 in
theorem pq_leave42 {S0 : List Nat} {w0 w : World} {m a r : Nat} {rs : List Res} {s : Rn} (H : RunHas S0 w0 m a r rs s w) {o l : Int} (hop : s.f.op = o) (hl : s.f.line = l) (ho : o = 4) (h0 : l = 2) (hn : I64 s.n) (ha : 0 ≤ s.f.a ∧ s.f.a < 4294967296) (hb : 0 ≤ s.f.b ∧ s.f.b < 4294967296) (hc : s.notes.length ≤ 800) :
    Calls Tryz.prog 99 #[.pointer (some ⟨r, 0, none⟩)] w fun e w' => e = .returned (.tuple #[]) ∧ RunHas S0 w0 m a r rs ((s.did (doA s.L ⟨2, 3, (s.f.b + 1) % 4294967296, 0, 0⟩)).goto 3) w' := by
  obtain ⟨z0, z2, z4, z5, z6, z7⟩ := H.facts hop hl rfl rfl
  have HC := Lib.hid hc
  have HA := Lib.hid ha
  have HBB := Lib.hid hb
  have HN := Lib.hid hn
  have HH := Lib.hid H
  clear hc H hn ha hb
  subst ho h0
  go_enter Tryz.func99, Tryz.ntmps99
  go_wp2_with fail
  refine (qpf_presence _ _ HBB.out).mono ?_
  rintro e w1 ⟨rfl, rfl⟩
  go_wp2_with fail
  go_quiet (fail)
  have HW := HH.out.drewN nq
  clear z0 z2 z4 z5 z6 z7
  generalize w.drewN nq = W at HW ⊢
  obtain ⟨z0, z2, z4, z5, z6, z7⟩ := HW.facts hop hl rfl rfl
  go_wp2_with fail
  refine (rn_store HW 3 ((s.f.b + 1) % 4294967296) (by omega)).mono ?_
  rintro e w1 ⟨rfl, H1⟩
  go_wp2_with fail
  refine (rn_go H1 3).mono ?_
  rintro e w2 ⟨rfl, H2⟩
  go_wp2_with fail
  go_end0
  exact ⟨rfl, H2⟩
set_option maxHeartbeats 1600000 in
theorem pq_leave80 {S0 : List Nat} {w0 w : World} {m a r : Nat} {rs : List Res} {s : Rn} (H : RunHas S0 w0 m a r rs s w) {o l : Int} (hop : s.f.op = o) (hl : s.f.line = l) (ho : o = 8) (h0 : l = 0) (hn : I64 s.n) (ha : 0 ≤ s.f.a ∧ s.f.a < 4294967296) (hb : 0 ≤ s.f.b ∧ s.f.b < 4294967296) (hc : s.notes.length ≤ 800) :
    Calls Tryz.prog 99 #[.pointer (some ⟨r, 0, none⟩)] w fun e w' => e = .returned (.tuple #[]) ∧ RunHas S0 w0 m a r rs (((s.did (doA s.L ⟨1, 3, 0, 0, 0⟩)).setB (doA s.L ⟨1, 3, 0, 0, 0⟩).1.old).goto 1) w' := by
  obtain ⟨z0, z2, z4, z5, z6, z7⟩ := H.facts hop hl rfl rfl
  have HC := Lib.hid hc
  have HA := Lib.hid ha
  have HBB := Lib.hid hb
  have HN := Lib.hid hn
  have HH := Lib.hid H
  clear hc H hn ha hb
  subst ho h0
  go_enter Tryz.func99, Tryz.ntmps99
  go_wp2_with fail
  refine (qpf_presence _ _ HBB.out).mono ?_
  rintro e w1 ⟨rfl, rfl⟩
  go_wp2_with fail
  go_quiet (fail)
  have HW := HH.out.drewN nq
  clear z0 z2 z4 z5 z6 z7
  generalize w.drewN nq = W at HW ⊢
  obtain ⟨z0, z2, z4, z5, z6, z7⟩ := HW.facts hop hl rfl rfl
  go_wp2_with fail
  refine (rn_load HW 3).mono ?_
  rintro e w1 ⟨rfl, H1⟩
  obtain ⟨x0, x2, x4, x5, x6, x7⟩ := H1.facts hop hl rfl rfl
  go_wp2_with fail
  refine (rn_go (H1.setB (doA s.L ⟨1, 3, 0, 0, 0⟩).1.old) 1).mono ?_
  rintro e w2 ⟨rfl, H2⟩
  go_wp2_with fail
  go_end0
  exact ⟨rfl, H2⟩
set_option maxHeartbeats 1600000 in
theorem pq_leave81 {S0 : List Nat} {w0 w : World} {m a r : Nat} {rs : List Res} {s : Rn} (H : RunHas S0 w0 m a r rs s w) {o l : Int} (hop : s.f.op = o) (hl : s.f.line = l) (ho : o = 8) (h0 : l = 1) (hn : I64 s.n) (ha : 0 ≤ s.f.a ∧ s.f.a < 4294967296) (hb : 0 ≤ s.f.b ∧ s.f.b < 4294967296) (hc : s.notes.length ≤ 800) :
    Calls Tryz.prog 99 #[.pointer (some ⟨r, 0, none⟩)] w fun e w' => e = .returned (.tuple #[]) ∧ RunHas S0 w0 m a r rs ((((s.did (doA s.L ⟨3, 0, ((256 - qpfP s.f.b) % 4294967296), 0, 0⟩)).note 10 0).wake 0).goto 2) w' := by
  obtain ⟨z0, z2, z4, z5, z6, z7⟩ := H.facts hop hl rfl rfl
  have HC := Lib.hid hc
  have HA := Lib.hid ha
  have HBB := Lib.hid hb
  have HN := Lib.hid hn
  have HH := Lib.hid H
  clear hc H hn ha hb
  subst ho h0
  go_enter Tryz.func99, Tryz.ntmps99
  go_wp2_with fail
  refine (qpf_presence _ _ HBB.out).mono ?_
  rintro e w1 ⟨rfl, rfl⟩
  go_wp2_with fail
  go_quiet (fail)
  have HW := HH.out.drewN nq
  clear z0 z2 z4 z5 z6 z7
  generalize w.drewN nq = W at HW ⊢
  obtain ⟨z0, z2, z4, z5, z6, z7⟩ := HW.facts hop hl rfl rfl
  go_wp2_with fail
  refine (rn_add HW 0 ((256 - qpfP s.f.b) % 4294967296) (by omega)).mono ?_
  rintro e w1 ⟨rfl, H1⟩
  go_wp2_with fail
  refine (run_note H1 (by have := HC.out; first | exact Nat.le_trans this (by decide) | (simp [Rn.note, Rn.did, Rn.setA, Rn.setB, Rn.waited, Rn.goto, Rn.noted]; omega)) 10 0).mono ?_
  rintro e w2 ⟨rfl, H2⟩
  go_wp2_with fail
  refine (rn_wake H2 0).mono ?_
  rintro e w3 ⟨rfl, H3⟩
  go_wp2_with fail
  refine (rn_go H3 2).mono ?_
  rintro e w4 ⟨rfl, H4⟩
  go_wp2_with fail
  go_end0
  exact ⟨rfl, H4⟩
set_option maxHeartbeats 1600000 in
theorem pq_leave82 {S0 : List Nat} {w0 w : World} {m a r : Nat} {rs : List Res} {s : Rn} (H : RunHas S0 w0 m a r rs s w) {o l : Int} (hop : s.f.op = o) (hl : s.f.line = l) (ho : o = 8) (h0 : l = 2) (hn : I64 s.n) (ha : 0 ≤ s.f.a ∧ s.f.a < 4294967296) (hb : 0 ≤ s.f.b ∧ s.f.b < 4294967296) (hc : s.notes.length ≤ 800) :
    Calls Tryz.prog 99 #[.pointer (some ⟨r, 0, none⟩)] w fun e w' => e = .returned (.tuple #[]) ∧ RunHas S0 w0 m a r rs ((s.did (doA s.L ⟨2, 3, (s.f.b + 1) % 4294967296, 0, 0⟩)).goto 3) w' := by
  obtain ⟨z0, z2, z4, z5, z6, z7⟩ := H.facts hop hl rfl rfl
  have HC := Lib.hid hc
  have HA := Lib.hid ha
  have HBB := Lib.hid hb
  have HN := Lib.hid hn
  have HH := Lib.hid H
  clear hc H hn ha hb
  subst ho h0
  go_enter Tryz.func99, Tryz.ntmps99
  go_wp2_with fail
  refine (qpf_presence _ _ HBB.out).mono ?_
  rintro e w1 ⟨rfl, rfl⟩
  go_wp2_with fail
  go_quiet (fail)
  have HW := HH.out.drewN nq
  clear z0 z2 z4 z5 z6 z7
  generalize w.drewN nq = W at HW ⊢
  obtain ⟨z0, z2, z4, z5, z6, z7⟩ := HW.facts hop hl rfl rfl
  go_wp2_with fail
  refine (rn_store HW 3 ((s.f.b + 1) % 4294967296) (by omega)).mono ?_
  rintro e w1 ⟨rfl, H1⟩
  go_wp2_with fail
  refine (rn_go H1 3).mono ?_
  rintro e w2 ⟨rfl, H2⟩
  go_wp2_with fail
  go_end0
  exact ⟨rfl, H2⟩
set_option maxHeartbeats 1600000 in
theorem pq_leaveG {S0 : List Nat} {w0 w : World} {m a r : Nat} {rs : List Res} {s : Rn} (H : RunHas S0 w0 m a r rs s w) {o l : Int} (hop : s.f.op = o) (hl : s.f.line = l) (h0 : ¬ (o = 4 ∧ l = 0)) (h1 : ¬ (o = 8 ∧ l = 0)) (h2 : ¬ (o = 4 ∧ l = 1)) (h3 : ¬ (o = 8 ∧ l = 1)) (h4 : ¬ (o = 4 ∧ l = 2)) (h5 : ¬ (o = 8 ∧ l = 2)) (hn : I64 s.n) (ha : 0 ≤ s.f.a ∧ s.f.a < 4294967296) (hb : 0 ≤ s.f.b ∧ s.f.b < 4294967296) (hc : s.notes.length ≤ 800) :
    Calls Tryz.prog 99 #[.pointer (some ⟨r, 0, none⟩)] w fun e w' => e = .returned (.tuple #[]) ∧ RunHas S0 w0 m a r rs (pqGive 3 true s) w' := by
  obtain ⟨z0, z2, z4, z5, z6, z7⟩ := H.facts hop hl rfl rfl
  have HC := Lib.hid hc
  have HA := Lib.hid ha
  have HBB := Lib.hid hb
  have HN := Lib.hid hn
  have HH := Lib.hid H
  clear hc H hn ha hb
  have he := fun (g : Nat) W (HX : RunHas S0 w0 m a r (.blk g (i64s [8]).toArray :: rs) s W) => mx_give (c := 1) 2 3 (nl := [8]) (nn := 1) rfl (by decide) (by have := HC.out; simp; omega) HX HN.out HA.out
  unfold pqGive
  generalize mxGive 2 3 [8] s = R at he ⊢
  obtain ⟨b, s1⟩ := R
  have HE := Lib.hid he
  clear he
  cases b with
  | true =>
    go_enter Tryz.func99, Tryz.ntmps99
    go_wp2_with fail
    refine (qpf_presence _ _ HBB.out).mono ?_
    rintro e w1 ⟨rfl, rfl⟩
    go_wp2_with fail
    go_quiet (fail)
    have HW := HH.out.drewN nq
    clear z0 z2 z4 z5 z6 z7
    generalize w.drewN nq = W at HW ⊢
    obtain ⟨z0, z2, z4, z5, z6, z7⟩ := HW.facts hop hl rfl rfl
    go_wp2_with fail
    all_goals
      refine (HE.out _ _ (HW.box rfl _ _)).mono ?_
      rintro e w7 ⟨rfl, H7⟩
      go_wp2_with fail
      refine (rn_end H7 true).mono ?_
      rintro e w8 ⟨rfl, H8⟩
      go_wp2_with fail
      go_end0
      exact ⟨rfl, H8.unbox⟩
  | false =>
    go_enter Tryz.func99, Tryz.ntmps99
    go_wp2_with fail
    refine (qpf_presence _ _ HBB.out).mono ?_
    rintro e w1 ⟨rfl, rfl⟩
    go_wp2_with fail
    go_quiet (fail)
    have HW := HH.out.drewN nq
    clear z0 z2 z4 z5 z6 z7
    generalize w.drewN nq = W at HW ⊢
    obtain ⟨z0, z2, z4, z5, z6, z7⟩ := HW.facts hop hl rfl rfl
    go_wp2_with fail
    all_goals
      refine (HE.out _ _ (HW.box rfl _ _)).mono ?_
      rintro e w7 ⟨rfl, H7⟩
      go_wp2_with fail
      go_end0
      exact ⟨rfl, H7.unbox⟩
def pqLeave (s : Rn) : Rn :=
  if s.f.op = 4 ∧ s.f.line = 0 then (((s.did (doA s.L ⟨1, 3, 0, 0, 0⟩)).setB (doA s.L ⟨1, 3, 0, 0, 0⟩).1.old).goto 1)
  else if s.f.op = 8 ∧ s.f.line = 0 then (((s.did (doA s.L ⟨1, 3, 0, 0, 0⟩)).setB (doA s.L ⟨1, 3, 0, 0, 0⟩).1.old).goto 1)
  else if s.f.op = 4 ∧ s.f.line = 1 then ((((s.did (doA s.L ⟨3, 0, (-qpfP s.f.b % 4294967296), 0, 0⟩)).note 7 0).wake 0).goto 2)
  else if s.f.op = 8 ∧ s.f.line = 1 then ((((s.did (doA s.L ⟨3, 0, ((256 - qpfP s.f.b) % 4294967296), 0, 0⟩)).note 10 0).wake 0).goto 2)
  else if s.f.op = 4 ∧ s.f.line = 2 then ((s.did (doA s.L ⟨2, 3, (s.f.b + 1) % 4294967296, 0, 0⟩)).goto 3)
  else if s.f.op = 8 ∧ s.f.line = 2 then ((s.did (doA s.L ⟨2, 3, (s.f.b + 1) % 4294967296, 0, 0⟩)).goto 3)
  else pqGive 3 true s
theorem pq_leave {S0 : List Nat} {w0 w : World} {m a r : Nat} {rs : List Res} {s : Rn} (H : RunHas S0 w0 m a r rs s w) (hn : I64 s.n) (ha : 0 ≤ s.f.a ∧ s.f.a < 4294967296) (hb : 0 ≤ s.f.b ∧ s.f.b < 4294967296) (hc : s.notes.length ≤ 800) : Calls Tryz.prog 99 #[.pointer (some ⟨r, 0, none⟩)] w fun e w' => e = .returned (.tuple #[]) ∧ RunHas S0 w0 m a r rs (pqLeave s) w' := by
  unfold pqLeave
  split
  · exact pq_leave40 H rfl rfl (by omega) (by omega) hn ha hb hc
  split
  · exact pq_leave80 H rfl rfl (by omega) (by omega) hn ha hb hc
  split
  · exact pq_leave41 H rfl rfl (by omega) (by omega) hn ha hb hc
  split
  · exact pq_leave81 H rfl rfl (by omega) (by omega) hn ha hb hc
  split
  · exact pq_leave42 H rfl rfl (by omega) (by omega) hn ha hb hc
  split
  · exact pq_leave82 H rfl rfl (by omega) (by omega) hn ha hb hc
  · exact pq_leaveG H rfl rfl (by assumption) (by assumption) (by assumption) (by assumption) (by assumption) (by assumption) hn ha hb hc
def pqTry (s : Rn) : Rn :=
  if (mxTry 2 s).1 then (if (mxTry 2 s).2.1 then ((mxTry 2 s).2.2.note 2 2).goto 2 else ((mxTry 2 s).2.2.note 5 0).fin false) else (mxTry 2 s).2.2
theorem pq_try {S0 : List Nat} {w0 w : World} {m a r : Nat} {rs : List Res} {s : Rn} (H : RunHas S0 w0 m a r rs s w) (hn : I64 s.n) (ha : 0 ≤ s.f.a ∧ s.f.a < 4294967296) (hb : 0 ≤ s.f.b ∧ s.f.b < 4294967296) (hc : s.notes.length ≤ 800) :
    Calls Tryz.prog 100 #[.pointer (some ⟨r, 0, none⟩)] w fun e w' => e = .returned (.tuple #[]) ∧ RunHas S0 w0 m a r rs (pqTry s) w' := by
  have he := mx_try H 2 hn
  have hnt := qmxTry_notes 2 s
  unfold pqTry
  generalize mxTry 2 s = R at he hnt ⊢
  obtain ⟨d, i, s1⟩ := R
  have hc1 : s1.notes.length ≤ 800 := by rw [show s1.notes = s.notes from hnt]; exact hc
  have HC := Lib.hid hc1
  have HE := Lib.hid he
  clear he H hn ha hb hc hnt hc1
  cases d with
  | true =>
    cases i with
    | true =>
      go_enter Tryz.func100, Tryz.ntmps100
      go_wp2_with fail
      refine HE.out.mono ?_
      rintro e w1 ⟨rfl, H1⟩
      go_wp2_with fail
      refine (run_note H1 (by have := HC.out; first | exact Nat.le_trans this (by decide) | (simp [Rn.note, Rn.did, Rn.setA, Rn.setB, Rn.waited, Rn.goto, Rn.noted]; omega)) 2 2).mono ?_
      rintro e w2 ⟨rfl, H2⟩
      go_wp2_with fail
      refine (rn_go H2 2).mono ?_
      rintro e w3 ⟨rfl, H3⟩
      go_wp2_with fail
      go_end0
      exact ⟨rfl, H3⟩
    | false =>
      go_enter Tryz.func100, Tryz.ntmps100
      go_wp2_with fail
      refine HE.out.mono ?_
      rintro e w1 ⟨rfl, H1⟩
      go_wp2_with fail
      refine (run_note H1 (by have := HC.out; first | exact Nat.le_trans this (by decide) | (simp [Rn.note, Rn.did, Rn.setA, Rn.setB, Rn.waited, Rn.goto, Rn.noted]; omega)) 5 0).mono ?_
      rintro e w2 ⟨rfl, H2⟩
      go_wp2_with fail
      refine (rn_end H2 false).mono ?_
      rintro e w3 ⟨rfl, H3⟩
      go_wp2_with fail
      go_end0
      exact ⟨rfl, H3⟩
  | false =>
    go_enter Tryz.func100, Tryz.ntmps100
    go_wp2_with fail
    refine HE.out.mono ?_
    rintro e w1 ⟨rfl, H1⟩
    go_wp2_with fail
    go_end0
    exact ⟨rfl, H1⟩
end Go.Proofs.YthnimpkoidablaaGreat.Z

set_option linter.unusedVariables false
set_option linter.unusedSimpArgs false
namespace Go.Proofs.YthnimpkoidablaaGreat.Z
open Go.RowKit
attribute [local go_sem ↓] Go.wp_at_zero Go.wp_at_succ
set_option maxHeartbeats 1600000 in
theorem pq_decide2 {S0 : List Nat} {w0 w : World} {m a r : Nat} {rs : List Res} {s : Rn} (H : RunHas S0 w0 m a r rs s w) {o l : Int} (hop : s.f.op = o) (hl : s.f.line = l) (h0 : l = 2) (hn : I64 s.n) (ha : 0 ≤ s.f.a ∧ s.f.a < 4294967296) (hb : 0 ≤ s.f.b ∧ s.f.b < 4294967296) (hc : s.notes.length ≤ 800) :
    Calls Tryz.prog 101 #[.pointer (some ⟨r, 0, none⟩)] w fun e w' => e = .returned (.tuple #[]) ∧ RunHas S0 w0 m a r rs (((s.did (doA s.L ⟨1, 0, 0, 0, 0⟩)).setA (doA s.L ⟨1, 0, 0, 0, 0⟩).1.old).goto 3) w' := by
  obtain ⟨z0, z2, z4, z5, z6, z7⟩ := H.facts hop hl rfl rfl
  have HC := Lib.hid hc
  have HA := Lib.hid ha
  have HBB := Lib.hid hb
  have HN := Lib.hid hn
  have HH := Lib.hid H
  clear hc H hn ha hb
  subst h0
  go_enter Tryz.func101, Tryz.ntmps101
  go_wp2_with fail
  refine (rn_load HH.out 0).mono ?_
  rintro e w1 ⟨rfl, H1⟩
  obtain ⟨x0, x2, x4, x5, x6, x7⟩ := H1.facts hop hl rfl rfl
  go_wp2_with fail
  refine (rn_go (H1.setA (doA s.L ⟨1, 0, 0, 0, 0⟩).1.old) 3).mono ?_
  rintro e w2 ⟨rfl, H2⟩
  go_wp2_with fail
  go_end0
  exact ⟨rfl, H2⟩
set_option maxHeartbeats 1600000 in
theorem pq_decide4 {S0 : List Nat} {w0 w : World} {m a r : Nat} {rs : List Res} {s : Rn} (H : RunHas S0 w0 m a r rs s w) {o l : Int} (hop : s.f.op = o) (hl : s.f.line = l) (h0 : l = 4) (hn : I64 s.n) (ha : 0 ≤ s.f.a ∧ s.f.a < 4294967296) (hb : 0 ≤ s.f.b ∧ s.f.b < 4294967296) (hc : s.notes.length ≤ 800) :
    Calls Tryz.prog 101 #[.pointer (some ⟨r, 0, none⟩)] w fun e w' => e = .returned (.tuple #[]) ∧ RunHas S0 w0 m a r rs (((s.did (doA s.L ⟨1, 3, 0, 0, 0⟩)).setB (doA s.L ⟨1, 3, 0, 0, 0⟩).1.old).goto 5) w' := by
  obtain ⟨z0, z2, z4, z5, z6, z7⟩ := H.facts hop hl rfl rfl
  have HC := Lib.hid hc
  have HA := Lib.hid ha
  have HBB := Lib.hid hb
  have HN := Lib.hid hn
  have HH := Lib.hid H
  clear hc H hn ha hb
  subst h0
  go_enter Tryz.func101, Tryz.ntmps101
  go_wp2_with fail
  refine (rn_load HH.out 3).mono ?_
  rintro e w1 ⟨rfl, H1⟩
  obtain ⟨x0, x2, x4, x5, x6, x7⟩ := H1.facts hop hl rfl rfl
  go_wp2_with fail
  refine (rn_go (H1.setB (doA s.L ⟨1, 3, 0, 0, 0⟩).1.old) 5).mono ?_
  rintro e w2 ⟨rfl, H2⟩
  go_wp2_with fail
  go_end0
  exact ⟨rfl, H2⟩
set_option maxHeartbeats 1600000 in
theorem pq_decide5 {S0 : List Nat} {w0 w : World} {m a r : Nat} {rs : List Res} {s : Rn} (H : RunHas S0 w0 m a r rs s w) {o l : Int} (hop : s.f.op = o) (hl : s.f.line = l) (h0 : l = 5) (hn : I64 s.n) (ha : 0 ≤ s.f.a ∧ s.f.a < 4294967296) (hb : 0 ≤ s.f.b ∧ s.f.b < 4294967296) (hc : s.notes.length ≤ 800) :
    Calls Tryz.prog 101 #[.pointer (some ⟨r, 0, none⟩)] w fun e w' => e = .returned (.tuple #[]) ∧ RunHas S0 w0 m a r rs ((((s.did (doA s.L ⟨3, 0, qpfP s.f.b, 0, 0⟩)).setA (doA s.L ⟨3, 0, qpfP s.f.b, 0, 0⟩).1.old).note 3 0).goto 6) w' := by
  obtain ⟨z0, z2, z4, z5, z6, z7⟩ := H.facts hop hl rfl rfl
  have HC := Lib.hid hc
  have HA := Lib.hid ha
  have HBB := Lib.hid hb
  have HN := Lib.hid hn
  have HH := Lib.hid H
  clear hc H hn ha hb
  subst h0
  go_enter Tryz.func101, Tryz.ntmps101
  go_wp2_with fail
  refine (qpf_presence _ _ HBB.out).mono ?_
  rintro e w9 ⟨rfl, rfl⟩
  go_wp2_with fail
  refine (rn_add HH.out 0 (qpfP s.f.b) (by have : 0 ≤ qpfP s.f.b ∧ qpfP s.f.b < 4294967296 := (by unfold qpfP; omega); omega)).mono ?_
  rintro e w1 ⟨rfl, H1⟩
  obtain ⟨x0, x2, x4, x5, x6, x7⟩ := H1.facts hop hl rfl rfl
  go_wp2_with fail
  refine (run_note (H1.setA (doA s.L ⟨3, 0, qpfP s.f.b, 0, 0⟩).1.old) (by have := HC.out; first | exact Nat.le_trans this (by decide) | (simp [Rn.note, Rn.did, Rn.setA, Rn.setB, Rn.waited, Rn.goto, Rn.noted]; omega)) 3 0).mono ?_
  rintro e w2 ⟨rfl, H2⟩
  go_wp2_with fail
  refine (rn_go H2 6).mono ?_
  rintro e w3 ⟨rfl, H3⟩
  go_wp2_with fail
  go_end0
  exact ⟨rfl, H3⟩
def pqIn6 (s : Rn) : Rn :=
  let s1 := (s.did (doA s.L ⟨1, 1, 0, 0, 0⟩)).setB (doA s.L ⟨1, 1, 0, 0, 0⟩).1.old
  if 0 < aheadA s.f.a (doA s.L ⟨1, 1, 0, 0, 0⟩).1.old then (s1.note 5 0).goto 8 else s1.goto 4
set_option maxHeartbeats 1600000 in
theorem pq_inside6 {S0 : List Nat} {w0 w : World} {m a r : Nat} {rs : List Res} {s : Rn} (H : RunHas S0 w0 m a r rs s w) {l : Int} (hop : s.f.op = 6) (hl : s.f.line = l) (ha : 0 ≤ s.f.a ∧ s.f.a < 4294967296) (hc : s.notes.length ≤ 800) :
    Calls Tryz.prog 145 #[.pointer (some ⟨r, 0, none⟩)] w fun e w' => e = .returned (.tuple #[]) ∧ RunHas S0 w0 m a r rs (pqIn6 s) w' := by
  have hv := H.old ⟨1, 1, 0, 0, 0⟩
  have hah := fun W => ahead_any s.f.a (doA s.L ⟨1, 1, 0, 0, 0⟩).1.old W ha hv
  have HC := Lib.hid hc
  have HAH := Lib.hid hah
  have HH := Lib.hid H
  clear hv hah hc H ha
  unfold pqIn6
  dsimp only
  generalize aheadA s.f.a (doA s.L ⟨1, 1, 0, 0, 0⟩).1.old = n at HAH ⊢
  have hw0 : IntKind.i64.wrap 0 = 0 := by decide
  by_cases c1 : 0 < n
  · rw [if_pos c1]
    have d1 : decide (0 < n) = true := by simpa using c1
    have HD1 := Lib.hid c1
    clear c1
    go_enter Tryz.func145, Tryz.ntmps145
    go_wp2_with fail
    refine (rn_load HH.out 1).mono ?_
    rintro e w1 ⟨rfl, H1⟩
    obtain ⟨x0, x2, x4, x5, x6, x7⟩ := H1.facts hop hl rfl rfl
    go_wp2_with fail
    have H2 := (H1.setB (doA s.L ⟨1, 1, 0, 0, 0⟩).1.old).drew
    have hd6 : ((w1.setCell ⟨r, 7, none⟩ (.int .u32 (doA s.L ⟨1, 1, 0, 0, 0⟩).1.old)).drew).cell? ⟨r, 6, none⟩ = some (.int .u32 s.f.a) := (H2.facts hop hl rfl rfl).2.2.2.2.1
    have hd7 : ((w1.setCell ⟨r, 7, none⟩ (.int .u32 (doA s.L ⟨1, 1, 0, 0, 0⟩).1.old)).drew).cell? ⟨r, 7, none⟩ = some (.int .u32 (doA s.L ⟨1, 1, 0, 0, 0⟩).1.old) := (H2.facts hop hl rfl rfl).2.2.2.2.2
    go_region_held3 (fun w' => w'.cell? ⟨r, 6, none⟩ = some (.int .u32 s.f.a) ∧ w'.cell? ⟨r, 7, none⟩ = some (.int .u32 (doA s.L ⟨1, 1, 0, 0, 0⟩).1.old) ∧ RunHas S0 w0 m a r rs ((s.did (doA s.L ⟨1, 1, 0, 0, 0⟩)).setB (doA s.L ⟨1, 1, 0, 0, 0⟩).1.old) w')
      (first | (go_split_ands; refine ⟨?_, ?_, ?_⟩ <;> assumption))
      (first | (go_at_call 168; (with_reducible refine (HAH.out _).mono ?_); rintro e w4 ⟨rfl, rfl⟩) | (go_at_call 179; refine (qpf_own_no H2 hop hl).mono ?_; rintro e w5 ⟨rfl, rfl⟩))
    all_goals
      go_wp2_with fail
      refine (run_note H2 (by have := HC.out; first | exact Nat.le_trans this (by decide) | (simp [Rn.note, Rn.did, Rn.setA, Rn.setB, Rn.waited, Rn.goto, Rn.noted]; omega)) 5 0).mono ?_
      rintro e w3 ⟨rfl, H3⟩
      go_wp2_with fail
      refine (rn_go H3 8).mono ?_
      rintro e w4 ⟨rfl, H4⟩
      go_wp2_with fail
      (try simp only [Exit.inBlock, Exit.then]); refine bodyPost_ret (results_none rfl _ _ _) rfl ?_
      exact ⟨rfl, H4⟩
  · rw [if_neg c1]
    have d1 : decide (0 < n) = false := by simpa using c1
    clear c1
    go_enter Tryz.func145, Tryz.ntmps145
    go_wp2_with fail
    refine (rn_load HH.out 1).mono ?_
    rintro e w1 ⟨rfl, H1⟩
    obtain ⟨x0, x2, x4, x5, x6, x7⟩ := H1.facts hop hl rfl rfl
    go_wp2_with fail
    have H2 := (H1.setB (doA s.L ⟨1, 1, 0, 0, 0⟩).1.old).drew
    have hd6 : ((w1.setCell ⟨r, 7, none⟩ (.int .u32 (doA s.L ⟨1, 1, 0, 0, 0⟩).1.old)).drew).cell? ⟨r, 6, none⟩ = some (.int .u32 s.f.a) := (H2.facts hop hl rfl rfl).2.2.2.2.1
    have hd7 : ((w1.setCell ⟨r, 7, none⟩ (.int .u32 (doA s.L ⟨1, 1, 0, 0, 0⟩).1.old)).drew).cell? ⟨r, 7, none⟩ = some (.int .u32 (doA s.L ⟨1, 1, 0, 0, 0⟩).1.old) := (H2.facts hop hl rfl rfl).2.2.2.2.2
    go_region_held3 (fun w' => w'.cell? ⟨r, 6, none⟩ = some (.int .u32 s.f.a) ∧ w'.cell? ⟨r, 7, none⟩ = some (.int .u32 (doA s.L ⟨1, 1, 0, 0, 0⟩).1.old) ∧ RunHas S0 w0 m a r rs ((s.did (doA s.L ⟨1, 1, 0, 0, 0⟩)).setB (doA s.L ⟨1, 1, 0, 0, 0⟩).1.old) w')
      (first | (go_split_ands; refine ⟨?_, ?_, ?_⟩ <;> assumption))
      (first | (go_at_call 168; (with_reducible refine (HAH.out _).mono ?_); rintro e w4 ⟨rfl, rfl⟩) | (go_at_call 179; refine (qpf_own_no H2 hop hl).mono ?_; rintro e w5 ⟨rfl, rfl⟩))
    all_goals
      go_wp2_with fail
      refine (rn_go H2 4).mono ?_
      rintro e w3 ⟨rfl, H3⟩
      go_wp2_with fail
      go_end0
      exact ⟨rfl, H3⟩
set_option maxHeartbeats 1600000 in
theorem pq_decide36 {S0 : List Nat} {w0 w : World} {m a r : Nat} {rs : List Res} {s : Rn} (H : RunHas S0 w0 m a r rs s w) {o l : Int} (hop : s.f.op = o) (hl : s.f.line = l) (ho : o = 6) (h0 : l = 3) (hn : I64 s.n) (ha : 0 ≤ s.f.a ∧ s.f.a < 4294967296) (hb : 0 ≤ s.f.b ∧ s.f.b < 4294967296) (hc : s.notes.length ≤ 800) :
    Calls Tryz.prog 101 #[.pointer (some ⟨r, 0, none⟩)] w fun e w' => e = .returned (.tuple #[]) ∧ RunHas S0 w0 m a r rs (pqIn6 s) w' := by
  obtain ⟨z0, z2, z4, z5, z6, z7⟩ := H.facts hop hl rfl rfl
  have HC := Lib.hid hc
  have HA := Lib.hid ha
  have HBB := Lib.hid hb
  have HN := Lib.hid hn
  have HH := Lib.hid H
  clear hc H hn ha hb
  subst ho h0
  go_enter Tryz.func101, Tryz.ntmps101
  go_wp2_with fail
  refine (pq_inside6 HH.out hop hl HA.out HC.out).mono ?_
  rintro e w1 ⟨rfl, H1⟩
  go_wp2_with fail
  go_end0
  exact ⟨rfl, H1⟩
def pqIn7 (s : Rn) : Rn :=
  let s1 := (s.did (doA s.L ⟨1, 1, 0, 0, 0⟩)).setB (doA s.L ⟨1, 1, 0, 0, 0⟩).1.old
  if 256 < aheadA s.f.a (doA s.L ⟨1, 1, 0, 0, 0⟩).1.old then (s1.note 5 0).goto 8 else s1.goto 4
set_option maxHeartbeats 1600000 in
theorem pq_inside7 {S0 : List Nat} {w0 w : World} {m a r : Nat} {rs : List Res} {s : Rn} (H : RunHas S0 w0 m a r rs s w) {l : Int} (hop : s.f.op = 7) (hl : s.f.line = l) (ha : 0 ≤ s.f.a ∧ s.f.a < 4294967296) (hc : s.notes.length ≤ 800) :
    Calls Tryz.prog 145 #[.pointer (some ⟨r, 0, none⟩)] w fun e w' => e = .returned (.tuple #[]) ∧ RunHas S0 w0 m a r rs (pqIn7 s) w' := by
  have hv := H.old ⟨1, 1, 0, 0, 0⟩
  have hah := fun W => ahead_any s.f.a (doA s.L ⟨1, 1, 0, 0, 0⟩).1.old W ha hv
  have HC := Lib.hid hc
  have HAH := Lib.hid hah
  have HH := Lib.hid H
  clear hv hah hc H ha
  unfold pqIn7
  dsimp only
  generalize aheadA s.f.a (doA s.L ⟨1, 1, 0, 0, 0⟩).1.old = n at HAH ⊢
  have hw0 : IntKind.i64.wrap 256 = 256 := by decide
  by_cases c1 : 256 < n
  · rw [if_pos c1]
    have d1 : decide (256 < n) = true := by simpa using c1
    have HD1 := Lib.hid c1
    clear c1
    go_enter Tryz.func145, Tryz.ntmps145
    go_wp2_with fail
    refine (rn_load HH.out 1).mono ?_
    rintro e w1 ⟨rfl, H1⟩
    obtain ⟨x0, x2, x4, x5, x6, x7⟩ := H1.facts hop hl rfl rfl
    go_wp2_with fail
    have H2 := (H1.setB (doA s.L ⟨1, 1, 0, 0, 0⟩).1.old).drew
    have hd6 : ((w1.setCell ⟨r, 7, none⟩ (.int .u32 (doA s.L ⟨1, 1, 0, 0, 0⟩).1.old)).drew).cell? ⟨r, 6, none⟩ = some (.int .u32 s.f.a) := (H2.facts hop hl rfl rfl).2.2.2.2.1
    have hd7 : ((w1.setCell ⟨r, 7, none⟩ (.int .u32 (doA s.L ⟨1, 1, 0, 0, 0⟩).1.old)).drew).cell? ⟨r, 7, none⟩ = some (.int .u32 (doA s.L ⟨1, 1, 0, 0, 0⟩).1.old) := (H2.facts hop hl rfl rfl).2.2.2.2.2
    go_region_held3 (fun w' => w'.cell? ⟨r, 6, none⟩ = some (.int .u32 s.f.a) ∧ w'.cell? ⟨r, 7, none⟩ = some (.int .u32 (doA s.L ⟨1, 1, 0, 0, 0⟩).1.old) ∧ RunHas S0 w0 m a r rs ((s.did (doA s.L ⟨1, 1, 0, 0, 0⟩)).setB (doA s.L ⟨1, 1, 0, 0, 0⟩).1.old) w')
      (first | (go_split_ands; refine ⟨?_, ?_, ?_⟩ <;> assumption))
      (first | (go_at_call 168; (with_reducible refine (HAH.out _).mono ?_); rintro e w4 ⟨rfl, rfl⟩) | (go_at_call 179; refine (qpf_own_up H2 hop hl).mono ?_; rintro e w5 ⟨rfl, rfl⟩))
    all_goals
      go_wp2_with fail
      refine (run_note H2 (by have := HC.out; first | exact Nat.le_trans this (by decide) | (simp [Rn.note, Rn.did, Rn.setA, Rn.setB, Rn.waited, Rn.goto, Rn.noted]; omega)) 5 0).mono ?_
      rintro e w3 ⟨rfl, H3⟩
      go_wp2_with fail
      refine (rn_go H3 8).mono ?_
      rintro e w4 ⟨rfl, H4⟩
      go_wp2_with fail
      (try simp only [Exit.inBlock, Exit.then]); refine bodyPost_ret (results_none rfl _ _ _) rfl ?_
      exact ⟨rfl, H4⟩
  · rw [if_neg c1]
    have d1 : decide (256 < n) = false := by simpa using c1
    clear c1
    go_enter Tryz.func145, Tryz.ntmps145
    go_wp2_with fail
    refine (rn_load HH.out 1).mono ?_
    rintro e w1 ⟨rfl, H1⟩
    obtain ⟨x0, x2, x4, x5, x6, x7⟩ := H1.facts hop hl rfl rfl
    go_wp2_with fail
    have H2 := (H1.setB (doA s.L ⟨1, 1, 0, 0, 0⟩).1.old).drew
    have hd6 : ((w1.setCell ⟨r, 7, none⟩ (.int .u32 (doA s.L ⟨1, 1, 0, 0, 0⟩).1.old)).drew).cell? ⟨r, 6, none⟩ = some (.int .u32 s.f.a) := (H2.facts hop hl rfl rfl).2.2.2.2.1
    have hd7 : ((w1.setCell ⟨r, 7, none⟩ (.int .u32 (doA s.L ⟨1, 1, 0, 0, 0⟩).1.old)).drew).cell? ⟨r, 7, none⟩ = some (.int .u32 (doA s.L ⟨1, 1, 0, 0, 0⟩).1.old) := (H2.facts hop hl rfl rfl).2.2.2.2.2
    go_region_held3 (fun w' => w'.cell? ⟨r, 6, none⟩ = some (.int .u32 s.f.a) ∧ w'.cell? ⟨r, 7, none⟩ = some (.int .u32 (doA s.L ⟨1, 1, 0, 0, 0⟩).1.old) ∧ RunHas S0 w0 m a r rs ((s.did (doA s.L ⟨1, 1, 0, 0, 0⟩)).setB (doA s.L ⟨1, 1, 0, 0, 0⟩).1.old) w')
      (first | (go_split_ands; refine ⟨?_, ?_, ?_⟩ <;> assumption))
      (first | (go_at_call 168; (with_reducible refine (HAH.out _).mono ?_); rintro e w4 ⟨rfl, rfl⟩) | (go_at_call 179; refine (qpf_own_up H2 hop hl).mono ?_; rintro e w5 ⟨rfl, rfl⟩))
    all_goals
      go_wp2_with fail
      refine (rn_go H2 4).mono ?_
      rintro e w3 ⟨rfl, H3⟩
      go_wp2_with fail
      go_end0
      exact ⟨rfl, H3⟩
set_option maxHeartbeats 1600000 in
theorem pq_decide37 {S0 : List Nat} {w0 w : World} {m a r : Nat} {rs : List Res} {s : Rn} (H : RunHas S0 w0 m a r rs s w) {o l : Int} (hop : s.f.op = o) (hl : s.f.line = l) (ho : o = 7) (h0 : l = 3) (hn : I64 s.n) (ha : 0 ≤ s.f.a ∧ s.f.a < 4294967296) (hb : 0 ≤ s.f.b ∧ s.f.b < 4294967296) (hc : s.notes.length ≤ 800) :
    Calls Tryz.prog 101 #[.pointer (some ⟨r, 0, none⟩)] w fun e w' => e = .returned (.tuple #[]) ∧ RunHas S0 w0 m a r rs (pqIn7 s) w' := by
  obtain ⟨z0, z2, z4, z5, z6, z7⟩ := H.facts hop hl rfl rfl
  have HC := Lib.hid hc
  have HA := Lib.hid ha
  have HBB := Lib.hid hb
  have HN := Lib.hid hn
  have HH := Lib.hid H
  clear hc H hn ha hb
  subst ho h0
  go_enter Tryz.func101, Tryz.ntmps101
  go_wp2_with fail
  refine (pq_inside7 HH.out hop hl HA.out HC.out).mono ?_
  rintro e w1 ⟨rfl, H1⟩
  go_wp2_with fail
  go_end0
  exact ⟨rfl, H1⟩
def pqLast6 (s : Rn) : Rn :=
  let s1 := s.waited (waitA s.L s.n s.mode s.task s.f.st 1 (fun v => v == s.f.a))
  let s2 := if (waitA s.L s.n s.mode s.task s.f.st 1 (fun v => v == s.f.a)).seen then s1.note 4 0 else s1
  if (waitA s.L s.n s.mode s.task s.f.st 1 (fun v => v == s.f.a)).done then s2.fin true else s2
set_option maxHeartbeats 1600000 in
theorem pq_last6 {S0 : List Nat} {w0 w : World} {m a r : Nat} {rs : List Res} {s : Rn} (H : RunHas S0 w0 m a r rs s w) {l : Int} (hop : s.f.op = 6) (hl : s.f.line = l) (hn : I64 s.n) (ha : 0 ≤ s.f.a ∧ s.f.a < 4294967296) (hc : s.notes.length ≤ 800) :
    Calls Tryz.prog 146 #[.pointer (some ⟨r, 0, none⟩)] w fun e w' => e = .returned (.tuple #[]) ∧ RunHas S0 w0 m a r rs (pqLast6 s) w' := by
  obtain ⟨z0, z2, z4, z5, z6, z7⟩ := H.facts hop hl rfl rfl
  have HC := Lib.hid hc
  have HN := Lib.hid hn
  have HH := Lib.hid H
  clear hc H hn
  unfold pqLast6
  dsimp only
  have hwt := fun (t2 : Nat) W (H : RunHas S0 w0 m a r (.blk t2 #[.int .u32 s.f.a] :: rs) s W) => rn_wait H HN.out 1 180 #[] #[.pointer (some ⟨t2, 0, none⟩)] (fun v => v == s.f.a) (enters_of Tryz.func180 (by kernel_rfl) rfl) (fun W v h0 h1 H => qpf_mine2 s.f.a v W H.first)
  cases hs : (waitA s.L s.n s.mode s.task s.f.st 1 (fun v => v == s.f.a)).seen <;> cases hd : (waitA s.L s.n s.mode s.task s.f.st 1 (fun v => v == s.f.a)).done <;> rw [hs, hd] at hwt <;> simp only [if_true, Bool.false_eq_true, if_false] <;> (have HWT := Lib.hid hwt) <;> clear hwt hs hd
  · go_enter Tryz.func146, Tryz.ntmps146
    go_wp2_with fail
    refine region_flat_call 5 rfl (by kernel_rfl) (by kernel_rfl) ?_
    simp only [List.take_succ_cons, List.take_zero, List.drop_succ_cons, List.drop_zero, probed, probes, List.nil_append, List.cons_append, probe]
    go_wp2_with fail
    rw [only_normal]
    refine half_static (.int .u32 0) rfl rfl (enters_of Tryz.func179 (by kernel_rfl) rfl) (by simp [Act.eval]) (fun W t => qpf_own_no (HH.out.drew.grow t) hop hl) ?_
    simp only [probed, probes, List.nil_append, List.cons_append, probe]
    go_wp2_with fail
    rw [only_normal]
    rename_i hK
    refine hK _ _ ?_
    clear hK
    refine wp_from (Facts := fun V => RunHas S0 w0 m a r (.blk w.heap.size #[.int .u32 s.f.a] :: rs) s V) ?_ (by first | exact HH.out.drew.box rfl _ _ | exact (HH.out.box rfl _ _).drew)
    clear z0 z2 z4 z5 z6 z7
    intro W HW2
    generalize w.heap.size = tb at HW2 ⊢
    obtain ⟨z0, z2, z4, z5, z6, z7⟩ := HW2.facts hop hl rfl rfl
    go_wp2_with fail
    refine (HWT.out _ _ HW2).mono ?_
    rintro e w1 ⟨rfl, H1⟩
    go_wp2_with fail
    go_end0
    exact ⟨rfl, H1.unbox⟩
  · go_enter Tryz.func146, Tryz.ntmps146
    go_wp2_with fail
    refine region_flat_call 5 rfl (by kernel_rfl) (by kernel_rfl) ?_
    simp only [List.take_succ_cons, List.take_zero, List.drop_succ_cons, List.drop_zero, probed, probes, List.nil_append, List.cons_append, probe]
    go_wp2_with fail
    rw [only_normal]
    refine half_static (.int .u32 0) rfl rfl (enters_of Tryz.func179 (by kernel_rfl) rfl) (by simp [Act.eval]) (fun W t => qpf_own_no (HH.out.drew.grow t) hop hl) ?_
    simp only [probed, probes, List.nil_append, List.cons_append, probe]
    go_wp2_with fail
    rw [only_normal]
    rename_i hK
    refine hK _ _ ?_
    clear hK
    refine wp_from (Facts := fun V => RunHas S0 w0 m a r (.blk w.heap.size #[.int .u32 s.f.a] :: rs) s V) ?_ (by first | exact HH.out.drew.box rfl _ _ | exact (HH.out.box rfl _ _).drew)
    clear z0 z2 z4 z5 z6 z7
    intro W HW2
    generalize w.heap.size = tb at HW2 ⊢
    obtain ⟨z0, z2, z4, z5, z6, z7⟩ := HW2.facts hop hl rfl rfl
    go_wp2_with fail
    refine (HWT.out _ _ HW2).mono ?_
    rintro e w1 ⟨rfl, H1⟩
    go_wp2_with fail
    refine (rn_end H1 true).mono ?_
    rintro e w2 ⟨rfl, H2⟩
    go_wp2_with fail
    go_end0
    exact ⟨rfl, H2.unbox⟩
  · go_enter Tryz.func146, Tryz.ntmps146
    go_wp2_with fail
    refine region_flat_call 5 rfl (by kernel_rfl) (by kernel_rfl) ?_
    simp only [List.take_succ_cons, List.take_zero, List.drop_succ_cons, List.drop_zero, probed, probes, List.nil_append, List.cons_append, probe]
    go_wp2_with fail
    rw [only_normal]
    refine half_static (.int .u32 0) rfl rfl (enters_of Tryz.func179 (by kernel_rfl) rfl) (by simp [Act.eval]) (fun W t => qpf_own_no (HH.out.drew.grow t) hop hl) ?_
    simp only [probed, probes, List.nil_append, List.cons_append, probe]
    go_wp2_with fail
    rw [only_normal]
    rename_i hK
    refine hK _ _ ?_
    clear hK
    refine wp_from (Facts := fun V => RunHas S0 w0 m a r (.blk w.heap.size #[.int .u32 s.f.a] :: rs) s V) ?_ (by first | exact HH.out.drew.box rfl _ _ | exact (HH.out.box rfl _ _).drew)
    clear z0 z2 z4 z5 z6 z7
    intro W HW2
    generalize w.heap.size = tb at HW2 ⊢
    obtain ⟨z0, z2, z4, z5, z6, z7⟩ := HW2.facts hop hl rfl rfl
    go_wp2_with fail
    refine (HWT.out _ _ HW2).mono ?_
    rintro e w1 ⟨rfl, H1⟩
    go_wp2_with fail
    refine (run_note H1 (by have := HC.out; first | exact Nat.le_trans this (by decide) | (simp [Rn.note, Rn.did, Rn.setA, Rn.setB, Rn.waited, Rn.goto, Rn.noted]; omega)) 4 0).mono ?_
    rintro e w2 ⟨rfl, H2⟩
    go_wp2_with fail
    go_end0
    exact ⟨rfl, H2.unbox⟩
  · go_enter Tryz.func146, Tryz.ntmps146
    go_wp2_with fail
    refine region_flat_call 5 rfl (by kernel_rfl) (by kernel_rfl) ?_
    simp only [List.take_succ_cons, List.take_zero, List.drop_succ_cons, List.drop_zero, probed, probes, List.nil_append, List.cons_append, probe]
    go_wp2_with fail
    rw [only_normal]
    refine half_static (.int .u32 0) rfl rfl (enters_of Tryz.func179 (by kernel_rfl) rfl) (by simp [Act.eval]) (fun W t => qpf_own_no (HH.out.drew.grow t) hop hl) ?_
    simp only [probed, probes, List.nil_append, List.cons_append, probe]
    go_wp2_with fail
    rw [only_normal]
    rename_i hK
    refine hK _ _ ?_
    clear hK
    refine wp_from (Facts := fun V => RunHas S0 w0 m a r (.blk w.heap.size #[.int .u32 s.f.a] :: rs) s V) ?_ (by first | exact HH.out.drew.box rfl _ _ | exact (HH.out.box rfl _ _).drew)
    clear z0 z2 z4 z5 z6 z7
    intro W HW2
    generalize w.heap.size = tb at HW2 ⊢
    obtain ⟨z0, z2, z4, z5, z6, z7⟩ := HW2.facts hop hl rfl rfl
    go_wp2_with fail
    refine (HWT.out _ _ HW2).mono ?_
    rintro e w1 ⟨rfl, H1⟩
    go_wp2_with fail
    refine (run_note H1 (by have := HC.out; first | exact Nat.le_trans this (by decide) | (simp [Rn.note, Rn.did, Rn.setA, Rn.setB, Rn.waited, Rn.goto, Rn.noted]; omega)) 4 0).mono ?_
    rintro e w2 ⟨rfl, H2⟩
    go_wp2_with fail
    refine (rn_end H2 true).mono ?_
    rintro e w3 ⟨rfl, H3⟩
    go_wp2_with fail
    go_end0
    exact ⟨rfl, H3.unbox⟩
set_option maxHeartbeats 1600000 in
theorem pq_decide66 {S0 : List Nat} {w0 w : World} {m a r : Nat} {rs : List Res} {s : Rn} (H : RunHas S0 w0 m a r rs s w) {o l : Int} (hop : s.f.op = o) (hl : s.f.line = l) (ho : o = 6) (h0 : l = 6) (hn : I64 s.n) (ha : 0 ≤ s.f.a ∧ s.f.a < 4294967296) (hb : 0 ≤ s.f.b ∧ s.f.b < 4294967296) (hc : s.notes.length ≤ 800) :
    Calls Tryz.prog 101 #[.pointer (some ⟨r, 0, none⟩)] w fun e w' => e = .returned (.tuple #[]) ∧ RunHas S0 w0 m a r rs (pqLast6 s) w' := by
  obtain ⟨z0, z2, z4, z5, z6, z7⟩ := H.facts hop hl rfl rfl
  have HC := Lib.hid hc
  have HA := Lib.hid ha
  have HBB := Lib.hid hb
  have HN := Lib.hid hn
  have HH := Lib.hid H
  clear hc H hn ha hb
  subst ho h0
  go_enter Tryz.func101, Tryz.ntmps101
  go_wp2_with fail
  refine (pq_last6 HH.out hop hl HN.out HA.out HC.out).mono ?_
  rintro e w1 ⟨rfl, H1⟩
  go_wp2_with fail
  go_end0
  exact ⟨rfl, H1⟩
def pqLast7 (s : Rn) : Rn :=
  let s1 := s.waited (waitA s.L s.n s.mode s.task s.f.st 1 (fun v => v == ((s.f.a - 256) % 4294967296)))
  let s2 := if (waitA s.L s.n s.mode s.task s.f.st 1 (fun v => v == ((s.f.a - 256) % 4294967296))).seen then s1.note 9 0 else s1
  if (waitA s.L s.n s.mode s.task s.f.st 1 (fun v => v == ((s.f.a - 256) % 4294967296))).done then s2.goto 7 else s2
set_option maxHeartbeats 1600000 in
theorem pq_last7 {S0 : List Nat} {w0 w : World} {m a r : Nat} {rs : List Res} {s : Rn} (H : RunHas S0 w0 m a r rs s w) {l : Int} (hop : s.f.op = 7) (hl : s.f.line = l) (hn : I64 s.n) (ha : 0 ≤ s.f.a ∧ s.f.a < 4294967296) (hc : s.notes.length ≤ 800) :
    Calls Tryz.prog 146 #[.pointer (some ⟨r, 0, none⟩)] w fun e w' => e = .returned (.tuple #[]) ∧ RunHas S0 w0 m a r rs (pqLast7 s) w' := by
  obtain ⟨z0, z2, z4, z5, z6, z7⟩ := H.facts hop hl rfl rfl
  have HC := Lib.hid hc
  have HN := Lib.hid hn
  have HH := Lib.hid H
  clear hc H hn
  unfold pqLast7
  dsimp only
  have hwt := fun (t2 : Nat) W (H : RunHas S0 w0 m a r (.blk t2 #[.int .u32 ((s.f.a - 256) % 4294967296)] :: rs) s W) => rn_wait H HN.out 1 180 #[] #[.pointer (some ⟨t2, 0, none⟩)] (fun v => v == ((s.f.a - 256) % 4294967296)) (enters_of Tryz.func180 (by kernel_rfl) rfl) (fun W v h0 h1 H => qpf_mine2 ((s.f.a - 256) % 4294967296) v W H.first)
  cases hs : (waitA s.L s.n s.mode s.task s.f.st 1 (fun v => v == ((s.f.a - 256) % 4294967296))).seen <;> cases hd : (waitA s.L s.n s.mode s.task s.f.st 1 (fun v => v == ((s.f.a - 256) % 4294967296))).done <;> rw [hs, hd] at hwt <;> simp only [if_true, Bool.false_eq_true, if_false] <;> (have HWT := Lib.hid hwt) <;> clear hwt hs hd
  · go_enter Tryz.func146, Tryz.ntmps146
    go_wp2_with fail
    refine region_flat_call 5 rfl (by kernel_rfl) (by kernel_rfl) ?_
    simp only [List.take_succ_cons, List.take_zero, List.drop_succ_cons, List.drop_zero, probed, probes, List.nil_append, List.cons_append, probe]
    go_wp2_with fail
    rw [only_normal]
    refine half_static (.int .u32 256) rfl rfl (enters_of Tryz.func179 (by kernel_rfl) rfl) (by simp [Act.eval]) (fun W t => qpf_own_up (HH.out.drew.grow t) hop hl) ?_
    simp only [probed, probes, List.nil_append, List.cons_append, probe]
    go_wp2_with fail
    rw [only_normal]
    rename_i hK
    refine hK _ _ ?_
    clear hK
    refine wp_from (Facts := fun V => RunHas S0 w0 m a r (.blk w.heap.size #[.int .u32 ((s.f.a - 256) % 4294967296)] :: rs) s V) ?_ (by first | exact HH.out.drew.box rfl _ _ | exact (HH.out.box rfl _ _).drew)
    clear z0 z2 z4 z5 z6 z7
    intro W HW2
    generalize w.heap.size = tb at HW2 ⊢
    obtain ⟨z0, z2, z4, z5, z6, z7⟩ := HW2.facts hop hl rfl rfl
    go_wp2_with fail
    refine (HWT.out _ _ HW2).mono ?_
    rintro e w1 ⟨rfl, H1⟩
    go_wp2_with fail
    go_end0
    exact ⟨rfl, H1.unbox⟩
  · go_enter Tryz.func146, Tryz.ntmps146
    go_wp2_with fail
    refine region_flat_call 5 rfl (by kernel_rfl) (by kernel_rfl) ?_
    simp only [List.take_succ_cons, List.take_zero, List.drop_succ_cons, List.drop_zero, probed, probes, List.nil_append, List.cons_append, probe]
    go_wp2_with fail
    rw [only_normal]
    refine half_static (.int .u32 256) rfl rfl (enters_of Tryz.func179 (by kernel_rfl) rfl) (by simp [Act.eval]) (fun W t => qpf_own_up (HH.out.drew.grow t) hop hl) ?_
    simp only [probed, probes, List.nil_append, List.cons_append, probe]
    go_wp2_with fail
    rw [only_normal]
    rename_i hK
    refine hK _ _ ?_
    clear hK
    refine wp_from (Facts := fun V => RunHas S0 w0 m a r (.blk w.heap.size #[.int .u32 ((s.f.a - 256) % 4294967296)] :: rs) s V) ?_ (by first | exact HH.out.drew.box rfl _ _ | exact (HH.out.box rfl _ _).drew)
    clear z0 z2 z4 z5 z6 z7
    intro W HW2
    generalize w.heap.size = tb at HW2 ⊢
    obtain ⟨z0, z2, z4, z5, z6, z7⟩ := HW2.facts hop hl rfl rfl
    go_wp2_with fail
    refine (HWT.out _ _ HW2).mono ?_
    rintro e w1 ⟨rfl, H1⟩
    go_wp2_with fail
    refine (rn_go H1 7).mono ?_
    rintro e w2 ⟨rfl, H2⟩
    go_wp2_with fail
    go_end0
    exact ⟨rfl, H2.unbox⟩
  · go_enter Tryz.func146, Tryz.ntmps146
    go_wp2_with fail
    refine region_flat_call 5 rfl (by kernel_rfl) (by kernel_rfl) ?_
    simp only [List.take_succ_cons, List.take_zero, List.drop_succ_cons, List.drop_zero, probed, probes, List.nil_append, List.cons_append, probe]
    go_wp2_with fail
    rw [only_normal]
    refine half_static (.int .u32 256) rfl rfl (enters_of Tryz.func179 (by kernel_rfl) rfl) (by simp [Act.eval]) (fun W t => qpf_own_up (HH.out.drew.grow t) hop hl) ?_
    simp only [probed, probes, List.nil_append, List.cons_append, probe]
    go_wp2_with fail
    rw [only_normal]
    rename_i hK
    refine hK _ _ ?_
    clear hK
    refine wp_from (Facts := fun V => RunHas S0 w0 m a r (.blk w.heap.size #[.int .u32 ((s.f.a - 256) % 4294967296)] :: rs) s V) ?_ (by first | exact HH.out.drew.box rfl _ _ | exact (HH.out.box rfl _ _).drew)
    clear z0 z2 z4 z5 z6 z7
    intro W HW2
    generalize w.heap.size = tb at HW2 ⊢
    obtain ⟨z0, z2, z4, z5, z6, z7⟩ := HW2.facts hop hl rfl rfl
    go_wp2_with fail
    refine (HWT.out _ _ HW2).mono ?_
    rintro e w1 ⟨rfl, H1⟩
    go_wp2_with fail
    refine (run_note H1 (by have := HC.out; first | exact Nat.le_trans this (by decide) | (simp [Rn.note, Rn.did, Rn.setA, Rn.setB, Rn.waited, Rn.goto, Rn.noted]; omega)) 9 0).mono ?_
    rintro e w2 ⟨rfl, H2⟩
    go_wp2_with fail
    go_end0
    exact ⟨rfl, H2.unbox⟩
  · go_enter Tryz.func146, Tryz.ntmps146
    go_wp2_with fail
    refine region_flat_call 5 rfl (by kernel_rfl) (by kernel_rfl) ?_
    simp only [List.take_succ_cons, List.take_zero, List.drop_succ_cons, List.drop_zero, probed, probes, List.nil_append, List.cons_append, probe]
    go_wp2_with fail
    rw [only_normal]
    refine half_static (.int .u32 256) rfl rfl (enters_of Tryz.func179 (by kernel_rfl) rfl) (by simp [Act.eval]) (fun W t => qpf_own_up (HH.out.drew.grow t) hop hl) ?_
    simp only [probed, probes, List.nil_append, List.cons_append, probe]
    go_wp2_with fail
    rw [only_normal]
    rename_i hK
    refine hK _ _ ?_
    clear hK
    refine wp_from (Facts := fun V => RunHas S0 w0 m a r (.blk w.heap.size #[.int .u32 ((s.f.a - 256) % 4294967296)] :: rs) s V) ?_ (by first | exact HH.out.drew.box rfl _ _ | exact (HH.out.box rfl _ _).drew)
    clear z0 z2 z4 z5 z6 z7
    intro W HW2
    generalize w.heap.size = tb at HW2 ⊢
    obtain ⟨z0, z2, z4, z5, z6, z7⟩ := HW2.facts hop hl rfl rfl
    go_wp2_with fail
    refine (HWT.out _ _ HW2).mono ?_
    rintro e w1 ⟨rfl, H1⟩
    go_wp2_with fail
    refine (run_note H1 (by have := HC.out; first | exact Nat.le_trans this (by decide) | (simp [Rn.note, Rn.did, Rn.setA, Rn.setB, Rn.waited, Rn.goto, Rn.noted]; omega)) 9 0).mono ?_
    rintro e w2 ⟨rfl, H2⟩
    go_wp2_with fail
    refine (rn_go H2 7).mono ?_
    rintro e w3 ⟨rfl, H3⟩
    go_wp2_with fail
    go_end0
    exact ⟨rfl, H3.unbox⟩
set_option maxHeartbeats 1600000 in
theorem pq_decide67 {S0 : List Nat} {w0 w : World} {m a r : Nat} {rs : List Res} {s : Rn} (H : RunHas S0 w0 m a r rs s w) {o l : Int} (hop : s.f.op = o) (hl : s.f.line = l) (ho : o = 7) (h0 : l = 6) (hn : I64 s.n) (ha : 0 ≤ s.f.a ∧ s.f.a < 4294967296) (hb : 0 ≤ s.f.b ∧ s.f.b < 4294967296) (hc : s.notes.length ≤ 800) :
    Calls Tryz.prog 101 #[.pointer (some ⟨r, 0, none⟩)] w fun e w' => e = .returned (.tuple #[]) ∧ RunHas S0 w0 m a r rs (pqLast7 s) w' := by
  obtain ⟨z0, z2, z4, z5, z6, z7⟩ := H.facts hop hl rfl rfl
  have HC := Lib.hid hc
  have HA := Lib.hid ha
  have HBB := Lib.hid hb
  have HN := Lib.hid hn
  have HH := Lib.hid H
  clear hc H hn ha hb
  subst ho h0
  go_enter Tryz.func101, Tryz.ntmps101
  go_wp2_with fail
  refine (pq_last7 HH.out hop hl HN.out HA.out HC.out).mono ?_
  rintro e w1 ⟨rfl, H1⟩
  go_wp2_with fail
  go_end0
  exact ⟨rfl, H1⟩
set_option maxHeartbeats 1600000 in
theorem pq_decide77 {S0 : List Nat} {w0 w : World} {m a r : Nat} {rs : List Res} {s : Rn} (H : RunHas S0 w0 m a r rs s w) {o l : Int} (hop : s.f.op = o) (hl : s.f.line = l) (ho : o = 7) (h0 : l = 7) (hn : I64 s.n) (ha : 0 ≤ s.f.a ∧ s.f.a < 4294967296) (hb : 0 ≤ s.f.b ∧ s.f.b < 4294967296) (hc : s.notes.length ≤ 800) :
    Calls Tryz.prog 101 #[.pointer (some ⟨r, 0, none⟩)] w fun e w' => e = .returned (.tuple #[]) ∧ RunHas S0 w0 m a r rs ((s.did (doA s.L ⟨3, 1, 256, 0, 0⟩)).fin true) w' := by
  obtain ⟨z0, z2, z4, z5, z6, z7⟩ := H.facts hop hl rfl rfl
  have HC := Lib.hid hc
  have HA := Lib.hid ha
  have HBB := Lib.hid hb
  have HN := Lib.hid hn
  have HH := Lib.hid H
  clear hc H hn ha hb
  subst ho h0
  go_enter Tryz.func101, Tryz.ntmps101
  go_wp2_with fail
  refine (rn_add HH.out 1 256 (by decide)).mono ?_
  rintro e w1 ⟨rfl, H1⟩
  go_wp2_with fail
  refine (rn_end H1 true).mono ?_
  rintro e w2 ⟨rfl, H2⟩
  go_wp2_with fail
  go_end0
  exact ⟨rfl, H2⟩
set_option maxHeartbeats 1600000 in
theorem pq_decide76 {S0 : List Nat} {w0 w : World} {m a r : Nat} {rs : List Res} {s : Rn} (H : RunHas S0 w0 m a r rs s w) {o l : Int} (hop : s.f.op = o) (hl : s.f.line = l) (ho : o = 6) (h0 : l = 7) (hn : I64 s.n) (ha : 0 ≤ s.f.a ∧ s.f.a < 4294967296) (hb : 0 ≤ s.f.b ∧ s.f.b < 4294967296) (hc : s.notes.length ≤ 800) :
    Calls Tryz.prog 101 #[.pointer (some ⟨r, 0, none⟩)] w fun e w' => e = .returned (.tuple #[]) ∧ RunHas S0 w0 m a r rs s w' := by
  obtain ⟨z0, z2, z4, z5, z6, z7⟩ := H.facts hop hl rfl rfl
  have HC := Lib.hid hc
  have HA := Lib.hid ha
  have HBB := Lib.hid hb
  have HN := Lib.hid hn
  have HH := Lib.hid H
  clear hc H hn ha hb
  subst ho h0
  go_enter Tryz.func101, Tryz.ntmps101
  go_wp2_with fail
  go_end0
  exact ⟨rfl, HH.out⟩
set_option maxHeartbeats 1600000 in
theorem pq_decideG {S0 : List Nat} {w0 w : World} {m a r : Nat} {rs : List Res} {s : Rn} (H : RunHas S0 w0 m a r rs s w) {o l : Int} (hop : s.f.op = o) (hl : s.f.line = l) (h2 : ¬ l = 2) (h3 : ¬ l = 3) (h4 : ¬ l = 4) (h5 : ¬ l = 5) (h6 : ¬ l = 6) (h7 : ¬ l = 7) (hn : I64 s.n) (ha : 0 ≤ s.f.a ∧ s.f.a < 4294967296) (hb : 0 ≤ s.f.b ∧ s.f.b < 4294967296) (hc : s.notes.length ≤ 800) :
    Calls Tryz.prog 101 #[.pointer (some ⟨r, 0, none⟩)] w fun e w' => e = .returned (.tuple #[]) ∧ RunHas S0 w0 m a r rs (pqGive 8 false s) w' := by
  obtain ⟨z0, z2, z4, z5, z6, z7⟩ := H.facts hop hl rfl rfl
  have HC := Lib.hid hc
  have HA := Lib.hid ha
  have HBB := Lib.hid hb
  have HN := Lib.hid hn
  have HH := Lib.hid H
  clear hc H hn ha hb
  have j2 : (l == 2) = false := by simpa using h2
  have j3 : (l == 3) = false := by simpa using h3
  have j4 : (l == 4) = false := by simpa using h4
  have j5 : (l == 5) = false := by simpa using h5
  have j6 : (l == 6) = false := by simpa using h6
  have j7 : (l == 7) = false := by simpa using h7
  have he := fun (g : Nat) W (HX : RunHas S0 w0 m a r (.blk g (i64s [8]).toArray :: rs) s W) => mx_give (c := 1) 2 8 (nl := [8]) (nn := 1) rfl (by decide) (by have := HC.out; simp; omega) HX HN.out HA.out
  unfold pqGive
  generalize mxGive 2 8 [8] s = R at he ⊢
  obtain ⟨b, s1⟩ := R
  have HE := Lib.hid he
  clear he
  cases b with
  | true =>
    go_enter Tryz.func101, Tryz.ntmps101
    go_wp2_with fail
    refine (HE.out _ _ (HH.out.box rfl _ _)).mono ?_
    rintro e w7 ⟨rfl, H7⟩
    go_wp2_with fail
    refine (rn_end H7 false).mono ?_
    rintro e w8 ⟨rfl, H8⟩
    go_wp2_with fail
    go_end0
    exact ⟨rfl, H8.unbox⟩
  | false =>
    go_enter Tryz.func101, Tryz.ntmps101
    go_wp2_with fail
    refine (HE.out _ _ (HH.out.box rfl _ _)).mono ?_
    rintro e w7 ⟨rfl, H7⟩
    go_wp2_with fail
    go_end0
    exact ⟨rfl, H7.unbox⟩
def pqDecide (s : Rn) : Rn :=
  if s.f.line = 2 then (((s.did (doA s.L ⟨1, 0, 0, 0, 0⟩)).setA (doA s.L ⟨1, 0, 0, 0, 0⟩).1.old).goto 3)
  else if s.f.line = 3 then (if s.f.op = 7 then pqIn7 s else pqIn6 s)
  else if s.f.line = 4 then (((s.did (doA s.L ⟨1, 3, 0, 0, 0⟩)).setB (doA s.L ⟨1, 3, 0, 0, 0⟩).1.old).goto 5)
  else if s.f.line = 5 then ((((s.did (doA s.L ⟨3, 0, qpfP s.f.b, 0, 0⟩)).setA (doA s.L ⟨3, 0, qpfP s.f.b, 0, 0⟩).1.old).note 3 0).goto 6)
  else if s.f.line = 6 then (if s.f.op = 7 then pqLast7 s else pqLast6 s)
  else if s.f.line = 7 then (if s.f.op = 7 then (s.did (doA s.L ⟨3, 1, 256, 0, 0⟩)).fin true else s)
  else pqGive 8 false s
theorem pq_decide {S0 : List Nat} {w0 w : World} {m a r : Nat} {rs : List Res} {s : Rn} (H : RunHas S0 w0 m a r rs s w) (ho : s.f.op = 6 ∨ s.f.op = 7) (hn : I64 s.n) (ha : 0 ≤ s.f.a ∧ s.f.a < 4294967296) (hb : 0 ≤ s.f.b ∧ s.f.b < 4294967296) (hc : s.notes.length ≤ 800) : Calls Tryz.prog 101 #[.pointer (some ⟨r, 0, none⟩)] w fun e w' => e = .returned (.tuple #[]) ∧ RunHas S0 w0 m a r rs (pqDecide s) w' := by
  unfold pqDecide
  split
  · exact pq_decide2 H rfl rfl (by assumption) hn ha hb hc
  split
  · split
    · exact pq_decide37 H rfl rfl (by assumption) (by assumption) hn ha hb hc
    · exact pq_decide36 H rfl rfl (by omega) (by assumption) hn ha hb hc
  split
  · exact pq_decide4 H rfl rfl (by assumption) hn ha hb hc
  split
  · exact pq_decide5 H rfl rfl (by assumption) hn ha hb hc
  split
  · split
    · exact pq_decide67 H rfl rfl (by assumption) (by assumption) hn ha hb hc
    · exact pq_decide66 H rfl rfl (by omega) (by assumption) hn ha hb hc
  split
  · split
    · exact pq_decide77 H rfl rfl (by assumption) (by assumption) hn ha hb hc
    · exact pq_decide76 H rfl rfl (by omega) (by assumption) hn ha hb hc
  · exact pq_decideG H rfl rfl (by assumption) (by assumption) (by assumption) (by assumption) (by assumption) (by assumption) hn ha hb hc
end Go.Proofs.YthnimpkoidablaaGreat.Z

set_option linter.unusedVariables false
set_option linter.unusedSimpArgs false
namespace Go.Proofs.YthnimpkoidablaaGreat.Z
open Go.RowKit
attribute [local go_sem ↓] Go.wp_at_zero Go.wp_at_succ
theorem pq_reads {S0 : List Nat} {w0 w : World} {m a r : Nat} {rs : List Res} {s s2 : Rn} (H : RunHas S0 w0 m a r rs s w)
    (hr : ∀ W, RunHas S0 w0 m a r rs s W → Calls Tryz.prog 93 #[.pointer (some ⟨r, 0, none⟩), .int .i64 0, .int .i64 1] W fun e w' => e = .returned (.bool true) ∧ RunHas S0 w0 m a r rs s2 w') :
    Calls Tryz.prog 69 #[.pointer (some ⟨r, 0, none⟩)] w fun e w' => e = .returned (.tuple #[]) ∧ RunHas S0 w0 m a r rs s2 w' := by
  have HR := Lib.hid hr
  have HH := Lib.hid H
  clear hr H
  go_enter Tryz.func69, Tryz.ntmps69
  go_wp2_with fail
  refine (HR.out _ HH.out).mono ?_
  rintro e w1 ⟨rfl, H1⟩
  go_wp2_with fail
  (try simp only [Exit.inBlock, Exit.then]); refine bodyPost_ret (results_none rfl _ _ _) rfl ?_
  exact ⟨rfl, H1⟩
set_option maxHeartbeats 1600000 in
theorem pq_line_0 {S0 : List Nat} {w0 w : World} {m a r : Nat} {rs : List Res} {s : Rn} (H : RunHas S0 w0 m a r rs s w) {o l : Int} (hop : s.f.op = o) (hl : s.f.line = l) (ho : o = 3) (hn : I64 s.n) (ha : 0 ≤ s.f.a ∧ s.f.a < 4294967296) (hb : 0 ≤ s.f.b ∧ s.f.b < 4294967296) (hc : s.notes.length ≤ 800) :
    Calls Tryz.prog 69 #[.pointer (some ⟨r, 0, none⟩)] w fun e w' => e = .returned (.tuple #[]) ∧ RunHas S0 w0 m a r rs (pqLock s) w' := by
  obtain ⟨z0, z2, z4, z5, z6, z7⟩ := H.facts hop hl rfl rfl
  have HC := Lib.hid hc
  have HA := Lib.hid ha
  have HBB := Lib.hid hb
  have HN := Lib.hid hn
  have HH := Lib.hid H
  clear hc H hn ha hb
  subst ho
  go_enter Tryz.func69, Tryz.ntmps69
  go_wp2_with fail
  refine (qpf_r_none HH.out hop hl (by omega) (by omega) (by omega) (by omega) (by omega)).mono ?_
  rintro e w1 ⟨rfl, H1⟩
  clear z0 z2 z4 z5 z6 z7
  obtain ⟨z0, z2, z4, z5, z6, z7⟩ := H1.facts hop hl rfl rfl
  go_wp2_with fail
  refine (pq_lock H1 HN.out HA.out HBB.out HC.out).mono ?_
  rintro e w2 ⟨rfl, H2⟩
  go_wp2_with fail
  go_end0
  exact ⟨rfl, H2⟩
set_option maxHeartbeats 1600000 in
theorem pq_line_1 {S0 : List Nat} {w0 w : World} {m a r : Nat} {rs : List Res} {s : Rn} (H : RunHas S0 w0 m a r rs s w) {o l : Int} (hop : s.f.op = o) (hl : s.f.line = l) (ho : o = 4) (hn : I64 s.n) (ha : 0 ≤ s.f.a ∧ s.f.a < 4294967296) (hb : 0 ≤ s.f.b ∧ s.f.b < 4294967296) (hc : s.notes.length ≤ 800) :
    Calls Tryz.prog 69 #[.pointer (some ⟨r, 0, none⟩)] w fun e w' => e = .returned (.tuple #[]) ∧ RunHas S0 w0 m a r rs (pqLeave s) w' := by
  obtain ⟨z0, z2, z4, z5, z6, z7⟩ := H.facts hop hl rfl rfl
  have HC := Lib.hid hc
  have HA := Lib.hid ha
  have HBB := Lib.hid hb
  have HN := Lib.hid hn
  have HH := Lib.hid H
  clear hc H hn ha hb
  subst ho
  go_enter Tryz.func69, Tryz.ntmps69
  go_wp2_with fail
  refine (qpf_r_none HH.out hop hl (by omega) (by omega) (by omega) (by omega) (by omega)).mono ?_
  rintro e w1 ⟨rfl, H1⟩
  clear z0 z2 z4 z5 z6 z7
  obtain ⟨z0, z2, z4, z5, z6, z7⟩ := H1.facts hop hl rfl rfl
  go_wp2_with fail
  refine (pq_leave H1 HN.out HA.out HBB.out HC.out).mono ?_
  rintro e w2 ⟨rfl, H2⟩
  go_wp2_with fail
  go_end0
  exact ⟨rfl, H2⟩
set_option maxHeartbeats 1600000 in
theorem pq_line_2 {S0 : List Nat} {w0 w : World} {m a r : Nat} {rs : List Res} {s : Rn} (H : RunHas S0 w0 m a r rs s w) {o l : Int} (hop : s.f.op = o) (hl : s.f.line = l) (ho : o = 8) (hn : I64 s.n) (ha : 0 ≤ s.f.a ∧ s.f.a < 4294967296) (hb : 0 ≤ s.f.b ∧ s.f.b < 4294967296) (hc : s.notes.length ≤ 800) :
    Calls Tryz.prog 69 #[.pointer (some ⟨r, 0, none⟩)] w fun e w' => e = .returned (.tuple #[]) ∧ RunHas S0 w0 m a r rs (pqLeave s) w' := by
  obtain ⟨z0, z2, z4, z5, z6, z7⟩ := H.facts hop hl rfl rfl
  have HC := Lib.hid hc
  have HA := Lib.hid ha
  have HBB := Lib.hid hb
  have HN := Lib.hid hn
  have HH := Lib.hid H
  clear hc H hn ha hb
  subst ho
  go_enter Tryz.func69, Tryz.ntmps69
  go_wp2_with fail
  refine (qpf_r_none HH.out hop hl (by omega) (by omega) (by omega) (by omega) (by omega)).mono ?_
  rintro e w1 ⟨rfl, H1⟩
  clear z0 z2 z4 z5 z6 z7
  obtain ⟨z0, z2, z4, z5, z6, z7⟩ := H1.facts hop hl rfl rfl
  go_wp2_with fail
  refine (pq_leave H1 HN.out HA.out HBB.out HC.out).mono ?_
  rintro e w2 ⟨rfl, H2⟩
  go_wp2_with fail
  go_end0
  exact ⟨rfl, H2⟩
set_option maxHeartbeats 1600000 in
theorem pq_line_3 {S0 : List Nat} {w0 w : World} {m a r : Nat} {rs : List Res} {s : Rn} (H : RunHas S0 w0 m a r rs s w) {o l : Int} (hop : s.f.op = o) (hl : s.f.line = l) (ho : o = 6) (hle : l ≤ 1) (hn : I64 s.n) (ha : 0 ≤ s.f.a ∧ s.f.a < 4294967296) (hb : 0 ≤ s.f.b ∧ s.f.b < 4294967296) (hc : s.notes.length ≤ 800) :
    Calls Tryz.prog 69 #[.pointer (some ⟨r, 0, none⟩)] w fun e w' => e = .returned (.tuple #[]) ∧ RunHas S0 w0 m a r rs (pqTry s) w' := by
  obtain ⟨z0, z2, z4, z5, z6, z7⟩ := H.facts hop hl rfl rfl
  have HC := Lib.hid hc
  have HA := Lib.hid ha
  have HBB := Lib.hid hb
  have HN := Lib.hid hn
  have HH := Lib.hid H
  clear hc H hn ha hb
  subst ho
  go_enter Tryz.func69, Tryz.ntmps69
  go_wp2_with fail
  refine (qpf_r_none HH.out hop hl (by omega) (by omega) (by omega) (by omega) (by omega)).mono ?_
  rintro e w1 ⟨rfl, H1⟩
  clear z0 z2 z4 z5 z6 z7
  obtain ⟨z0, z2, z4, z5, z6, z7⟩ := H1.facts hop hl rfl rfl
  go_wp2_with fail
  refine (pq_try H1 HN.out HA.out HBB.out HC.out).mono ?_
  rintro e w2 ⟨rfl, H2⟩
  go_wp2_with fail
  go_end0
  exact ⟨rfl, H2⟩
set_option maxHeartbeats 1600000 in
theorem pq_line_4 {S0 : List Nat} {w0 w : World} {m a r : Nat} {rs : List Res} {s : Rn} (H : RunHas S0 w0 m a r rs s w) {o l : Int} (hop : s.f.op = o) (hl : s.f.line = l) (ho : o = 6) (hle : 1 < l) (hn : I64 s.n) (ha : 0 ≤ s.f.a ∧ s.f.a < 4294967296) (hb : 0 ≤ s.f.b ∧ s.f.b < 4294967296) (hc : s.notes.length ≤ 800) :
    Calls Tryz.prog 69 #[.pointer (some ⟨r, 0, none⟩)] w fun e w' => e = .returned (.tuple #[]) ∧ RunHas S0 w0 m a r rs (pqDecide s) w' := by
  obtain ⟨z0, z2, z4, z5, z6, z7⟩ := H.facts hop hl rfl rfl
  have HC := Lib.hid hc
  have HA := Lib.hid ha
  have HBB := Lib.hid hb
  have HN := Lib.hid hn
  have HH := Lib.hid H
  clear hc H hn ha hb
  subst ho
  go_enter Tryz.func69, Tryz.ntmps69
  go_wp2_with fail
  refine (qpf_r_none HH.out hop hl (by omega) (by omega) (by omega) (by omega) (by omega)).mono ?_
  rintro e w1 ⟨rfl, H1⟩
  clear z0 z2 z4 z5 z6 z7
  obtain ⟨z0, z2, z4, z5, z6, z7⟩ := H1.facts hop hl rfl rfl
  go_wp2_with fail
  refine (pq_decide H1 (by rw [hop]; decide) HN.out HA.out HBB.out HC.out).mono ?_
  rintro e w2 ⟨rfl, H2⟩
  go_wp2_with fail
  go_end0
  exact ⟨rfl, H2⟩
set_option maxHeartbeats 1600000 in
theorem pq_line_5 {S0 : List Nat} {w0 w : World} {m a r : Nat} {rs : List Res} {s : Rn} (H : RunHas S0 w0 m a r rs s w) {o l : Int} (hop : s.f.op = o) (hl : s.f.line = l) (ho : o = 7) (hle : l ≤ 1) (hn : I64 s.n) (ha : 0 ≤ s.f.a ∧ s.f.a < 4294967296) (hb : 0 ≤ s.f.b ∧ s.f.b < 4294967296) (hc : s.notes.length ≤ 800) :
    Calls Tryz.prog 69 #[.pointer (some ⟨r, 0, none⟩)] w fun e w' => e = .returned (.tuple #[]) ∧ RunHas S0 w0 m a r rs (pqTry s) w' := by
  obtain ⟨z0, z2, z4, z5, z6, z7⟩ := H.facts hop hl rfl rfl
  have HC := Lib.hid hc
  have HA := Lib.hid ha
  have HBB := Lib.hid hb
  have HN := Lib.hid hn
  have HH := Lib.hid H
  clear hc H hn ha hb
  subst ho
  go_enter Tryz.func69, Tryz.ntmps69
  go_wp2_with fail
  refine (qpf_r_none HH.out hop hl (by omega) (by omega) (by omega) (by omega) (by omega)).mono ?_
  rintro e w1 ⟨rfl, H1⟩
  clear z0 z2 z4 z5 z6 z7
  obtain ⟨z0, z2, z4, z5, z6, z7⟩ := H1.facts hop hl rfl rfl
  go_wp2_with fail
  refine (pq_try H1 HN.out HA.out HBB.out HC.out).mono ?_
  rintro e w2 ⟨rfl, H2⟩
  go_wp2_with fail
  go_end0
  exact ⟨rfl, H2⟩
set_option maxHeartbeats 1600000 in
theorem pq_line_6 {S0 : List Nat} {w0 w : World} {m a r : Nat} {rs : List Res} {s : Rn} (H : RunHas S0 w0 m a r rs s w) {o l : Int} (hop : s.f.op = o) (hl : s.f.line = l) (ho : o = 7) (hle : 1 < l) (hn : I64 s.n) (ha : 0 ≤ s.f.a ∧ s.f.a < 4294967296) (hb : 0 ≤ s.f.b ∧ s.f.b < 4294967296) (hc : s.notes.length ≤ 800) :
    Calls Tryz.prog 69 #[.pointer (some ⟨r, 0, none⟩)] w fun e w' => e = .returned (.tuple #[]) ∧ RunHas S0 w0 m a r rs (pqDecide s) w' := by
  obtain ⟨z0, z2, z4, z5, z6, z7⟩ := H.facts hop hl rfl rfl
  have HC := Lib.hid hc
  have HA := Lib.hid ha
  have HBB := Lib.hid hb
  have HN := Lib.hid hn
  have HH := Lib.hid H
  clear hc H hn ha hb
  subst ho
  go_enter Tryz.func69, Tryz.ntmps69
  go_wp2_with fail
  refine (qpf_r_none HH.out hop hl (by omega) (by omega) (by omega) (by omega) (by omega)).mono ?_
  rintro e w1 ⟨rfl, H1⟩
  clear z0 z2 z4 z5 z6 z7
  obtain ⟨z0, z2, z4, z5, z6, z7⟩ := H1.facts hop hl rfl rfl
  go_wp2_with fail
  refine (pq_decide H1 (by rw [hop]; decide) HN.out HA.out HBB.out HC.out).mono ?_
  rintro e w2 ⟨rfl, H2⟩
  go_wp2_with fail
  go_end0
  exact ⟨rfl, H2⟩
set_option maxHeartbeats 1600000 in
theorem pq_line_7 {S0 : List Nat} {w0 w : World} {m a r : Nat} {rs : List Res} {s : Rn} (H : RunHas S0 w0 m a r rs s w) {o l : Int} (hop : s.f.op = o) (hl : s.f.line = l) (h0 : ¬ (o = 1 ∧ l = 0)) (h1 : ¬ (o = 1 ∧ l = 1)) (h2 : ¬ (o = 2 ∧ l = 0)) (h3 : ¬ (o = 5 ∧ l = 0)) (h4 : ¬ (o = 5 ∧ l = 1)) (k3 : ¬ o = 3) (k4 : ¬ o = 4) (k8 : ¬ o = 8) (k6 : ¬ o = 6) (k7 : ¬ o = 7) (hn : I64 s.n) (ha : 0 ≤ s.f.a ∧ s.f.a < 4294967296) (hb : 0 ≤ s.f.b ∧ s.f.b < 4294967296) (hc : s.notes.length ≤ 800) :
    Calls Tryz.prog 69 #[.pointer (some ⟨r, 0, none⟩)] w fun e w' => e = .returned (.tuple #[]) ∧ RunHas S0 w0 m a r rs (s) w' := by
  obtain ⟨z0, z2, z4, z5, z6, z7⟩ := H.facts hop hl rfl rfl
  have HC := Lib.hid hc
  have HA := Lib.hid ha
  have HBB := Lib.hid hb
  have HN := Lib.hid hn
  have HH := Lib.hid H
  clear hc H hn ha hb
  have j3 : (o == 3) = false := by simpa using k3
  have j4 : (o == 4) = false := by simpa using k4
  have j8 : (o == 8) = false := by simpa using k8
  have j6 : (o == 6) = false := by simpa using k6
  have j7 : (o == 7) = false := by simpa using k7
  go_enter Tryz.func69, Tryz.ntmps69
  go_wp2_with fail
  refine (qpf_r_none HH.out hop hl h0 h1 h2 h3 h4).mono ?_
  rintro e w1 ⟨rfl, H1⟩
  clear z0 z2 z4 z5 z6 z7
  obtain ⟨z0, z2, z4, z5, z6, z7⟩ := H1.facts hop hl rfl rfl
  go_wp2_with fail
  go_end0
  exact ⟨rfl, H1⟩
def pqA (s : Rn) : Rn := if s.f.op = 1 ∧ s.f.line = 0 then qpfR10 s else if s.f.op = 1 ∧ s.f.line = 1 then qpfR11 s else if s.f.op = 2 ∧ s.f.line = 0 then qpfR20 s else if s.f.op = 5 ∧ s.f.line = 0 then qpfR50 s else if s.f.op = 5 ∧ s.f.line = 1 then qpfR51 s else if s.f.op = 3 then pqLock s else if s.f.op = 4 then pqLeave s else if s.f.op = 8 then pqLeave s
  else if s.f.op = 6 then (if s.f.line ≤ 1 then pqTry s else pqDecide s) else if s.f.op = 7 then (if s.f.line ≤ 1 then pqTry s else pqDecide s) else s
theorem pq_lines {S0 : List Nat} {w0 w : World} {m a r : Nat} {rs : List Res} {s : Rn} (H : RunHas S0 w0 m a r rs s w) (hn : I64 s.n) (ha : 0 ≤ s.f.a ∧ s.f.a < 4294967296) (hb : 0 ≤ s.f.b ∧ s.f.b < 4294967296) (hc : s.notes.length ≤ 800) : Calls Tryz.prog 69 #[.pointer (some ⟨r, 0, none⟩)] w fun e w' => e = .returned (.tuple #[]) ∧ RunHas S0 w0 m a r rs (pqA s) w' := by
  unfold pqA
  by_cases h10 : s.f.op = 1 ∧ s.f.line = 0
  · rw [if_pos h10]; exact pq_reads H (fun W HW => qpf_r10 HW h10.1 h10.2 hn ha (by omega))
  rw [if_neg h10]
  by_cases h11 : s.f.op = 1 ∧ s.f.line = 1
  · rw [if_pos h11]; exact pq_reads H (fun W HW => qpf_r11 HW h11.1 h11.2 hn ha (by omega))
  rw [if_neg h11]
  by_cases h20 : s.f.op = 2 ∧ s.f.line = 0
  · rw [if_pos h20]; exact pq_reads H (fun W HW => qpf_r20 HW h20.1 h20.2 hn ha (by omega))
  rw [if_neg h20]
  by_cases h50 : s.f.op = 5 ∧ s.f.line = 0
  · rw [if_pos h50]; exact pq_reads H (fun W HW => qpf_r50 HW h50.1 h50.2 hn ha (by omega))
  rw [if_neg h50]
  by_cases h51 : s.f.op = 5 ∧ s.f.line = 1
  · rw [if_pos h51]; exact pq_reads H (fun W HW => qpf_r51 HW h51.1 h51.2 hn ha (by omega))
  rw [if_neg h51]
  split
  · exact pq_line_0 H rfl rfl (by assumption) hn ha hb hc
  split
  · exact pq_line_1 H rfl rfl (by assumption) hn ha hb hc
  split
  · exact pq_line_2 H rfl rfl (by assumption) hn ha hb hc
  split
  · split
    · exact pq_line_3 H rfl rfl (by assumption) (by assumption) hn ha hb hc
    · exact pq_line_4 H rfl rfl (by assumption) (by omega) hn ha hb hc
  split
  · split
    · exact pq_line_5 H rfl rfl (by assumption) (by assumption) hn ha hb hc
    · exact pq_line_6 H rfl rfl (by assumption) (by omega) hn ha hb hc
  · exact pq_line_7 H rfl rfl h10 h11 h20 h50 h51 (by assumption) (by assumption) (by assumption) (by assumption) (by assumption) hn ha hb hc
end Go.Proofs.YthnimpkoidablaaGreat.Z

set_option linter.unusedVariables false
set_option linter.unusedSimpArgs false
namespace Go.Proofs.YthnimpkoidablaaGreat.Z
open Go.RowKit
variable {s : Rn}
section
theorem pfR10_fk (hw : Words s.L) (h : (0 ≤ s.f.a ∧ s.f.a < 4294967296) ∧ (0 ≤ s.f.b ∧ s.f.b < 4294967296)) : FK 2 s (qpfR10 s) := by
  have R := FK.refl h
  have hold := fun b => doA_old s.L hw b
  unfold qpfR10
  dsimp only
  split
  · exact (((((R.did _).setA (hold _)).note _ _).note _ _).fin _).more (by decide)
  · exact ((((R.did _).setA (hold _)).note _ _).goto _).more (by decide)
theorem pfR11_fk (hw : Words s.L) (h : (0 ≤ s.f.a ∧ s.f.a < 4294967296) ∧ (0 ≤ s.f.b ∧ s.f.b < 4294967296)) : FK 2 s (qpfR11 s) := by
  have R := FK.refl h
  have hold := fun b => doA_old s.L hw b
  unfold qpfR11
  dsimp only
  split
  · split
    · exact (((R.waited _).note _ _).fin _).more (by decide)
    · exact ((R.waited _).fin _).more (by decide)
  · split
    · exact ((R.waited _).note _ _).more (by decide)
    · exact (R.waited _).more (by decide)
theorem pfR20_fk (hw : Words s.L) (h : (0 ≤ s.f.a ∧ s.f.a < 4294967296) ∧ (0 ≤ s.f.b ∧ s.f.b < 4294967296)) : FK 2 s (qpfR20 s) := by
  have R := FK.refl h
  have hold := fun b => doA_old s.L hw b
  unfold qpfR20
  exact ((((R.did _).note _ _).wake _).fin _).more (by decide)
theorem pfR50_fk (hw : Words s.L) (h : (0 ≤ s.f.a ∧ s.f.a < 4294967296) ∧ (0 ≤ s.f.b ∧ s.f.b < 4294967296)) : FK 2 s (qpfR50 s) := by
  have R := FK.refl h
  have hold := fun b => doA_old s.L hw b
  unfold qpfR50
  dsimp only
  split
  · exact (((R.did _).setA (hold _)).goto _).more (by decide)
  · exact ((((R.did _).setA (hold _)).note _ _).fin _).more (by decide)
theorem pfR51_fk (hw : Words s.L) (h : (0 ≤ s.f.a ∧ s.f.a < 4294967296) ∧ (0 ≤ s.f.b ∧ s.f.b < 4294967296)) : FK 2 s (qpfR51 s) := by
  have R := FK.refl h
  have hold := fun b => doA_old s.L hw b
  unfold qpfR51
  split
  · exact ((((R.did _).note _ _).note _ _).fin _).more (by decide)
  · exact ((R.did _).goto _).more (by decide)
theorem pqEnter_fk (hw : Words s.L) (h : (0 ≤ s.f.a ∧ s.f.a < 4294967296) ∧ (0 ≤ s.f.b ∧ s.f.b < 4294967296)) : FK 2 s (pqEnter s) := by
  have R := FK.refl h
  have hold := fun b => doA_old s.L hw b
  have Q := mxEnter_fk (s := s) 2 2 hw h
  unfold pqEnter
  split
  · exact (Q.goto _).more (by decide)
  · exact (Q).more (by decide)
theorem pqGive_fk (q : Int) (ok : Bool) (hw : Words s.L) (h : (0 ≤ s.f.a ∧ s.f.a < 4294967296) ∧ (0 ≤ s.f.b ∧ s.f.b < 4294967296)) : FK 2 s (pqGive q ok s) := by
  have R := FK.refl h
  have hold := fun b => doA_old s.L hw b
  have Q := mxGive_fk (s := s) 2 q [8] hw h
  unfold pqGive
  split
  · exact (Q.fin _).more (by decide)
  · exact (Q).more (by decide)
theorem pqTry_fk (hw : Words s.L) (h : (0 ≤ s.f.a ∧ s.f.a < 4294967296) ∧ (0 ≤ s.f.b ∧ s.f.b < 4294967296)) : FK 2 s (pqTry s) := by
  have R := FK.refl h
  have hold := fun b => doA_old s.L hw b
  have Q := mxTry_fk (s := s) 2 h
  unfold pqTry
  split
  · split
    · exact ((Q.note _ _).goto _).more (by decide)
    · exact ((Q.note _ _).fin _).more (by decide)
  · exact (Q).more (by decide)
theorem pqLock_fk (hw : Words s.L) (h : (0 ≤ s.f.a ∧ s.f.a < 4294967296) ∧ (0 ≤ s.f.b ∧ s.f.b < 4294967296)) : FK 2 s (pqLock s) := by
  have R := FK.refl h
  have hold := fun b => doA_old s.L hw b
  unfold pqLock
  split
  · exact (((R.did _).setB (hold _)).goto _).more (by decide)
  split
  · exact ((((R.did _).setA (hold _)).note _ _).goto _).more (by decide)
  split
  · dsimp only
    split
    · split
      · exact (((R.waited _).note _ _).fin _).more (by decide)
      · exact ((R.waited _).fin _).more (by decide)
    · split
      · exact ((R.waited _).note _ _).more (by decide)
      · exact (R.waited _).more (by decide)
  · exact pqEnter_fk hw h
theorem pqLeave_fk (hw : Words s.L) (h : (0 ≤ s.f.a ∧ s.f.a < 4294967296) ∧ (0 ≤ s.f.b ∧ s.f.b < 4294967296)) : FK 2 s (pqLeave s) := by
  have R := FK.refl h
  have hold := fun b => doA_old s.L hw b
  unfold pqLeave
  split
  · exact (((R.did _).setB (hold _)).goto _).more (by decide)
  split
  · exact (((R.did _).setB (hold _)).goto _).more (by decide)
  split
  · exact ((((R.did _).note _ _).wake _).goto _).more (by decide)
  split
  · exact ((((R.did _).note _ _).wake _).goto _).more (by decide)
  split
  · exact ((R.did _).goto _).more (by decide)
  split
  · exact ((R.did _).goto _).more (by decide)
  · exact pqGive_fk _ _ hw h
theorem pqIn6_fk (hw : Words s.L) (h : (0 ≤ s.f.a ∧ s.f.a < 4294967296) ∧ (0 ≤ s.f.b ∧ s.f.b < 4294967296)) : FK 2 s (pqIn6 s) := by
  have R := FK.refl h
  have hold := fun b => doA_old s.L hw b
  unfold pqIn6
  dsimp only
  split
  · exact ((((R.did _).setB (hold _)).note _ _).goto _).more (by decide)
  · exact (((R.did _).setB (hold _)).goto _).more (by decide)
theorem pqLast6_fk (hw : Words s.L) (h : (0 ≤ s.f.a ∧ s.f.a < 4294967296) ∧ (0 ≤ s.f.b ∧ s.f.b < 4294967296)) : FK 2 s (pqLast6 s) := by
  have R := FK.refl h
  have hold := fun b => doA_old s.L hw b
  unfold pqLast6
  dsimp only
  split
  · split
    · exact (((R.waited _).note _ _).fin _).more (by decide)
    · exact ((R.waited _).fin _).more (by decide)
  · split
    · exact ((R.waited _).note _ _).more (by decide)
    · exact (R.waited _).more (by decide)
theorem pqIn7_fk (hw : Words s.L) (h : (0 ≤ s.f.a ∧ s.f.a < 4294967296) ∧ (0 ≤ s.f.b ∧ s.f.b < 4294967296)) : FK 2 s (pqIn7 s) := by
  have R := FK.refl h
  have hold := fun b => doA_old s.L hw b
  unfold pqIn7
  dsimp only
  split
  · exact ((((R.did _).setB (hold _)).note _ _).goto _).more (by decide)
  · exact (((R.did _).setB (hold _)).goto _).more (by decide)
theorem pqLast7_fk (hw : Words s.L) (h : (0 ≤ s.f.a ∧ s.f.a < 4294967296) ∧ (0 ≤ s.f.b ∧ s.f.b < 4294967296)) : FK 2 s (pqLast7 s) := by
  have R := FK.refl h
  have hold := fun b => doA_old s.L hw b
  unfold pqLast7
  dsimp only
  split
  · split
    · exact (((R.waited _).note _ _).goto _).more (by decide)
    · exact ((R.waited _).goto _).more (by decide)
  · split
    · exact ((R.waited _).note _ _).more (by decide)
    · exact (R.waited _).more (by decide)
theorem pqDecide_fk (hw : Words s.L) (h : (0 ≤ s.f.a ∧ s.f.a < 4294967296) ∧ (0 ≤ s.f.b ∧ s.f.b < 4294967296)) : FK 2 s (pqDecide s) := by
  have R := FK.refl h
  have hold := fun b => doA_old s.L hw b
  unfold pqDecide
  split
  · exact (((R.did _).setA (hold _)).goto _).more (by decide)
  split
  · split
    · exact pqIn7_fk hw h
    · exact pqIn6_fk hw h
  split
  · exact (((R.did _).setB (hold _)).goto _).more (by decide)
  split
  · exact ((((R.did _).setA (hold _)).note _ _).goto _).more (by decide)
  split
  · split
    · exact pqLast7_fk hw h
    · exact pqLast6_fk hw h
  split
  · split
    · exact ((R.did _).fin _).more (by decide)
    · exact (R).more (by decide)
  · exact pqGive_fk _ _ hw h
theorem pqA_fk (hw : Words s.L) (h : (0 ≤ s.f.a ∧ s.f.a < 4294967296) ∧ (0 ≤ s.f.b ∧ s.f.b < 4294967296)) : FK 2 s (pqA s) := by
  have R := FK.refl h
  have hold := fun b => doA_old s.L hw b
  unfold pqA
  split
  · exact pfR10_fk hw h
  split
  · exact pfR11_fk hw h
  split
  · exact pfR20_fk hw h
  split
  · exact pfR50_fk hw h
  split
  · exact pfR51_fk hw h
  split
  · exact pqLock_fk hw h
  split
  · exact pqLeave_fk hw h
  split
  · exact pqLeave_fk hw h
  split
  · split
    · exact pqTry_fk hw h
    · exact pqDecide_fk hw h
  split
  · split
    · exact pqTry_fk hw h
    · exact pqDecide_fk hw h
  · exact (R).more (by decide)
end
theorem pqA_fine (s : Rn) (hw : Words s.L) (h : I64 s.n ∧ (0 ≤ s.f.a ∧ s.f.a < 4294967296) ∧ (0 ≤ s.f.b ∧ s.f.b < 4294967296)) : Fine s (pqA s) := by
  have F := pqA_fk hw h.2
  exact fine_mk ⟨⟨by rw [F.1.1]; exact h.1, F.2.1⟩, by have := F.2.2; omega⟩
end Go.Proofs.YthnimpkoidablaaGreat.Z
