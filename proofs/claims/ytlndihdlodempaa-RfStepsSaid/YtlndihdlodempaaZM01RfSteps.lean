/- 6 texts of this claim, joined: what each shows stands at its own head. -/
import Derived.Test.YtlndihdlodempaaZM00RfSteps
import Derived.Test.YtlndihdlodempaaZXRun7
import Derived.Test.YtlndihdlodempaaZWord
import Derived.Test.YtlndihdlodempaaZFlat3
import Derived.Test.YtlndihdlodempaaZRun7
import Derived.Test.YtlndihdlodempaaZFin
/- Package rf: whatever the line. Written by genrf4.py. -/
set_option linter.unusedVariables false
set_option linter.unusedSimpArgs false
namespace Go.Proofs.Ytlndihdlodempaa.Z
open Go.RowKit

set_option maxHeartbeats 1600000 in
theorem rf_default {S0 : List Nat} {w0 w : World} {m a r : Nat} {rs rs2 : List Res} {s s2 : Rn} (H : RunHas S0 w0 m a r rs s w) {o l : Int} (hop : s.f.op = o) (hl : s.f.line = l)
    (h0 : ¬ (o = 1 ∧ l = 0)) (h1 : ¬ (o = 1 ∧ l = 1)) (h2 : ¬ (o = 2 ∧ l = 0)) (h3 : ¬ (o = 3 ∧ l = 0)) (h4 : ¬ (o = 3 ∧ l = 1)) (h5 : ¬ (o = 3 ∧ l = 2)) (h6 : ¬ (o = 4 ∧ l = 0)) (h7 : ¬ (o = 8 ∧ l = 0))
    (ht : ∀ W, RunHas S0 w0 m a r rs s W → Calls Try.prog 92 #[.pointer (some ⟨r, 0, none⟩)] W fun e w' => e = .returned (.tuple #[]) ∧ RunHas S0 w0 m a r rs2 s2 w') :
    Calls Try.prog 34 #[.pointer (some ⟨r, 0, none⟩)] w fun e w' => e = .returned (.tuple #[]) ∧ RunHas S0 w0 m a r rs2 s2 w' := by
  have HT := Lib.hid ht
  obtain ⟨z0, z2, z4, z5, z6, z7⟩ := H.facts hop hl rfl rfl
  have HH := Lib.hid H
  clear H ht
  go_enter Try.func34, Try.ntmps34
  go_wp2_with fail
  go_quiet (fail)
  have HW := HH.out.drewN nq
  clear z0 z2 z4 z5 z6 z7
  generalize w.drewN nq = W at HW ⊢
  obtain ⟨z0, z2, z4, z5, z6, z7⟩ := HW.facts hop hl rfl rfl
  go_wp2_with fail
  all_goals
    refine (HT.out _ HW).mono ?_
    rintro e w1 ⟨rfl, H1⟩
    go_wp2_with fail
    go_end0
    exact ⟨rfl, H1⟩

set_option maxHeartbeats 1600000 in
theorem rf_none {S0 : List Nat} {w0 w : World} {m a r : Nat} {rs : List Res} {s : Rn} (H : RunHas S0 w0 m a r rs s w) {o l : Int} (hop : s.f.op = o) (hl : s.f.line = l) (h0 : ¬ (o = 5 ∧ l = 0)) (h1 : ¬ (o = 6 ∧ l = 0)) (h2 : ¬ (o = 7 ∧ l = 0)) (h3 : ¬ (o = 5 ∧ l = 1)) (h4 : ¬ (o = 6 ∧ l = 1)) (h5 : ¬ (o = 7 ∧ l = 1)) :
    Calls Try.prog 92 #[.pointer (some ⟨r, 0, none⟩)] w fun e w' => e = .returned (.tuple #[]) ∧ RunHas S0 w0 m a r rs s w' := by
  have H0 := H.box rfl #[.pointer (some ⟨r, 0, none⟩)] 36
  obtain ⟨z0, z2, z4, z5, z6, z7⟩ := H.facts hop hl rfl rfl
  have HH := Lib.hid H0
  clear H H0
  go_enter Try.func92, Try.ntmps92
  go_wp2_with fail
  go_quiet (fail)
  have HW := HH.out.drewN nq
  clear z0 z2 z4 z5 z6 z7
  generalize w.heap.size = tb at HW ⊢
  generalize (World.drewN _ nq) = W at HW ⊢
  obtain ⟨z0, z2, z4, z5, z6, z7⟩ := HW.facts hop hl rfl rfl
  obtain ⟨u0, u1, u2⟩ := HW.first.own
  go_wp2_with fail
  all_goals
    go_end0
    exact ⟨rfl, HW.unbox⟩

/-- A step's lines of the lock in which readers go first. -/
def rfA (s : Rn) : Rn := if s.f.op = 1 ∧ s.f.line = 0 then rf10 s else if s.f.op = 1 ∧ s.f.line = 1 then rf11 s else if s.f.op = 2 ∧ s.f.line = 0 then rf20 s else if s.f.op = 3 ∧ s.f.line = 0 then rf30 s else if s.f.op = 3 ∧ s.f.line = 1 then rf31 s else if s.f.op = 3 ∧ s.f.line = 2 then rf32 s else if s.f.op = 4 ∧ s.f.line = 0 then rf40 s else if s.f.op = 8 ∧ s.f.line = 0 then rf80 s else if s.f.op = 5 ∧ s.f.line = 0 then rf50 s else if s.f.op = 6 ∧ s.f.line = 0 then rf60 s else if s.f.op = 7 ∧ s.f.line = 0 then rf70 s else if s.f.op = 5 ∧ s.f.line = 1 then rf51 s else if s.f.op = 6 ∧ s.f.line = 1 then rf61 s else if s.f.op = 7 ∧ s.f.line = 1 then rf71 s else s

theorem rf_lines {S0 : List Nat} {w0 w : World} {m a r : Nat} {rs : List Res} {s : Rn} (H : RunHas S0 w0 m a r rs s w) (hn : I64 s.n) (ha : 0 ≤ s.f.a ∧ s.f.a < 4294967296) (hc : s.notes.length ≤ 900) :
    Calls Try.prog 34 #[.pointer (some ⟨r, 0, none⟩)] w fun e w' => e = .returned (.tuple #[]) ∧ RunHas S0 w0 m a r rs (rfA s) w' := by
  unfold rfA
  by_cases h10 : s.f.op = 1 ∧ s.f.line = 0
  · rw [if_pos h10]; exact rf_10 H h10.1 h10.2 hn hc
  rw [if_neg h10]
  by_cases h11 : s.f.op = 1 ∧ s.f.line = 1
  · rw [if_pos h11]; exact rf_11 H h11.1 h11.2 hn hc
  rw [if_neg h11]
  by_cases h20 : s.f.op = 2 ∧ s.f.line = 0
  · rw [if_pos h20]; exact rf_20 H h20.1 h20.2 hn hc
  rw [if_neg h20]
  by_cases h30 : s.f.op = 3 ∧ s.f.line = 0
  · rw [if_pos h30]; exact rf_30 H h30.1 h30.2 hn hc
  rw [if_neg h30]
  by_cases h31 : s.f.op = 3 ∧ s.f.line = 1
  · rw [if_pos h31]; exact rf_31 H h31.1 h31.2 hn hc
  rw [if_neg h31]
  by_cases h32 : s.f.op = 3 ∧ s.f.line = 2
  · rw [if_pos h32]; exact rf_32 H h32.1 h32.2 hn hc
  rw [if_neg h32]
  by_cases h40 : s.f.op = 4 ∧ s.f.line = 0
  · rw [if_pos h40]; exact rf_40 H h40.1 h40.2 hn hc
  rw [if_neg h40]
  by_cases h80 : s.f.op = 8 ∧ s.f.line = 0
  · rw [if_pos h80]; exact rf_80 H h80.1 h80.2 hn hc
  rw [if_neg h80]
  refine rf_default H rfl rfl h10 h11 h20 h30 h31 h32 h40 h80 (fun W HW => ?_)
  by_cases h50 : s.f.op = 5 ∧ s.f.line = 0
  · rw [if_pos h50]; exact rf_50 HW h50.1 h50.2 hc
  rw [if_neg h50]
  by_cases h60 : s.f.op = 6 ∧ s.f.line = 0
  · rw [if_pos h60]; exact rf_60 HW h60.1 h60.2 hc
  rw [if_neg h60]
  by_cases h70 : s.f.op = 7 ∧ s.f.line = 0
  · rw [if_pos h70]; exact rf_70 HW h70.1 h70.2 hc
  rw [if_neg h70]
  by_cases h51 : s.f.op = 5 ∧ s.f.line = 1
  · rw [if_pos h51]; exact rf_51 HW h51.1 h51.2 ha hc
  rw [if_neg h51]
  by_cases h61 : s.f.op = 6 ∧ s.f.line = 1
  · rw [if_pos h61]; exact rf_61 HW h61.1 h61.2 hc
  rw [if_neg h61]
  by_cases h71 : s.f.op = 7 ∧ s.f.line = 1
  · rw [if_pos h71]; exact rf_71 HW h71.1 h71.2 hc
  rw [if_neg h71]
  exact rf_none HW rfl rfl h50 h60 h70 h51 h61 h71

theorem rf_lines_nil (w : World) : Calls Try.prog 34 #[.pointer none] w fun e w' => e = .returned (.tuple #[]) ∧ Touch [] w w' := by
  go_enter Try.func34, Try.ntmps34
  go_wp2
  refine bodyPost_ret (v := .tuple #[]) (by simp [results, Try.results34, go_sem]) rfl ⟨rfl, Touch.refl _ _⟩

end Go.Proofs.Ytlndihdlodempaa.Z

/- The document's lines of the lock in which readers go first. Written by genrfx.py. -/
set_option linter.unusedVariables false
set_option linter.unusedSimpArgs false
namespace Go.Proofs.Ytlndihdlodempaa.Z
open Go.RowKit

theorem rf_until : untilA 0 65536 0 = fun v => !rfIn v := by
  funext v
  simp only [untilA, rfIn, if_true, bne, Bool.not_not]

set_option maxHeartbeats 800000 in
set_option maxRecDepth 100000 in
theorem xrf_10 {S0 : List Nat} {w0 w : World} {p : Option Addr} {g cap x : Nat} {rs : List Res} {s : Rn} (H : XHas S0 w0 p g cap x rs s w) (hop : s.f.op = 1) (hl : s.f.line = 0) (ha : 0 ≤ s.f.a ∧ s.f.a < 4294967296) (hc : s.notes.length ≤ 900) :
    Calls Try.prog 35 #[.pointer (some ⟨x, 0, none⟩)] w fun e w' => e = .returned (.tuple #[]) ∧ XHas S0 w0 p g cap x rs (rf10 s) w' := by
  obtain ⟨z0, z2, z4, z5, z6, z7⟩ := H.facts hop hl rfl rfl
  have HC := Lib.hid hc
  have HA := Lib.hid ha
  have HH := Lib.hid H
  clear hc H ha
  unfold rf10
  cases hb : rfIn (doA s.L ⟨3, 0, 1, 0, 0⟩).1.old with
  | true =>
    have e1 : (bits .and .u32 (doA s.L ⟨3, 0, 1, 0, 0⟩).1.old 65536 == 0) = false := by unfold rfIn at hb; simpa using hb
    simp only [if_true]
    go_enter Try.func35, Try.ntmps35
    go_wp2_with fail
    go_quiet (fail)
    have HW := HH.out.drewN nq
    clear z0 z2 z4 z5 z6 z7
    generalize w.drewN nq = W at HW ⊢
    obtain ⟨z0, z2, z4, z5, z6, z7⟩ := HW.facts hop hl rfl rfl
    go_wp2_with fail
    refine (xn_add HW 0 1 (by decide)).mono ?_
    rintro e w1 ⟨rfl, H1⟩
    obtain ⟨x0, x2, x4, x5, x6, x7⟩ := H1.facts hop hl rfl rfl
    go_wp2_with fail
    refine (x_note (H1.setA (doA s.L ⟨3, 0, 1, 0, 0⟩).1.old) (by have := HC.out; first | exact Nat.le_trans this (by decide) | (simp [Rn.note, Rn.did, Rn.setA, Rn.setB, Rn.waited, Rn.goto, Rn.noted]; omega)) 2 1).mono ?_
    rintro e w2 ⟨rfl, H2⟩
    obtain ⟨x0, x2, x4, x5, x6, x7⟩ := H2.facts hop hl (y := (doA s.L ⟨3, 0, 1, 0, 0⟩).1.old) rfl rfl
    go_wp2_with fail
    go_end0
    exact ⟨rfl, (H2.goto 1)⟩
  | false =>
    have e1 : (bits .and .u32 (doA s.L ⟨3, 0, 1, 0, 0⟩).1.old 65536 == 0) = true := by unfold rfIn at hb; simpa using hb
    simp only [Bool.false_eq_true, if_false]
    go_enter Try.func35, Try.ntmps35
    go_wp2_with fail
    go_quiet (fail)
    have HW := HH.out.drewN nq
    clear z0 z2 z4 z5 z6 z7
    generalize w.drewN nq = W at HW ⊢
    obtain ⟨z0, z2, z4, z5, z6, z7⟩ := HW.facts hop hl rfl rfl
    go_wp2_with fail
    refine (xn_add HW 0 1 (by decide)).mono ?_
    rintro e w1 ⟨rfl, H1⟩
    obtain ⟨x0, x2, x4, x5, x6, x7⟩ := H1.facts hop hl rfl rfl
    go_wp2_with fail
    refine (x_note (H1.setA (doA s.L ⟨3, 0, 1, 0, 0⟩).1.old) (by have := HC.out; first | exact Nat.le_trans this (by decide) | (simp [Rn.note, Rn.did, Rn.setA, Rn.setB, Rn.waited, Rn.goto, Rn.noted]; omega)) 2 1).mono ?_
    rintro e w2 ⟨rfl, H2⟩
    obtain ⟨x0, x2, x4, x5, x6, x7⟩ := H2.facts hop hl (y := (doA s.L ⟨3, 0, 1, 0, 0⟩).1.old) rfl rfl
    go_wp2_with fail
    refine (x_note H2 (by have := HC.out; first | exact Nat.le_trans this (by decide) | (simp [Rn.note, Rn.did, Rn.setA, Rn.setB, Rn.waited, Rn.goto, Rn.noted]; omega)) 4 0).mono ?_
    rintro e w3 ⟨rfl, H3⟩
    go_wp2_with fail
    refine (xn_end H3 true).mono ?_
    rintro e w4 ⟨rfl, H4⟩
    go_wp2_with fail
    go_end0
    exact ⟨rfl, H4⟩

set_option maxHeartbeats 800000 in
set_option maxRecDepth 100000 in
theorem xrf_20 {S0 : List Nat} {w0 w : World} {p : Option Addr} {g cap x : Nat} {rs : List Res} {s : Rn} (H : XHas S0 w0 p g cap x rs s w) (hop : s.f.op = 2) (hl : s.f.line = 0) (ha : 0 ≤ s.f.a ∧ s.f.a < 4294967296) (hc : s.notes.length ≤ 900) :
    Calls Try.prog 35 #[.pointer (some ⟨x, 0, none⟩)] w fun e w' => e = .returned (.tuple #[]) ∧ XHas S0 w0 p g cap x rs (rf20 s) w' := by
  obtain ⟨z0, z2, z4, z5, z6, z7⟩ := H.facts hop hl rfl rfl
  have HC := Lib.hid hc
  have HA := Lib.hid ha
  have HH := Lib.hid H
  clear hc H ha
  unfold rf20
  go_enter Try.func35, Try.ntmps35
  go_wp2_with fail
  go_quiet (fail)
  have HW := HH.out.drewN nq
  clear z0 z2 z4 z5 z6 z7
  generalize w.drewN nq = W at HW ⊢
  obtain ⟨z0, z2, z4, z5, z6, z7⟩ := HW.facts hop hl rfl rfl
  go_wp2_with fail
  refine (xn_add HW 0 4294967295 (by decide)).mono ?_
  rintro e w1 ⟨rfl, H1⟩
  obtain ⟨x0, x2, x4, x5, x6, x7⟩ := H1.facts hop hl rfl rfl
  go_wp2_with fail
  refine (x_note H1 (by have := HC.out; first | exact Nat.le_trans this (by decide) | (simp [Rn.note, Rn.did, Rn.setA, Rn.setB, Rn.waited, Rn.goto, Rn.noted]; omega)) 6 0).mono ?_
  rintro e w2 ⟨rfl, H2⟩
  go_wp2_with fail
  refine (xn_wake H2 0).mono ?_
  rintro e w3 ⟨rfl, H3⟩
  go_wp2_with fail
  refine (xn_end H3 true).mono ?_
  rintro e w4 ⟨rfl, H4⟩
  go_wp2_with fail
  go_end0
  exact ⟨rfl, H4⟩

set_option maxHeartbeats 800000 in
set_option maxRecDepth 100000 in
theorem xrf_40 {S0 : List Nat} {w0 w : World} {p : Option Addr} {g cap x : Nat} {rs : List Res} {s : Rn} (H : XHas S0 w0 p g cap x rs s w) (hop : s.f.op = 4) (hl : s.f.line = 0) (ha : 0 ≤ s.f.a ∧ s.f.a < 4294967296) (hc : s.notes.length ≤ 900) :
    Calls Try.prog 35 #[.pointer (some ⟨x, 0, none⟩)] w fun e w' => e = .returned (.tuple #[]) ∧ XHas S0 w0 p g cap x rs (rf40 s) w' := by
  obtain ⟨z0, z2, z4, z5, z6, z7⟩ := H.facts hop hl rfl rfl
  have HC := Lib.hid hc
  have HA := Lib.hid ha
  have HH := Lib.hid H
  clear hc H ha
  unfold rf40
  go_enter Try.func35, Try.ntmps35
  go_wp2_with fail
  go_quiet (fail)
  have HW := HH.out.drewN nq
  clear z0 z2 z4 z5 z6 z7
  generalize w.drewN nq = W at HW ⊢
  obtain ⟨z0, z2, z4, z5, z6, z7⟩ := HW.facts hop hl rfl rfl
  go_wp2_with fail
  refine (xn_add HW 0 4294901760 (by decide)).mono ?_
  rintro e w1 ⟨rfl, H1⟩
  obtain ⟨x0, x2, x4, x5, x6, x7⟩ := H1.facts hop hl rfl rfl
  go_wp2_with fail
  refine (x_note H1 (by have := HC.out; first | exact Nat.le_trans this (by decide) | (simp [Rn.note, Rn.did, Rn.setA, Rn.setB, Rn.waited, Rn.goto, Rn.noted]; omega)) 7 0).mono ?_
  rintro e w2 ⟨rfl, H2⟩
  go_wp2_with fail
  refine (x_note H2 (by have := HC.out; first | exact Nat.le_trans this (by decide) | (simp [Rn.note, Rn.did, Rn.setA, Rn.setB, Rn.waited, Rn.goto, Rn.noted]; omega)) 8 0).mono ?_
  rintro e w3 ⟨rfl, H3⟩
  go_wp2_with fail
  refine (xn_wake H3 0).mono ?_
  rintro e w4 ⟨rfl, H4⟩
  go_wp2_with fail
  refine (xn_end H4 true).mono ?_
  rintro e w5 ⟨rfl, H5⟩
  go_wp2_with fail
  go_end0
  exact ⟨rfl, H5⟩

set_option maxHeartbeats 800000 in
set_option maxRecDepth 100000 in
theorem xrf_80 {S0 : List Nat} {w0 w : World} {p : Option Addr} {g cap x : Nat} {rs : List Res} {s : Rn} (H : XHas S0 w0 p g cap x rs s w) (hop : s.f.op = 8) (hl : s.f.line = 0) (ha : 0 ≤ s.f.a ∧ s.f.a < 4294967296) (hc : s.notes.length ≤ 900) :
    Calls Try.prog 35 #[.pointer (some ⟨x, 0, none⟩)] w fun e w' => e = .returned (.tuple #[]) ∧ XHas S0 w0 p g cap x rs (rf80 s) w' := by
  obtain ⟨z0, z2, z4, z5, z6, z7⟩ := H.facts hop hl rfl rfl
  have HC := Lib.hid hc
  have HA := Lib.hid ha
  have HH := Lib.hid H
  clear hc H ha
  unfold rf80
  go_enter Try.func35, Try.ntmps35
  go_wp2_with fail
  go_quiet (fail)
  have HW := HH.out.drewN nq
  clear z0 z2 z4 z5 z6 z7
  generalize w.drewN nq = W at HW ⊢
  obtain ⟨z0, z2, z4, z5, z6, z7⟩ := HW.facts hop hl rfl rfl
  go_wp2_with fail
  refine (xn_add HW 0 4294901761 (by decide)).mono ?_
  rintro e w1 ⟨rfl, H1⟩
  obtain ⟨x0, x2, x4, x5, x6, x7⟩ := H1.facts hop hl rfl rfl
  go_wp2_with fail
  refine (x_note H1 (by have := HC.out; first | exact Nat.le_trans this (by decide) | (simp [Rn.note, Rn.did, Rn.setA, Rn.setB, Rn.waited, Rn.goto, Rn.noted]; omega)) 10 0).mono ?_
  rintro e w2 ⟨rfl, H2⟩
  go_wp2_with fail
  refine (xn_wake H2 0).mono ?_
  rintro e w3 ⟨rfl, H3⟩
  go_wp2_with fail
  refine (xn_end H3 true).mono ?_
  rintro e w4 ⟨rfl, H4⟩
  go_wp2_with fail
  go_end0
  exact ⟨rfl, H4⟩

theorem rf_until0 {v : Int} (h : 0 ≤ v ∧ v < 4294967296) : untilA 0 4294967295 0 v = (v == 0) := by
  obtain ⟨n, rfl⟩ : ∃ n : Nat, v = n := ⟨v.toNat, by omega⟩
  show (bits .and .u32 (n : Int) 4294967295 == 0) = _
  have h1 := ZB.bits_and n 4294967295 (by omega) (by decide)
  have h2 : n &&& 4294967295 = n := by
    rw [show (4294967295 : Nat) = 2 ^ 32 - 1 from rfl, Nat.and_two_pow_sub_one_eq_mod]
    omega
  rw [h2] at h1
  rw [show ((4294967295 : Nat) : Int) = 4294967295 from rfl] at h1
  rw [h1]
/-- A wait looks at a word: what else is so elsewhere doesn't matter. -/
theorem waitA_congr {L : List Int} {n mode task st c : Int} {p q : Int → Bool} (hw : Words L) (h : ∀ v, 0 ≤ v ∧ v < 4294967296 → p v = q v) : waitA L n mode task st c p = waitA L n mode task st c q := by
  have h1 := fun b => h _ (doA_old L hw b)
  unfold waitA
  simp only [h1]
theorem XHas.words {S0 : List Nat} {w0 w : World} {p : Option Addr} {g cap x : Nat} {rs : List Res} {s : Rn} (H : XHas S0 w0 p g cap x rs s w) : Words s.L := by
  obtain ⟨nv, H⟩ := H
  exact H.row.words

set_option maxHeartbeats 800000 in
set_option maxRecDepth 100000 in
theorem xrf_11 {S0 : List Nat} {w0 w : World} {p : Option Addr} {g cap x : Nat} {rs : List Res} {s : Rn} (H : XHas S0 w0 p g cap x rs s w) (hop : s.f.op = 1) (hl : s.f.line = 1) (ha : 0 ≤ s.f.a ∧ s.f.a < 4294967296) (hc : s.notes.length ≤ 900) :
    Calls Try.prog 35 #[.pointer (some ⟨x, 0, none⟩)] w fun e w' => e = .returned (.tuple #[]) ∧ XHas S0 w0 p g cap x rs (rf11 s) w' := by
  obtain ⟨z0, z2, z4, z5, z6, z7⟩ := H.facts hop hl rfl rfl
  have HC := Lib.hid hc
  have HA := Lib.hid ha
  have HH := Lib.hid H
  clear hc H ha
  unfold rf11
  have hwt := fun W (H : XHas S0 w0 p g cap x rs s W) => xn_wait H 0 0 65536 0
  rw [rf_until] at hwt
  cases hs : (waitA s.L s.n s.mode s.task s.f.st 0 (fun v => !rfIn v)).seen <;> cases hd : (waitA s.L s.n s.mode s.task s.f.st 0 (fun v => !rfIn v)).done <;> rw [hs, hd] at hwt <;> simp only [if_true, Bool.false_eq_true, if_false] <;> (have HWT := Lib.hid hwt) <;> clear hwt hs hd
  · go_enter Try.func35, Try.ntmps35
    go_wp2_with fail
    go_quiet (fail)
    have HW := HH.out.drewN nq
    clear z0 z2 z4 z5 z6 z7
    generalize w.drewN nq = W at HW ⊢
    obtain ⟨z0, z2, z4, z5, z6, z7⟩ := HW.facts hop hl rfl rfl
    go_wp2_with fail
    refine (HWT.out _ HW).mono ?_
    rintro e w1 ⟨rfl, H1⟩
    obtain ⟨x0, x2, x4, x5, x6, x7⟩ := H1.facts hop hl rfl rfl
    go_wp2_with fail
    go_end0
    exact ⟨rfl, H1⟩
  · go_enter Try.func35, Try.ntmps35
    go_wp2_with fail
    go_quiet (fail)
    have HW := HH.out.drewN nq
    clear z0 z2 z4 z5 z6 z7
    generalize w.drewN nq = W at HW ⊢
    obtain ⟨z0, z2, z4, z5, z6, z7⟩ := HW.facts hop hl rfl rfl
    go_wp2_with fail
    refine (HWT.out _ HW).mono ?_
    rintro e w1 ⟨rfl, H1⟩
    obtain ⟨x0, x2, x4, x5, x6, x7⟩ := H1.facts hop hl rfl rfl
    go_wp2_with fail
    refine (xn_end H1 true).mono ?_
    rintro e w2 ⟨rfl, H2⟩
    go_wp2_with fail
    go_end0
    exact ⟨rfl, H2⟩
  · go_enter Try.func35, Try.ntmps35
    go_wp2_with fail
    go_quiet (fail)
    have HW := HH.out.drewN nq
    clear z0 z2 z4 z5 z6 z7
    generalize w.drewN nq = W at HW ⊢
    obtain ⟨z0, z2, z4, z5, z6, z7⟩ := HW.facts hop hl rfl rfl
    go_wp2_with fail
    refine (HWT.out _ HW).mono ?_
    rintro e w1 ⟨rfl, H1⟩
    obtain ⟨x0, x2, x4, x5, x6, x7⟩ := H1.facts hop hl rfl rfl
    go_wp2_with fail
    refine (x_note H1 (by have := HC.out; first | exact Nat.le_trans this (by decide) | (simp [Rn.note, Rn.did, Rn.setA, Rn.setB, Rn.waited, Rn.goto, Rn.noted]; omega)) 4 0).mono ?_
    rintro e w2 ⟨rfl, H2⟩
    go_wp2_with fail
    go_end0
    exact ⟨rfl, H2⟩
  · go_enter Try.func35, Try.ntmps35
    go_wp2_with fail
    go_quiet (fail)
    have HW := HH.out.drewN nq
    clear z0 z2 z4 z5 z6 z7
    generalize w.drewN nq = W at HW ⊢
    obtain ⟨z0, z2, z4, z5, z6, z7⟩ := HW.facts hop hl rfl rfl
    go_wp2_with fail
    refine (HWT.out _ HW).mono ?_
    rintro e w1 ⟨rfl, H1⟩
    obtain ⟨x0, x2, x4, x5, x6, x7⟩ := H1.facts hop hl rfl rfl
    go_wp2_with fail
    refine (x_note H1 (by have := HC.out; first | exact Nat.le_trans this (by decide) | (simp [Rn.note, Rn.did, Rn.setA, Rn.setB, Rn.waited, Rn.goto, Rn.noted]; omega)) 4 0).mono ?_
    rintro e w2 ⟨rfl, H2⟩
    obtain ⟨x0, x2, x4, x5, x6, x7⟩ := H2.facts hop hl rfl rfl
    go_wp2_with fail
    refine (xn_end H2 true).mono ?_
    rintro e w3 ⟨rfl, H3⟩
    go_wp2_with fail
    go_end0
    exact ⟨rfl, H3⟩

set_option maxHeartbeats 800000 in
set_option maxRecDepth 100000 in
theorem xrf_32 {S0 : List Nat} {w0 w : World} {p : Option Addr} {g cap x : Nat} {rs : List Res} {s : Rn} (H : XHas S0 w0 p g cap x rs s w) (hop : s.f.op = 3) (hl : s.f.line = 2) (ha : 0 ≤ s.f.a ∧ s.f.a < 4294967296) (hc : s.notes.length ≤ 900) :
    Calls Try.prog 35 #[.pointer (some ⟨x, 0, none⟩)] w fun e w' => e = .returned (.tuple #[]) ∧ XHas S0 w0 p g cap x rs (rf32 s) w' := by
  obtain ⟨z0, z2, z4, z5, z6, z7⟩ := H.facts hop hl rfl rfl
  have HC := Lib.hid hc
  have HA := Lib.hid ha
  have HH := Lib.hid H
  clear hc H ha
  unfold rf32
  have hwt := fun W (H : XHas S0 w0 p g cap x rs s W) => xn_wait H 0 0 4294967295 0
  rw [waitA_congr (q := fun v => v == 0) HH.out.words (fun v hv => rf_until0 hv)] at hwt
  cases hs : (waitA s.L s.n s.mode s.task s.f.st 0 (fun v => v == 0)).seen <;> cases hd : (waitA s.L s.n s.mode s.task s.f.st 0 (fun v => v == 0)).done <;> rw [hs, hd] at hwt <;> simp only [if_true, Bool.false_eq_true, if_false] <;> (have HWT := Lib.hid hwt) <;> clear hwt hs hd
  · go_enter Try.func35, Try.ntmps35
    go_wp2_with fail
    go_quiet (fail)
    have HW := HH.out.drewN nq
    clear z0 z2 z4 z5 z6 z7
    generalize w.drewN nq = W at HW ⊢
    obtain ⟨z0, z2, z4, z5, z6, z7⟩ := HW.facts hop hl rfl rfl
    go_wp2_with fail
    refine (HWT.out _ HW).mono ?_
    rintro e w1 ⟨rfl, H1⟩
    obtain ⟨x0, x2, x4, x5, x6, x7⟩ := H1.facts hop hl rfl rfl
    go_wp2_with fail
    go_end0
    exact ⟨rfl, H1⟩
  · go_enter Try.func35, Try.ntmps35
    go_wp2_with fail
    go_quiet (fail)
    have HW := HH.out.drewN nq
    clear z0 z2 z4 z5 z6 z7
    generalize w.drewN nq = W at HW ⊢
    obtain ⟨z0, z2, z4, z5, z6, z7⟩ := HW.facts hop hl rfl rfl
    go_wp2_with fail
    refine (HWT.out _ HW).mono ?_
    rintro e w1 ⟨rfl, H1⟩
    obtain ⟨x0, x2, x4, x5, x6, x7⟩ := H1.facts hop hl rfl rfl
    go_wp2_with fail
    go_end0
    exact ⟨rfl, (H1.goto 1)⟩
  · go_enter Try.func35, Try.ntmps35
    go_wp2_with fail
    go_quiet (fail)
    have HW := HH.out.drewN nq
    clear z0 z2 z4 z5 z6 z7
    generalize w.drewN nq = W at HW ⊢
    obtain ⟨z0, z2, z4, z5, z6, z7⟩ := HW.facts hop hl rfl rfl
    go_wp2_with fail
    refine (HWT.out _ HW).mono ?_
    rintro e w1 ⟨rfl, H1⟩
    obtain ⟨x0, x2, x4, x5, x6, x7⟩ := H1.facts hop hl rfl rfl
    go_wp2_with fail
    go_end0
    exact ⟨rfl, H1⟩
  · go_enter Try.func35, Try.ntmps35
    go_wp2_with fail
    go_quiet (fail)
    have HW := HH.out.drewN nq
    clear z0 z2 z4 z5 z6 z7
    generalize w.drewN nq = W at HW ⊢
    obtain ⟨z0, z2, z4, z5, z6, z7⟩ := HW.facts hop hl rfl rfl
    go_wp2_with fail
    refine (HWT.out _ HW).mono ?_
    rintro e w1 ⟨rfl, H1⟩
    obtain ⟨x0, x2, x4, x5, x6, x7⟩ := H1.facts hop hl rfl rfl
    go_wp2_with fail
    go_end0
    exact ⟨rfl, (H1.goto 1)⟩

set_option maxHeartbeats 800000 in
set_option maxRecDepth 100000 in
theorem xrf_30 {S0 : List Nat} {w0 w : World} {p : Option Addr} {g cap x : Nat} {rs : List Res} {s : Rn} (H : XHas S0 w0 p g cap x rs s w) (hop : s.f.op = 3) (hl : s.f.line = 0) (ha : 0 ≤ s.f.a ∧ s.f.a < 4294967296) (hc : s.notes.length ≤ 900) :
    Calls Try.prog 35 #[.pointer (some ⟨x, 0, none⟩)] w fun e w' => e = .returned (.tuple #[]) ∧ XHas S0 w0 p g cap x rs (rf30 s) w' := by
  obtain ⟨z0, z2, z4, z5, z6, z7⟩ := H.facts hop hl rfl rfl
  have HC := Lib.hid hc
  have HA := Lib.hid ha
  have HH := Lib.hid H
  clear hc H ha
  unfold rf30
  by_cases hv : (doA s.L ⟨1, 0, 0, 0, 0⟩).1.old = 0
  · have e1 : ((doA s.L ⟨1, 0, 0, 0, 0⟩).1.old == 0) = true := by simpa using hv
    simp only [if_pos hv]
    clear hv
    go_enter Try.func35, Try.ntmps35
    go_wp2_with fail
    go_quiet (fail)
    have HW := HH.out.drewN nq
    clear z0 z2 z4 z5 z6 z7
    generalize w.drewN nq = W at HW ⊢
    obtain ⟨z0, z2, z4, z5, z6, z7⟩ := HW.facts hop hl rfl rfl
    go_wp2_with fail
    refine (xn_load HW 0).mono ?_
    rintro e w1 ⟨rfl, H1⟩
    obtain ⟨x0, x2, x4, x5, x6, x7⟩ := H1.facts hop hl rfl rfl
    go_wp2_with fail
    refine (x_note (H1.setA (doA s.L ⟨1, 0, 0, 0, 0⟩).1.old) (by have := HC.out; first | exact Nat.le_trans this (by decide) | (simp [Rn.note, Rn.did, Rn.setA, Rn.setB, Rn.waited, Rn.goto, Rn.noted]; omega)) 2 2).mono ?_
    rintro e w2 ⟨rfl, H2⟩
    obtain ⟨x0, x2, x4, x5, x6, x7⟩ := H2.facts hop hl (y := (doA s.L ⟨1, 0, 0, 0, 0⟩).1.old) rfl rfl
    go_wp2_with fail
    go_end0
    exact ⟨rfl, ((H2.goto 2).goto 1)⟩
  · have e1 : ((doA s.L ⟨1, 0, 0, 0, 0⟩).1.old == 0) = false := by simpa using hv
    simp only [if_neg hv]
    clear hv
    go_enter Try.func35, Try.ntmps35
    go_wp2_with fail
    go_quiet (fail)
    have HW := HH.out.drewN nq
    clear z0 z2 z4 z5 z6 z7
    generalize w.drewN nq = W at HW ⊢
    obtain ⟨z0, z2, z4, z5, z6, z7⟩ := HW.facts hop hl rfl rfl
    go_wp2_with fail
    refine (xn_load HW 0).mono ?_
    rintro e w1 ⟨rfl, H1⟩
    obtain ⟨x0, x2, x4, x5, x6, x7⟩ := H1.facts hop hl rfl rfl
    go_wp2_with fail
    refine (x_note (H1.setA (doA s.L ⟨1, 0, 0, 0, 0⟩).1.old) (by have := HC.out; first | exact Nat.le_trans this (by decide) | (simp [Rn.note, Rn.did, Rn.setA, Rn.setB, Rn.waited, Rn.goto, Rn.noted]; omega)) 2 2).mono ?_
    rintro e w2 ⟨rfl, H2⟩
    obtain ⟨x0, x2, x4, x5, x6, x7⟩ := H2.facts hop hl (y := (doA s.L ⟨1, 0, 0, 0, 0⟩).1.old) rfl rfl
    go_wp2_with fail
    go_end0
    exact ⟨rfl, (H2.goto 2)⟩

theorem XHas.back {S0 : List Nat} {w0 w : World} {p : Option Addr} {g cap x : Nat} {rs : List Res} {s : Rn} {R : Acc × Bool × List Int} {k l : Int} (H : XHas S0 w0 p g cap x rs ((s.goto k).did R) w) (h : s.f.line = l) : XHas S0 w0 p g cap x rs (s.did R) (w.setCell ⟨x, 5, none⟩ (.int .i64 l)) := by
  have e : ((s.goto k).did R).goto l = s.did R := by
    obtain ⟨n, mode, task, ⟨op, line, fa, fb, st, wk, ret⟩, acc, notes, L⟩ := s
    simp only at h
    subst h
    rfl
  rw [← e]
  exact H.goto l

set_option maxHeartbeats 800000 in
set_option maxRecDepth 100000 in
theorem xrf_31 {S0 : List Nat} {w0 w : World} {p : Option Addr} {g cap x : Nat} {rs : List Res} {s : Rn} (H : XHas S0 w0 p g cap x rs s w) (hop : s.f.op = 3) (hl : s.f.line = 1) (ha : 0 ≤ s.f.a ∧ s.f.a < 4294967296) (hc : s.notes.length ≤ 900) :
    Calls Try.prog 35 #[.pointer (some ⟨x, 0, none⟩)] w fun e w' => e = .returned (.tuple #[]) ∧ XHas S0 w0 p g cap x rs (rf31 s) w' := by
  obtain ⟨z0, z2, z4, z5, z6, z7⟩ := H.facts hop hl rfl rfl
  have HC := Lib.hid hc
  have HA := Lib.hid ha
  have HH := Lib.hid H
  clear hc H ha
  unfold rf31
  have hcas : ∀ W, XHas S0 w0 p g cap x rs (s.goto 2) W → Calls Try.prog 67 #[.pointer (some ⟨x, 0, none⟩), .int .i64 0, .int .u32 0, .int .u32 65536] W fun e w' => e = .returned (.bool (casB s.L 0 0 65536)) ∧ XHas S0 w0 p g cap x rs ((s.goto 2).did (doA s.L ⟨5, 0, 0, 65536, 0⟩)) w' := fun W H => xn_cas H 0 0 65536 (by decide) (by decide)
  cases hb : casB s.L 0 0 65536 <;> rw [hb] at hcas <;> simp only [if_true, Bool.false_eq_true, if_false] <;> (have HCAS := Lib.hid hcas) <;> clear hcas hb
  · go_enter Try.func35, Try.ntmps35
    go_wp2_with fail
    go_quiet (fail)
    have HW := HH.out.drewN nq
    clear z0 z2 z4 z5 z6 z7
    generalize w.drewN nq = W at HW ⊢
    obtain ⟨z0, z2, z4, z5, z6, z7⟩ := HW.facts hop hl rfl rfl
    go_wp2_with fail
    refine (HCAS.out _ (HW.goto 2)).mono ?_
    rintro e w1 ⟨rfl, H1⟩
    obtain ⟨x0, x2, x4, x5, x6, x7⟩ := H1.facts hop (l := 2) rfl rfl rfl
    go_wp2_with fail
    go_end0
    exact ⟨rfl, H1⟩
  · go_enter Try.func35, Try.ntmps35
    go_wp2_with fail
    go_quiet (fail)
    have HW := HH.out.drewN nq
    clear z0 z2 z4 z5 z6 z7
    generalize w.drewN nq = W at HW ⊢
    obtain ⟨z0, z2, z4, z5, z6, z7⟩ := HW.facts hop hl rfl rfl
    go_wp2_with fail
    refine (HCAS.out _ (HW.goto 2)).mono ?_
    rintro e w1 ⟨rfl, H1⟩
    obtain ⟨x0, x2, x4, x5, x6, x7⟩ := H1.facts hop (l := 2) rfl rfl rfl
    go_wp2_with fail
    refine (x_note (H1.back hl) (by have := HC.out; first | exact Nat.le_trans this (by decide) | (simp [Rn.note, Rn.did, Rn.setA, Rn.setB, Rn.waited, Rn.goto, Rn.noted]; omega)) 4 0).mono ?_
    rintro e w2 ⟨rfl, H2⟩
    go_wp2_with fail
    refine (xn_end H2 true).mono ?_
    rintro e w3 ⟨rfl, H3⟩
    go_wp2_with fail
    go_end0
    exact ⟨rfl, H3⟩

set_option maxHeartbeats 800000 in
set_option maxRecDepth 100000 in
theorem xrf_61 {S0 : List Nat} {w0 w : World} {p : Option Addr} {g cap x : Nat} {rs : List Res} {s : Rn} (H : XHas S0 w0 p g cap x rs s w) (hop : s.f.op = 6) (hl : s.f.line = 1) (ha : 0 ≤ s.f.a ∧ s.f.a < 4294967296) (hc : s.notes.length ≤ 900) :
    Calls Try.prog 35 #[.pointer (some ⟨x, 0, none⟩)] w fun e w' => e = .returned (.tuple #[]) ∧ XHas S0 w0 p g cap x rs (rf61 s) w' := by
  obtain ⟨z0, z2, z4, z5, z6, z7⟩ := H.facts hop hl rfl rfl
  have HC := Lib.hid hc
  have HA := Lib.hid ha
  have HH := Lib.hid H
  clear hc H ha
  unfold rf61
  have hcas : ∀ W, XHas S0 w0 p g cap x rs (s.goto 0) W → Calls Try.prog 67 #[.pointer (some ⟨x, 0, none⟩), .int .i64 0, .int .u32 0, .int .u32 65536] W fun e w' => e = .returned (.bool (casB s.L 0 0 65536)) ∧ XHas S0 w0 p g cap x rs ((s.goto 0).did (doA s.L ⟨5, 0, 0, 65536, 0⟩)) w' := fun W H => xn_cas H 0 0 65536 (by decide) (by decide)
  unfold Rn.swapped
  cases hb : casB s.L 0 0 65536 <;> rw [hb] at hcas <;> simp only [if_true, Bool.false_eq_true, if_false] <;> (have HCAS := Lib.hid hcas) <;> clear hcas hb
  · go_enter Try.func35, Try.ntmps35
    go_wp2_with fail
    go_quiet (fail)
    have HW := HH.out.drewN nq
    clear z0 z2 z4 z5 z6 z7
    generalize w.drewN nq = W at HW ⊢
    obtain ⟨z0, z2, z4, z5, z6, z7⟩ := HW.facts hop hl rfl rfl
    go_wp2_with fail
    refine (HCAS.out _ (HW.goto 0)).mono ?_
    rintro e w1 ⟨rfl, H1⟩
    obtain ⟨x0, x2, x4, x5, x6, x7⟩ := H1.facts hop (l := 0) rfl rfl rfl
    go_wp2_with fail
    go_end0
    exact ⟨rfl, H1⟩
  · go_enter Try.func35, Try.ntmps35
    go_wp2_with fail
    go_quiet (fail)
    have HW := HH.out.drewN nq
    clear z0 z2 z4 z5 z6 z7
    generalize w.drewN nq = W at HW ⊢
    obtain ⟨z0, z2, z4, z5, z6, z7⟩ := HW.facts hop hl rfl rfl
    go_wp2_with fail
    refine (HCAS.out _ (HW.goto 0)).mono ?_
    rintro e w1 ⟨rfl, H1⟩
    obtain ⟨x0, x2, x4, x5, x6, x7⟩ := H1.facts hop (l := 0) rfl rfl rfl
    go_wp2_with fail
    refine (x_note (H1.back hl) (by have := HC.out; first | exact Nat.le_trans this (by decide) | (simp [Rn.note, Rn.did, Rn.setA, Rn.setB, Rn.waited, Rn.goto, Rn.noted]; omega)) 2 2).mono ?_
    rintro e w2 ⟨rfl, H2⟩
    go_wp2_with fail
    refine (x_note H2 (by have := HC.out; first | exact Nat.le_trans this (by decide) | (simp [Rn.note, Rn.did, Rn.setA, Rn.setB, Rn.waited, Rn.goto, Rn.noted]; omega)) 4 0).mono ?_
    rintro e w3 ⟨rfl, H3⟩
    go_wp2_with fail
    refine (xn_end H3 true).mono ?_
    rintro e w4 ⟨rfl, H4⟩
    go_wp2_with fail
    go_end0
    exact ⟨rfl, H4⟩

set_option maxHeartbeats 800000 in
set_option maxRecDepth 100000 in
theorem xrf_71 {S0 : List Nat} {w0 w : World} {p : Option Addr} {g cap x : Nat} {rs : List Res} {s : Rn} (H : XHas S0 w0 p g cap x rs s w) (hop : s.f.op = 7) (hl : s.f.line = 1) (ha : 0 ≤ s.f.a ∧ s.f.a < 4294967296) (hc : s.notes.length ≤ 900) :
    Calls Try.prog 35 #[.pointer (some ⟨x, 0, none⟩)] w fun e w' => e = .returned (.tuple #[]) ∧ XHas S0 w0 p g cap x rs (rf71 s) w' := by
  obtain ⟨z0, z2, z4, z5, z6, z7⟩ := H.facts hop hl rfl rfl
  have HC := Lib.hid hc
  have HA := Lib.hid ha
  have HH := Lib.hid H
  clear hc H ha
  unfold rf71
  have hcas : ∀ W, XHas S0 w0 p g cap x rs (s.goto 0) W → Calls Try.prog 67 #[.pointer (some ⟨x, 0, none⟩), .int .i64 0, .int .u32 1, .int .u32 65536] W fun e w' => e = .returned (.bool (casB s.L 0 1 65536)) ∧ XHas S0 w0 p g cap x rs ((s.goto 0).did (doA s.L ⟨5, 0, 1, 65536, 0⟩)) w' := fun W H => xn_cas H 0 1 65536 (by decide) (by decide)
  unfold Rn.swapped
  cases hb : casB s.L 0 1 65536 <;> rw [hb] at hcas <;> simp only [if_true, Bool.false_eq_true, if_false] <;> (have HCAS := Lib.hid hcas) <;> clear hcas hb
  · go_enter Try.func35, Try.ntmps35
    go_wp2_with fail
    go_quiet (fail)
    have HW := HH.out.drewN nq
    clear z0 z2 z4 z5 z6 z7
    generalize w.drewN nq = W at HW ⊢
    obtain ⟨z0, z2, z4, z5, z6, z7⟩ := HW.facts hop hl rfl rfl
    go_wp2_with fail
    refine (HCAS.out _ (HW.goto 0)).mono ?_
    rintro e w1 ⟨rfl, H1⟩
    obtain ⟨x0, x2, x4, x5, x6, x7⟩ := H1.facts hop (l := 0) rfl rfl rfl
    go_wp2_with fail
    go_end0
    exact ⟨rfl, H1⟩
  · go_enter Try.func35, Try.ntmps35
    go_wp2_with fail
    go_quiet (fail)
    have HW := HH.out.drewN nq
    clear z0 z2 z4 z5 z6 z7
    generalize w.drewN nq = W at HW ⊢
    obtain ⟨z0, z2, z4, z5, z6, z7⟩ := HW.facts hop hl rfl rfl
    go_wp2_with fail
    refine (HCAS.out _ (HW.goto 0)).mono ?_
    rintro e w1 ⟨rfl, H1⟩
    obtain ⟨x0, x2, x4, x5, x6, x7⟩ := H1.facts hop (l := 0) rfl rfl rfl
    go_wp2_with fail
    refine (x_note (H1.back hl) (by have := HC.out; first | exact Nat.le_trans this (by decide) | (simp [Rn.note, Rn.did, Rn.setA, Rn.setB, Rn.waited, Rn.goto, Rn.noted]; omega)) 9 0).mono ?_
    rintro e w2 ⟨rfl, H2⟩
    go_wp2_with fail
    refine (xn_end H2 true).mono ?_
    rintro e w3 ⟨rfl, H3⟩
    go_wp2_with fail
    go_end0
    exact ⟨rfl, H3⟩

set_option maxHeartbeats 800000 in
set_option maxRecDepth 100000 in
theorem xrf_50 {S0 : List Nat} {w0 w : World} {p : Option Addr} {g cap x : Nat} {rs : List Res} {s : Rn} (H : XHas S0 w0 p g cap x rs s w) (hop : s.f.op = 5) (hl : s.f.line = 0) (ha : 0 ≤ s.f.a ∧ s.f.a < 4294967296) (hc : s.notes.length ≤ 900) :
    Calls Try.prog 35 #[.pointer (some ⟨x, 0, none⟩)] w fun e w' => e = .returned (.tuple #[]) ∧ XHas S0 w0 p g cap x rs (rf50 s) w' := by
  obtain ⟨z0, z2, z4, z5, z6, z7⟩ := H.facts hop hl rfl rfl
  have HC := Lib.hid hc
  have HA := Lib.hid ha
  have HH := Lib.hid H
  clear hc H ha
  unfold rf50
  unfold Rn.chosen
  cases hb : (!rfIn (doA s.L ⟨1, 0, 0, 0, 0⟩).1.old) with
  | true =>
    have e1 : (bits .and .u32 (doA s.L ⟨1, 0, 0, 0, 0⟩).1.old 65536 == 0) = true := by unfold rfIn at hb; simpa using hb
    simp only [hb, if_true]
    clear hb
    go_enter Try.func35, Try.ntmps35
    go_wp2_with fail
    go_quiet (fail)
    have HW := HH.out.drewN nq
    clear z0 z2 z4 z5 z6 z7
    generalize w.drewN nq = W at HW ⊢
    obtain ⟨z0, z2, z4, z5, z6, z7⟩ := HW.facts hop hl rfl rfl
    go_wp2_with fail
    refine (xn_load HW 0).mono ?_
    rintro e w1 ⟨rfl, H1⟩
    obtain ⟨x0, x2, x4, x5, x6, x7⟩ := H1.facts hop hl rfl rfl
    go_wp2_with fail
    go_end0
    exact ⟨rfl, ((H1.setA (doA s.L ⟨1, 0, 0, 0, 0⟩).1.old).goto 1)⟩
  | false =>
    have e1 : (bits .and .u32 (doA s.L ⟨1, 0, 0, 0, 0⟩).1.old 65536 == 0) = false := by unfold rfIn at hb; simpa using hb
    simp only [hb, Bool.false_eq_true, if_false]
    clear hb
    go_enter Try.func35, Try.ntmps35
    go_wp2_with fail
    go_quiet (fail)
    have HW := HH.out.drewN nq
    clear z0 z2 z4 z5 z6 z7
    generalize w.drewN nq = W at HW ⊢
    obtain ⟨z0, z2, z4, z5, z6, z7⟩ := HW.facts hop hl rfl rfl
    go_wp2_with fail
    refine (xn_load HW 0).mono ?_
    rintro e w1 ⟨rfl, H1⟩
    obtain ⟨x0, x2, x4, x5, x6, x7⟩ := H1.facts hop hl rfl rfl
    go_wp2_with fail
    refine (x_note (H1.setA (doA s.L ⟨1, 0, 0, 0, 0⟩).1.old) (by have := HC.out; first | exact Nat.le_trans this (by decide) | (simp [Rn.note, Rn.did, Rn.setA, Rn.setB, Rn.waited, Rn.goto, Rn.noted]; omega)) 5 0).mono ?_
    rintro e w2 ⟨rfl, H2⟩
    go_wp2_with fail
    refine (xn_end H2 false).mono ?_
    rintro e w3 ⟨rfl, H3⟩
    go_wp2_with fail
    go_end0
    exact ⟨rfl, H3⟩

set_option maxHeartbeats 800000 in
set_option maxRecDepth 100000 in
theorem xrf_60 {S0 : List Nat} {w0 w : World} {p : Option Addr} {g cap x : Nat} {rs : List Res} {s : Rn} (H : XHas S0 w0 p g cap x rs s w) (hop : s.f.op = 6) (hl : s.f.line = 0) (ha : 0 ≤ s.f.a ∧ s.f.a < 4294967296) (hc : s.notes.length ≤ 900) :
    Calls Try.prog 35 #[.pointer (some ⟨x, 0, none⟩)] w fun e w' => e = .returned (.tuple #[]) ∧ XHas S0 w0 p g cap x rs (rf60 s) w' := by
  obtain ⟨z0, z2, z4, z5, z6, z7⟩ := H.facts hop hl rfl rfl
  have HC := Lib.hid hc
  have HA := Lib.hid ha
  have HH := Lib.hid H
  clear hc H ha
  unfold rf60
  unfold Rn.chosen
  cases hb : ((doA s.L ⟨1, 0, 0, 0, 0⟩).1.old == 0) with
  | true =>
    have e1 : ((doA s.L ⟨1, 0, 0, 0, 0⟩).1.old == 0) = true := hb
    simp only [hb, if_true]
    clear hb
    go_enter Try.func35, Try.ntmps35
    go_wp2_with fail
    go_quiet (fail)
    have HW := HH.out.drewN nq
    clear z0 z2 z4 z5 z6 z7
    generalize w.drewN nq = W at HW ⊢
    obtain ⟨z0, z2, z4, z5, z6, z7⟩ := HW.facts hop hl rfl rfl
    go_wp2_with fail
    refine (xn_load HW 0).mono ?_
    rintro e w1 ⟨rfl, H1⟩
    obtain ⟨x0, x2, x4, x5, x6, x7⟩ := H1.facts hop hl rfl rfl
    go_wp2_with fail
    go_end0
    exact ⟨rfl, ((H1.setA (doA s.L ⟨1, 0, 0, 0, 0⟩).1.old).goto 1)⟩
  | false =>
    have e1 : ((doA s.L ⟨1, 0, 0, 0, 0⟩).1.old == 0) = false := hb
    simp only [hb, Bool.false_eq_true, if_false]
    clear hb
    go_enter Try.func35, Try.ntmps35
    go_wp2_with fail
    go_quiet (fail)
    have HW := HH.out.drewN nq
    clear z0 z2 z4 z5 z6 z7
    generalize w.drewN nq = W at HW ⊢
    obtain ⟨z0, z2, z4, z5, z6, z7⟩ := HW.facts hop hl rfl rfl
    go_wp2_with fail
    refine (xn_load HW 0).mono ?_
    rintro e w1 ⟨rfl, H1⟩
    obtain ⟨x0, x2, x4, x5, x6, x7⟩ := H1.facts hop hl rfl rfl
    go_wp2_with fail
    refine (x_note (H1.setA (doA s.L ⟨1, 0, 0, 0, 0⟩).1.old) (by have := HC.out; first | exact Nat.le_trans this (by decide) | (simp [Rn.note, Rn.did, Rn.setA, Rn.setB, Rn.waited, Rn.goto, Rn.noted]; omega)) 5 0).mono ?_
    rintro e w2 ⟨rfl, H2⟩
    go_wp2_with fail
    refine (xn_end H2 false).mono ?_
    rintro e w3 ⟨rfl, H3⟩
    go_wp2_with fail
    go_end0
    exact ⟨rfl, H3⟩

set_option maxHeartbeats 800000 in
set_option maxRecDepth 100000 in
theorem xrf_70 {S0 : List Nat} {w0 w : World} {p : Option Addr} {g cap x : Nat} {rs : List Res} {s : Rn} (H : XHas S0 w0 p g cap x rs s w) (hop : s.f.op = 7) (hl : s.f.line = 0) (ha : 0 ≤ s.f.a ∧ s.f.a < 4294967296) (hc : s.notes.length ≤ 900) :
    Calls Try.prog 35 #[.pointer (some ⟨x, 0, none⟩)] w fun e w' => e = .returned (.tuple #[]) ∧ XHas S0 w0 p g cap x rs (rf70 s) w' := by
  obtain ⟨z0, z2, z4, z5, z6, z7⟩ := H.facts hop hl rfl rfl
  have HC := Lib.hid hc
  have HA := Lib.hid ha
  have HH := Lib.hid H
  clear hc H ha
  unfold rf70
  unfold Rn.chosen
  cases hb : ((doA s.L ⟨1, 0, 0, 0, 0⟩).1.old == 1) with
  | true =>
    have e1 : ((doA s.L ⟨1, 0, 0, 0, 0⟩).1.old == 1) = true := hb
    simp only [hb, if_true]
    clear hb
    go_enter Try.func35, Try.ntmps35
    go_wp2_with fail
    go_quiet (fail)
    have HW := HH.out.drewN nq
    clear z0 z2 z4 z5 z6 z7
    generalize w.drewN nq = W at HW ⊢
    obtain ⟨z0, z2, z4, z5, z6, z7⟩ := HW.facts hop hl rfl rfl
    go_wp2_with fail
    refine (xn_load HW 0).mono ?_
    rintro e w1 ⟨rfl, H1⟩
    obtain ⟨x0, x2, x4, x5, x6, x7⟩ := H1.facts hop hl rfl rfl
    go_wp2_with fail
    go_end0
    exact ⟨rfl, ((H1.setA (doA s.L ⟨1, 0, 0, 0, 0⟩).1.old).goto 1)⟩
  | false =>
    have e1 : ((doA s.L ⟨1, 0, 0, 0, 0⟩).1.old == 1) = false := hb
    simp only [hb, Bool.false_eq_true, if_false]
    clear hb
    go_enter Try.func35, Try.ntmps35
    go_wp2_with fail
    go_quiet (fail)
    have HW := HH.out.drewN nq
    clear z0 z2 z4 z5 z6 z7
    generalize w.drewN nq = W at HW ⊢
    obtain ⟨z0, z2, z4, z5, z6, z7⟩ := HW.facts hop hl rfl rfl
    go_wp2_with fail
    refine (xn_load HW 0).mono ?_
    rintro e w1 ⟨rfl, H1⟩
    obtain ⟨x0, x2, x4, x5, x6, x7⟩ := H1.facts hop hl rfl rfl
    go_wp2_with fail
    refine (x_note (H1.setA (doA s.L ⟨1, 0, 0, 0, 0⟩).1.old) (by have := HC.out; first | exact Nat.le_trans this (by decide) | (simp [Rn.note, Rn.did, Rn.setA, Rn.setB, Rn.waited, Rn.goto, Rn.noted]; omega)) 5 0).mono ?_
    rintro e w2 ⟨rfl, H2⟩
    go_wp2_with fail
    refine (xn_end H2 false).mono ?_
    rintro e w3 ⟨rfl, H3⟩
    go_wp2_with fail
    go_end0
    exact ⟨rfl, H3⟩

set_option maxHeartbeats 1600000 in
set_option maxRecDepth 100000 in
theorem xrf_off {S0 : List Nat} {w0 w : World} {p : Option Addr} {g cap x : Nat} {rs : List Res} {s : Rn} (H : XHas S0 w0 p g cap x rs s w) {o l : Int} (hop : s.f.op = o) (hl : s.f.line = l) (h : (o = 1 ∧ l = 2) ∨ (o = 2 ∧ l = 1) ∨ (o = 2 ∧ l = 2) ∨ (o = 4 ∧ l = 1) ∨ (o = 4 ∧ l = 2) ∨ (o = 5 ∧ l = 2) ∨ (o = 6 ∧ l = 2) ∨ (o = 7 ∧ l = 2) ∨ (o = 8 ∧ l = 1) ∨ (o = 8 ∧ l = 2)) :
    Calls Try.prog 35 #[.pointer (some ⟨x, 0, none⟩)] w fun e w' => e = .returned (.tuple #[]) ∧ XHas S0 w0 p g cap x rs s w' := by
  rcases h with ⟨rfl, rfl⟩ | ⟨rfl, rfl⟩ | ⟨rfl, rfl⟩ | ⟨rfl, rfl⟩ | ⟨rfl, rfl⟩ | ⟨rfl, rfl⟩ | ⟨rfl, rfl⟩ | ⟨rfl, rfl⟩ | ⟨rfl, rfl⟩ | ⟨rfl, rfl⟩
  all_goals
    obtain ⟨z0, z2, z4, z5, z6, z7⟩ := H.facts hop hl rfl rfl
    have HH := Lib.hid H
    clear H
    go_enter Try.func35, Try.ntmps35
    go_wp2_with fail
    go_quiet (fail)
    have HW := HH.out.drewN nq
    clear z0 z2 z4 z5 z6 z7
    generalize w.drewN nq = W at HW ⊢
    obtain ⟨z0, z2, z4, z5, z6, z7⟩ := HW.facts hop hl rfl rfl
    go_wp2_with fail
    go_end0
    exact ⟨rfl, HW⟩

end Go.Proofs.Ytlndihdlodempaa.Z

/- The document's lines of the lock in which readers go first: the last ones, and all. Written by genrfx.py. -/
set_option linter.unusedVariables false
set_option linter.unusedSimpArgs false
namespace Go.Proofs.Ytlndihdlodempaa.Z
open Go.RowKit

set_option maxHeartbeats 800000 in
set_option maxRecDepth 100000 in
theorem xrf_51 {S0 : List Nat} {w0 w : World} {p : Option Addr} {g cap x : Nat} {rs : List Res} {s : Rn} (H : XHas S0 w0 p g cap x rs s w) (hop : s.f.op = 5) (hl : s.f.line = 1) (ha : 0 ≤ s.f.a ∧ s.f.a < 4294967296) (hc : s.notes.length ≤ 900) :
    Calls Try.prog 35 #[.pointer (some ⟨x, 0, none⟩)] w fun e w' => e = .returned (.tuple #[]) ∧ XHas S0 w0 p g cap x rs (rf51 s) w' := by
  obtain ⟨z0, z2, z4, z5, z6, z7⟩ := H.facts hop hl rfl rfl
  have HC := Lib.hid hc
  have HA := Lib.hid ha
  have HH := Lib.hid H
  clear hc H ha
  unfold rf51
  have hcas : ∀ W, XHas S0 w0 p g cap x rs (s.goto 0) W → Calls Try.prog 67 #[.pointer (some ⟨x, 0, none⟩), .int .i64 0, .int .u32 s.f.a, .int .u32 ((s.f.a + 1) % 4294967296)] W fun e w' => e = .returned (.bool (casB s.L 0 s.f.a ((s.f.a + 1) % 4294967296))) ∧ XHas S0 w0 p g cap x rs ((s.goto 0).did (doA s.L ⟨5, 0, s.f.a, ((s.f.a + 1) % 4294967296), 0⟩)) w' := fun W H => xn_cas H 0 s.f.a ((s.f.a + 1) % 4294967296) (by have := HA.out; omega) (by omega)
  unfold Rn.swapped
  cases hb : casB s.L 0 s.f.a ((s.f.a + 1) % 4294967296) <;> rw [hb] at hcas <;> simp only [if_true, Bool.false_eq_true, if_false] <;> (have HCAS := Lib.hid hcas) <;> clear hcas hb
  · go_enter Try.func35, Try.ntmps35
    go_wp2_with fail
    go_quiet (fail)
    have HW := HH.out.drewN nq
    clear z0 z2 z4 z5 z6 z7
    generalize w.drewN nq = W at HW ⊢
    obtain ⟨z0, z2, z4, z5, z6, z7⟩ := HW.facts hop hl rfl rfl
    go_wp2_with fail
    refine region_flat (by kernel_rfl) (by kernel_rfl) ?_
    simp only [probed, probes, List.nil_append, List.cons_append, probe]
    go_wp2_with fail
    refine (HCAS.out _ ((HW.goto 0).drew)).mono ?_
    rintro e w1 ⟨rfl, H1⟩
    go_wp2_with fail
    rw [only_normal]
    first | (rename_i hK; refine hK _ _ ?_; clear hK) | (rename_i hK; simp only [Exit.inBlock, Exit.then]; refine hK _ _ ?_; clear hK) | simp only [Exit.inBlock, Exit.then]
    obtain ⟨x0, x2, x4, x5, x6, x7⟩ := H1.facts hop (l := 0) rfl rfl rfl
    go_wp2_with fail
    go_end0
    exact ⟨rfl, H1⟩
  · go_enter Try.func35, Try.ntmps35
    go_wp2_with fail
    go_quiet (fail)
    have HW := HH.out.drewN nq
    clear z0 z2 z4 z5 z6 z7
    generalize w.drewN nq = W at HW ⊢
    obtain ⟨z0, z2, z4, z5, z6, z7⟩ := HW.facts hop hl rfl rfl
    go_wp2_with fail
    refine region_flat (by kernel_rfl) (by kernel_rfl) ?_
    simp only [probed, probes, List.nil_append, List.cons_append, probe]
    go_wp2_with fail
    refine (HCAS.out _ ((HW.goto 0).drew)).mono ?_
    rintro e w1 ⟨rfl, H1⟩
    go_wp2_with fail
    rw [only_normal]
    first | (rename_i hK; refine hK _ _ ?_; clear hK) | (rename_i hK; simp only [Exit.inBlock, Exit.then]; refine hK _ _ ?_; clear hK) | simp only [Exit.inBlock, Exit.then]
    obtain ⟨x0, x2, x4, x5, x6, x7⟩ := H1.facts hop (l := 0) rfl rfl rfl
    go_wp2_with fail
    refine (x_note (H1.back hl) (by have := HC.out; first | exact Nat.le_trans this (by decide) | (simp [Rn.note, Rn.did, Rn.setA, Rn.setB, Rn.waited, Rn.goto, Rn.noted]; omega)) 2 1).mono ?_
    rintro e w2 ⟨rfl, H2⟩
    go_wp2_with fail
    refine (x_note H2 (by have := HC.out; first | exact Nat.le_trans this (by decide) | (simp [Rn.note, Rn.did, Rn.setA, Rn.setB, Rn.waited, Rn.goto, Rn.noted]; omega)) 4 0).mono ?_
    rintro e w3 ⟨rfl, H3⟩
    go_wp2_with fail
    refine (xn_end H3 true).mono ?_
    rintro e w4 ⟨rfl, H4⟩
    go_wp2_with fail
    go_end0
    exact ⟨rfl, H4⟩

set_option maxHeartbeats 1600000 in
set_option maxRecDepth 100000 in
theorem xrf_out {S0 : List Nat} {w0 w : World} {p : Option Addr} {g cap x : Nat} {rs : List Res} {s : Rn} (H : XHas S0 w0 p g cap x rs s w) {o l : Int} (hop : s.f.op = o) (hl : s.f.line = l) (h : l < 0 ∨ 2 < l ∨ o < 1 ∨ 8 < o) :
    Calls Try.prog 35 #[.pointer (some ⟨x, 0, none⟩)] w fun e w' => e = .returned (.tuple #[]) ∧ XHas S0 w0 p g cap x rs s w' := by
  have e1 : decide (l < 0) = true ∨ (decide (l < 0) = false ∧ (decide (2 < l) = true ∨ (decide (2 < l) = false ∧ (decide (o < 1) = true ∨ (decide (o < 1) = false ∧ decide (8 < o) = true))))) := by
    simp only [decide_eq_true_eq, decide_eq_false_iff_not]
    omega
  obtain ⟨z0, z2, z4, z5, z6, z7⟩ := H.facts hop hl rfl rfl
  have HH := Lib.hid H
  clear H h
  rcases e1 with e1 | ⟨e1, e2 | ⟨e2, e3 | ⟨e3, e4⟩⟩⟩
  all_goals
    go_enter Try.func35, Try.ntmps35
    go_wp2_with fail
    (try simp only [Exit.inBlock, Exit.then]); refine bodyPost_ret (results_none rfl _ _ _) rfl ?_
    exact ⟨rfl, HH.out⟩

theorem rf_rest {o l : Int} (hr : ¬ (l < 0 ∨ 2 < l ∨ o < 1 ∨ 8 < o)) : ¬ (o = 1 ∧ l = 0) → ¬ (o = 1 ∧ l = 1) → ¬ (o = 2 ∧ l = 0) → ¬ (o = 3 ∧ l = 0) → ¬ (o = 3 ∧ l = 1) → ¬ (o = 3 ∧ l = 2) → ¬ (o = 4 ∧ l = 0) → ¬ (o = 8 ∧ l = 0) → ¬ (o = 5 ∧ l = 0) → ¬ (o = 6 ∧ l = 0) → ¬ (o = 7 ∧ l = 0) → ¬ (o = 5 ∧ l = 1) → ¬ (o = 6 ∧ l = 1) → ¬ (o = 7 ∧ l = 1) → ((o = 1 ∧ l = 2) ∨ (o = 2 ∧ l = 1) ∨ (o = 2 ∧ l = 2) ∨ (o = 4 ∧ l = 1) ∨ (o = 4 ∧ l = 2) ∨ (o = 5 ∧ l = 2) ∨ (o = 6 ∧ l = 2) ∨ (o = 7 ∧ l = 2) ∨ (o = 8 ∧ l = 1) ∨ (o = 8 ∧ l = 2)) := by
  have ho : o = 1 ∨ o = 2 ∨ o = 3 ∨ o = 4 ∨ o = 5 ∨ o = 6 ∨ o = 7 ∨ o = 8 := by omega
  have hl : l = 0 ∨ l = 1 ∨ l = 2 := by omega
  clear hr
  rcases ho with rfl | rfl | rfl | rfl | rfl | rfl | rfl | rfl <;> rcases hl with rfl | rfl | rfl <;> simp

/-- The document's lines are the program's. -/
theorem xrf_lines {S0 : List Nat} {w0 w : World} {p : Option Addr} {g cap x : Nat} {rs : List Res} {s : Rn} (H : XHas S0 w0 p g cap x rs s w) (ha : 0 ≤ s.f.a ∧ s.f.a < 4294967296) (hc : s.notes.length ≤ 900) :
    Calls Try.prog 35 #[.pointer (some ⟨x, 0, none⟩)] w fun e w' => e = .returned (.tuple #[]) ∧ XHas S0 w0 p g cap x rs (rfA s) w' := by
  unfold rfA
  by_cases h10 : s.f.op = 1 ∧ s.f.line = 0
  · rw [if_pos h10]; exact xrf_10 H h10.1 h10.2 ha hc
  rw [if_neg h10]
  by_cases h11 : s.f.op = 1 ∧ s.f.line = 1
  · rw [if_pos h11]; exact xrf_11 H h11.1 h11.2 ha hc
  rw [if_neg h11]
  by_cases h20 : s.f.op = 2 ∧ s.f.line = 0
  · rw [if_pos h20]; exact xrf_20 H h20.1 h20.2 ha hc
  rw [if_neg h20]
  by_cases h30 : s.f.op = 3 ∧ s.f.line = 0
  · rw [if_pos h30]; exact xrf_30 H h30.1 h30.2 ha hc
  rw [if_neg h30]
  by_cases h31 : s.f.op = 3 ∧ s.f.line = 1
  · rw [if_pos h31]; exact xrf_31 H h31.1 h31.2 ha hc
  rw [if_neg h31]
  by_cases h32 : s.f.op = 3 ∧ s.f.line = 2
  · rw [if_pos h32]; exact xrf_32 H h32.1 h32.2 ha hc
  rw [if_neg h32]
  by_cases h40 : s.f.op = 4 ∧ s.f.line = 0
  · rw [if_pos h40]; exact xrf_40 H h40.1 h40.2 ha hc
  rw [if_neg h40]
  by_cases h80 : s.f.op = 8 ∧ s.f.line = 0
  · rw [if_pos h80]; exact xrf_80 H h80.1 h80.2 ha hc
  rw [if_neg h80]
  by_cases h50 : s.f.op = 5 ∧ s.f.line = 0
  · rw [if_pos h50]; exact xrf_50 H h50.1 h50.2 ha hc
  rw [if_neg h50]
  by_cases h60 : s.f.op = 6 ∧ s.f.line = 0
  · rw [if_pos h60]; exact xrf_60 H h60.1 h60.2 ha hc
  rw [if_neg h60]
  by_cases h70 : s.f.op = 7 ∧ s.f.line = 0
  · rw [if_pos h70]; exact xrf_70 H h70.1 h70.2 ha hc
  rw [if_neg h70]
  by_cases h51 : s.f.op = 5 ∧ s.f.line = 1
  · rw [if_pos h51]; exact xrf_51 H h51.1 h51.2 ha hc
  rw [if_neg h51]
  by_cases h61 : s.f.op = 6 ∧ s.f.line = 1
  · rw [if_pos h61]; exact xrf_61 H h61.1 h61.2 ha hc
  rw [if_neg h61]
  by_cases h71 : s.f.op = 7 ∧ s.f.line = 1
  · rw [if_pos h71]; exact xrf_71 H h71.1 h71.2 ha hc
  rw [if_neg h71]
  by_cases hr : s.f.line < 0 ∨ 2 < s.f.line ∨ s.f.op < 1 ∨ 8 < s.f.op
  · exact xrf_out H rfl rfl hr
  · exact xrf_off H rfl rfl (rf_rest hr h10 h11 h20 h30 h31 h32 h40 h80 h50 h60 h70 h51 h61 h71)

end Go.Proofs.Ytlndihdlodempaa.Z

/- A lock's operation by itself: steps of a run, counted. No program is in sight but the model's words. -/
set_option linter.unusedVariables false
set_option linter.unusedSimpArgs false
namespace Go.Proofs.Ytlndihdlodempaa.Z
open Go.RowKit

/-- A step under these lines. -/
def stepR (g : Rn → Rn) (s : Rn) : Rn := if s.f.wk.on then s.woke else g s.fresh
/-- So many steps at most: the result, and the run then. -/
def aloneA (g : Rn → Rn) : Nat → Rn → Int × Rn
  | 0, s => (0, s)
  | k + 1, s => if (stepR g s).over then ((stepR g s).f.ret, stepR g s) else aloneA g k (stepR g s)
def start (n mode op : Int) (L : List Int) : Rn := ⟨n, mode, 0, ⟨op, 0, 0, 0, 0, Wk.zero, 0⟩, Acc.zero, [], L⟩

/-- A frame whose kept words are words. -/
def Rn.ok (s : Rn) : Prop := I64 s.n ∧ (0 ≤ s.f.a ∧ s.f.a < 4294967296) ∧ (0 ≤ s.f.b ∧ s.f.b < 4294967296)
theorem start_ok {n : Int} (hn : I64 n) (mode op : Int) (L : List Int) : (start n mode op L).ok := ⟨hn, by simp [start], by simp [start]⟩
theorem woke_ok {s : Rn} (h : s.ok) : s.woke.ok := h
theorem fresh_ok {s : Rn} (h : s.ok) : s.fresh.ok := h

/-- Words in which nobody watches the cell c. -/
def NoWatch (n : Int) (c : Int) (L : List Int) : Prop := ∀ i, 0 ≤ i → i < n → (doA L ⟨1, cellP n 2 i, 0, 0, 0⟩).2.1 = true ∧ (doA L ⟨1, cellP n 2 i, 0, 0, 0⟩).1.old ≠ (c + 1) % 4294967296

theorem woke_calm {s : Rn} {c i : Int} (hw : s.f.wk = ⟨true, c, i, false⟩) (h0 : 0 ≤ i) (h1 : i < s.n) (hc : NoWatch s.n c s.L) :
    s.woke.L = s.L ∧ s.woke.f = { s.f with wk := if s.n ≤ i + 1 then Wk.zero else ⟨true, c, i + 1, false⟩ } ∧ s.woke.notes = [] ∧ s.woke.n = s.n ∧ s.woke.mode = s.mode ∧ s.woke.task = s.task := by
  obtain ⟨h2, h3⟩ := hc i h0 h1
  have e : wakeA s.L s.n s.f.wk = (nextA s.n ⟨true, c, i, false⟩, (doA s.L ⟨1, cellP s.n 2 i, 0, 0, 0⟩).1, s.L) := by
    rw [hw]
    unfold wakeA
    simp only [if_true, Bool.false_eq_true, if_false]
    rw [if_pos h2, if_neg h3]
  unfold Rn.woke
  rw [e]
  refine ⟨rfl, ?_, rfl, rfl, rfl, rfl⟩
  show { s.f with wk := nextA s.n ⟨true, c, i, false⟩ } = _
  unfold nextA
  rfl

/-- The run behind a wake-up that finds nobody: only its access and its notes may differ. -/
def Rn.rests (s : Rn) : Rn := { s with f := { s.f with wk := Wk.zero }, acc := Acc.zero, notes := [] }

/-- A wake-up that finds nobody, within an operation: behind it the steps go on. -/
theorem alone_wakes (g : Rn → Rn) (c : Int) : ∀ (d : Nat) (s : Rn) (i : Int) (most : Nat), s.f.wk = ⟨true, c, i, false⟩ → 0 ≤ i → i + d = s.n → 1 ≤ d → NoWatch s.n c s.L → d ≤ most →
    ∃ s', s'.fresh = s.rests ∧ s'.f.wk.on = false ∧ s'.L = s.L ∧ s'.f.ret = s.f.ret ∧ ((s.f.ret ≠ 0 → aloneA g most s = (s.f.ret, s')) ∧ (s.f.ret = 0 → aloneA g most s = aloneA g (most - d) s')) := by
  intro d
  induction d with
  | zero => intro s i most hw h0 h1 h2; omega
  | succ d ih =>
    intro s i most hw h0 h1 _ hc hm
    obtain ⟨e1, e2, e3, e4, e5, e6⟩ := woke_calm hw h0 (by omega) hc
    have hst : stepR g s = s.woke := by unfold stepR; rw [hw]; rfl
    obtain ⟨most, rfl⟩ : ∃ j, most = j + 1 := ⟨most - 1, by omega⟩
    by_cases hd : d = 0
    · subst hd
      rw [if_pos (by omega)] at e2
      refine ⟨s.woke, ?_, by rw [e2]; rfl, e1, by rw [e2], fun hr => ?_, fun hr => ?_⟩
      · unfold Rn.fresh Rn.rests
        rw [e1, e2, e4, e5, e6]
      · show (if (stepR g s).over then ((stepR g s).f.ret, stepR g s) else aloneA g most (stepR g s)) = _
        rw [hst, if_pos (by unfold Rn.over; rw [e2]; simpa [Wk.zero] using hr), e2]
      · show (if (stepR g s).over then ((stepR g s).f.ret, stepR g s) else aloneA g most (stepR g s)) = _
        rw [hst, if_neg (by unfold Rn.over; rw [e2]; simp [hr])]
        rfl
    · rw [if_neg (by omega)] at e2
      obtain ⟨s', k1, k2, k3, k4, k5, k6⟩ := ih s.woke (i + 1) most (by rw [e2]) (by omega) (by rw [e4]; omega) (by omega) (by rw [e4, e1]; exact hc) (by omega)
      have er : s.woke.f.ret = s.f.ret := by rw [e2]
      have hgo : aloneA g (most + 1) s = aloneA g most s.woke := by
        show (if (stepR g s).over then ((stepR g s).f.ret, stepR g s) else aloneA g most (stepR g s)) = _
        rw [hst, if_neg (by unfold Rn.over; rw [e2]; simp)]
      refine ⟨s', ?_, k2, k3.trans e1, k4.trans er, fun hr => ?_, fun hr => ?_⟩
      · rw [k1]
        unfold Rn.rests
        rw [e1, e2, e4, e5, e6]
      · rw [hgo, k5 (by rw [er]; exact hr), er]
      · rw [hgo, k6 (by rw [er]; exact hr)]
        congr 1
        omega

/-- Operations one after the other, each by itself: all end with true. -/
def Runs (g : Rn → Rn) (n mode : Int) (most : Nat) : List Int → List Int → List Int → Prop
  | [], L, L' => L = L'
  | o :: os, L, L' => ∃ s, aloneA g most (start n mode o L) = (2, s) ∧ Runs g n mode most os s.L L'

/-- What is kept is words; ten notes more at most. -/
def Fine (s0 s' : Rn) : Prop := (I64 s'.n ∧ (0 ≤ s'.f.a ∧ s'.f.a < 4294967296) ∧ (0 ≤ s'.f.b ∧ s'.f.b < 4294967296)) ∧ s'.notes.length ≤ s0.notes.length + 10
theorem fine_mk {s0 s' : Rn} (h : (I64 s'.n ∧ (0 ≤ s'.f.a ∧ s'.f.a < 4294967296) ∧ (0 ≤ s'.f.b ∧ s'.f.b < 4294967296)) ∧ s'.notes.length ≤ s0.notes.length + 10) : Fine s0 s' := h

theorem Has.ownNil {S0 : List Nat} {w0 w : World} {rs : List Res} (h : Has S0 w0 w rs) (e size : Nat) : Has S0 w0 w (.own e size (.slice none 0 0) 0 [] :: rs) :=
  Has.upd (xs := []) (rs := rs) [.own e size (.slice none 0 0) 0 []] (S := []) h (Touch.refl _ _) (by simp) (by simp [Res.holds]; exact ⟨by simp, .inl ⟨rfl, rfl⟩⟩) (by simp) (by simp [Res.foot, Value.ownBlock])

/-- A new run. -/
theorem RunHas.fresh_ {S0 : List Nat} {w0 w : World} {m a : Nat} {rs : List Res} (s : Rn) (H : Has S0 w0 w (.mem m a s.L :: rs)) (hn : s.notes = []) (T : TypeId) :
    RunHas S0 w0 m a w.heap.size rs s (w.alloc (.cells (rcells m s (.slice none 0 0)) T)) := by
  refine ⟨.slice none 0 0, ?_⟩
  rw [hn]
  exact (H.al1).own_nil _ _

/-- More is appended to what is owned, fourth in the list. -/
theorem Has.grown4 {S0 : List Nat} {w0 w w' : World} {x y z : Res} {e size n m : Nat} {v v' : Value} {xs ys : List Value} {rs : List Res} (h : Has S0 w0 w (x :: y :: z :: .own e size v n xs :: rs)) (hown : w'.ownsRow 0 e size v' m ys) (hg : w.grownBy w' v.ownBlock)
    (hat : v'.ownBlock = v.ownBlock ∨ v'.ownBlock = some w.heap.size) : Has S0 w0 w' (x :: y :: z :: .own e size v' m ys :: rs) :=
  ((h.perm (perm_past3 x y z [_] rs).symm).grown hown hg hat).perm (perm_past3 x y z [_] rs)

/-- What an operation by itself tells. -/
def AloneEnd (S0 : List Nat) (w0 : World) (m a : Nat) (rs : List Res) (R : Int × Rn) (e : Ending) (w' : World) : Prop :=
  ∃ v, e = .returned (.tuple #[.int .i64 R.1, v]) ∧ Has S0 w0 w' (.mem m a R.2.L :: rs)

end Go.Proofs.Ytlndihdlodempaa.Z

/- Package rf: what a line keeps. Written by genrf4.py. -/
set_option linter.unusedVariables false
set_option linter.unusedSimpArgs false
namespace Go.Proofs.Ytlndihdlodempaa.Z
open Go.RowKit

set_option maxHeartbeats 800000 in
theorem rf10_fine (s : Rn) (hw : Words s.L) (h : I64 s.n ∧ (0 ≤ s.f.a ∧ s.f.a < 4294967296) ∧ (0 ≤ s.f.b ∧ s.f.b < 4294967296)) : Fine s (rf10 s) := by
  have hold := fun b => doA_old s.L hw b
  obtain ⟨h1, h2, h3⟩ := h
  unfold rf10
  (try dsimp only)
  (repeat' split) <;> first
    | exact fine_mk ⟨⟨h1, h2, h3⟩, by simp [Rn.ends, Rn.noted, Rn.refused, Rn.did, Rn.setA, Rn.note, Rn.goto, Rn.fin, Rn.wake, Rn.waited]⟩
    | exact fine_mk ⟨⟨h1, hold _, h3⟩, by simp [Rn.ends, Rn.noted, Rn.refused, Rn.did, Rn.setA, Rn.note, Rn.goto, Rn.fin, Rn.wake, Rn.waited]⟩
set_option maxHeartbeats 800000 in
theorem rf11_fine (s : Rn) (hw : Words s.L) (h : I64 s.n ∧ (0 ≤ s.f.a ∧ s.f.a < 4294967296) ∧ (0 ≤ s.f.b ∧ s.f.b < 4294967296)) : Fine s (rf11 s) := by
  have hold := fun b => doA_old s.L hw b
  obtain ⟨h1, h2, h3⟩ := h
  unfold rf11
  (try dsimp only)
  (repeat' split) <;> first
    | exact fine_mk ⟨⟨h1, h2, h3⟩, by simp [Rn.ends, Rn.noted, Rn.refused, Rn.did, Rn.setA, Rn.note, Rn.goto, Rn.fin, Rn.wake, Rn.waited]⟩
    | exact fine_mk ⟨⟨h1, hold _, h3⟩, by simp [Rn.ends, Rn.noted, Rn.refused, Rn.did, Rn.setA, Rn.note, Rn.goto, Rn.fin, Rn.wake, Rn.waited]⟩
set_option maxHeartbeats 800000 in
theorem rf20_fine (s : Rn) (hw : Words s.L) (h : I64 s.n ∧ (0 ≤ s.f.a ∧ s.f.a < 4294967296) ∧ (0 ≤ s.f.b ∧ s.f.b < 4294967296)) : Fine s (rf20 s) := by
  have hold := fun b => doA_old s.L hw b
  obtain ⟨h1, h2, h3⟩ := h
  unfold rf20
  (try dsimp only)
  (repeat' split) <;> first
    | exact fine_mk ⟨⟨h1, h2, h3⟩, by simp [Rn.ends, Rn.noted, Rn.refused, Rn.did, Rn.setA, Rn.note, Rn.goto, Rn.fin, Rn.wake, Rn.waited]⟩
    | exact fine_mk ⟨⟨h1, hold _, h3⟩, by simp [Rn.ends, Rn.noted, Rn.refused, Rn.did, Rn.setA, Rn.note, Rn.goto, Rn.fin, Rn.wake, Rn.waited]⟩
set_option maxHeartbeats 800000 in
theorem rf30_fine (s : Rn) (hw : Words s.L) (h : I64 s.n ∧ (0 ≤ s.f.a ∧ s.f.a < 4294967296) ∧ (0 ≤ s.f.b ∧ s.f.b < 4294967296)) : Fine s (rf30 s) := by
  have hold := fun b => doA_old s.L hw b
  obtain ⟨h1, h2, h3⟩ := h
  unfold rf30
  (try dsimp only)
  (repeat' split) <;> first
    | exact fine_mk ⟨⟨h1, h2, h3⟩, by simp [Rn.ends, Rn.noted, Rn.refused, Rn.did, Rn.setA, Rn.note, Rn.goto, Rn.fin, Rn.wake, Rn.waited]⟩
    | exact fine_mk ⟨⟨h1, hold _, h3⟩, by simp [Rn.ends, Rn.noted, Rn.refused, Rn.did, Rn.setA, Rn.note, Rn.goto, Rn.fin, Rn.wake, Rn.waited]⟩
set_option maxHeartbeats 800000 in
theorem rf31_fine (s : Rn) (hw : Words s.L) (h : I64 s.n ∧ (0 ≤ s.f.a ∧ s.f.a < 4294967296) ∧ (0 ≤ s.f.b ∧ s.f.b < 4294967296)) : Fine s (rf31 s) := by
  have hold := fun b => doA_old s.L hw b
  obtain ⟨h1, h2, h3⟩ := h
  unfold rf31
  (try dsimp only)
  (repeat' split) <;> first
    | exact fine_mk ⟨⟨h1, h2, h3⟩, by simp [Rn.ends, Rn.noted, Rn.refused, Rn.did, Rn.setA, Rn.note, Rn.goto, Rn.fin, Rn.wake, Rn.waited]⟩
    | exact fine_mk ⟨⟨h1, hold _, h3⟩, by simp [Rn.ends, Rn.noted, Rn.refused, Rn.did, Rn.setA, Rn.note, Rn.goto, Rn.fin, Rn.wake, Rn.waited]⟩
set_option maxHeartbeats 800000 in
theorem rf32_fine (s : Rn) (hw : Words s.L) (h : I64 s.n ∧ (0 ≤ s.f.a ∧ s.f.a < 4294967296) ∧ (0 ≤ s.f.b ∧ s.f.b < 4294967296)) : Fine s (rf32 s) := by
  have hold := fun b => doA_old s.L hw b
  obtain ⟨h1, h2, h3⟩ := h
  unfold rf32
  (try dsimp only)
  (repeat' split) <;> first
    | exact fine_mk ⟨⟨h1, h2, h3⟩, by simp [Rn.ends, Rn.noted, Rn.refused, Rn.did, Rn.setA, Rn.note, Rn.goto, Rn.fin, Rn.wake, Rn.waited]⟩
    | exact fine_mk ⟨⟨h1, hold _, h3⟩, by simp [Rn.ends, Rn.noted, Rn.refused, Rn.did, Rn.setA, Rn.note, Rn.goto, Rn.fin, Rn.wake, Rn.waited]⟩
set_option maxHeartbeats 800000 in
theorem rf40_fine (s : Rn) (hw : Words s.L) (h : I64 s.n ∧ (0 ≤ s.f.a ∧ s.f.a < 4294967296) ∧ (0 ≤ s.f.b ∧ s.f.b < 4294967296)) : Fine s (rf40 s) := by
  have hold := fun b => doA_old s.L hw b
  obtain ⟨h1, h2, h3⟩ := h
  unfold rf40
  (try dsimp only)
  (repeat' split) <;> first
    | exact fine_mk ⟨⟨h1, h2, h3⟩, by simp [Rn.ends, Rn.noted, Rn.refused, Rn.did, Rn.setA, Rn.note, Rn.goto, Rn.fin, Rn.wake, Rn.waited]⟩
    | exact fine_mk ⟨⟨h1, hold _, h3⟩, by simp [Rn.ends, Rn.noted, Rn.refused, Rn.did, Rn.setA, Rn.note, Rn.goto, Rn.fin, Rn.wake, Rn.waited]⟩
set_option maxHeartbeats 800000 in
theorem rf80_fine (s : Rn) (hw : Words s.L) (h : I64 s.n ∧ (0 ≤ s.f.a ∧ s.f.a < 4294967296) ∧ (0 ≤ s.f.b ∧ s.f.b < 4294967296)) : Fine s (rf80 s) := by
  have hold := fun b => doA_old s.L hw b
  obtain ⟨h1, h2, h3⟩ := h
  unfold rf80
  (try dsimp only)
  (repeat' split) <;> first
    | exact fine_mk ⟨⟨h1, h2, h3⟩, by simp [Rn.ends, Rn.noted, Rn.refused, Rn.did, Rn.setA, Rn.note, Rn.goto, Rn.fin, Rn.wake, Rn.waited]⟩
    | exact fine_mk ⟨⟨h1, hold _, h3⟩, by simp [Rn.ends, Rn.noted, Rn.refused, Rn.did, Rn.setA, Rn.note, Rn.goto, Rn.fin, Rn.wake, Rn.waited]⟩
set_option maxHeartbeats 800000 in
theorem rf50_fine (s : Rn) (hw : Words s.L) (h : I64 s.n ∧ (0 ≤ s.f.a ∧ s.f.a < 4294967296) ∧ (0 ≤ s.f.b ∧ s.f.b < 4294967296)) : Fine s (rf50 s) := by
  have hold := fun b => doA_old s.L hw b
  obtain ⟨h1, h2, h3⟩ := h
  unfold rf50 Rn.chosen
  (try dsimp only)
  (repeat' split) <;> first
    | exact fine_mk ⟨⟨h1, h2, h3⟩, by simp [Rn.ends, Rn.noted, Rn.refused, Rn.did, Rn.setA, Rn.note, Rn.goto, Rn.fin, Rn.wake, Rn.waited]⟩
    | exact fine_mk ⟨⟨h1, hold _, h3⟩, by simp [Rn.ends, Rn.noted, Rn.refused, Rn.did, Rn.setA, Rn.note, Rn.goto, Rn.fin, Rn.wake, Rn.waited]⟩
set_option maxHeartbeats 800000 in
theorem rf60_fine (s : Rn) (hw : Words s.L) (h : I64 s.n ∧ (0 ≤ s.f.a ∧ s.f.a < 4294967296) ∧ (0 ≤ s.f.b ∧ s.f.b < 4294967296)) : Fine s (rf60 s) := by
  have hold := fun b => doA_old s.L hw b
  obtain ⟨h1, h2, h3⟩ := h
  unfold rf60 Rn.chosen
  (try dsimp only)
  (repeat' split) <;> first
    | exact fine_mk ⟨⟨h1, h2, h3⟩, by simp [Rn.ends, Rn.noted, Rn.refused, Rn.did, Rn.setA, Rn.note, Rn.goto, Rn.fin, Rn.wake, Rn.waited]⟩
    | exact fine_mk ⟨⟨h1, hold _, h3⟩, by simp [Rn.ends, Rn.noted, Rn.refused, Rn.did, Rn.setA, Rn.note, Rn.goto, Rn.fin, Rn.wake, Rn.waited]⟩
set_option maxHeartbeats 800000 in
theorem rf70_fine (s : Rn) (hw : Words s.L) (h : I64 s.n ∧ (0 ≤ s.f.a ∧ s.f.a < 4294967296) ∧ (0 ≤ s.f.b ∧ s.f.b < 4294967296)) : Fine s (rf70 s) := by
  have hold := fun b => doA_old s.L hw b
  obtain ⟨h1, h2, h3⟩ := h
  unfold rf70 Rn.chosen
  (try dsimp only)
  (repeat' split) <;> first
    | exact fine_mk ⟨⟨h1, h2, h3⟩, by simp [Rn.ends, Rn.noted, Rn.refused, Rn.did, Rn.setA, Rn.note, Rn.goto, Rn.fin, Rn.wake, Rn.waited]⟩
    | exact fine_mk ⟨⟨h1, hold _, h3⟩, by simp [Rn.ends, Rn.noted, Rn.refused, Rn.did, Rn.setA, Rn.note, Rn.goto, Rn.fin, Rn.wake, Rn.waited]⟩
set_option maxHeartbeats 800000 in
theorem rf51_fine (s : Rn) (hw : Words s.L) (h : I64 s.n ∧ (0 ≤ s.f.a ∧ s.f.a < 4294967296) ∧ (0 ≤ s.f.b ∧ s.f.b < 4294967296)) : Fine s (rf51 s) := by
  have hold := fun b => doA_old s.L hw b
  obtain ⟨h1, h2, h3⟩ := h
  unfold rf51 Rn.swapped
  (try dsimp only)
  (repeat' split) <;> first
    | exact fine_mk ⟨⟨h1, h2, h3⟩, by simp [Rn.ends, Rn.noted, Rn.refused, Rn.did, Rn.setA, Rn.note, Rn.goto, Rn.fin, Rn.wake, Rn.waited]⟩
    | exact fine_mk ⟨⟨h1, hold _, h3⟩, by simp [Rn.ends, Rn.noted, Rn.refused, Rn.did, Rn.setA, Rn.note, Rn.goto, Rn.fin, Rn.wake, Rn.waited]⟩
set_option maxHeartbeats 800000 in
theorem rf61_fine (s : Rn) (hw : Words s.L) (h : I64 s.n ∧ (0 ≤ s.f.a ∧ s.f.a < 4294967296) ∧ (0 ≤ s.f.b ∧ s.f.b < 4294967296)) : Fine s (rf61 s) := by
  have hold := fun b => doA_old s.L hw b
  obtain ⟨h1, h2, h3⟩ := h
  unfold rf61 Rn.swapped
  (try dsimp only)
  (repeat' split) <;> first
    | exact fine_mk ⟨⟨h1, h2, h3⟩, by simp [Rn.ends, Rn.noted, Rn.refused, Rn.did, Rn.setA, Rn.note, Rn.goto, Rn.fin, Rn.wake, Rn.waited]⟩
    | exact fine_mk ⟨⟨h1, hold _, h3⟩, by simp [Rn.ends, Rn.noted, Rn.refused, Rn.did, Rn.setA, Rn.note, Rn.goto, Rn.fin, Rn.wake, Rn.waited]⟩
set_option maxHeartbeats 800000 in
theorem rf71_fine (s : Rn) (hw : Words s.L) (h : I64 s.n ∧ (0 ≤ s.f.a ∧ s.f.a < 4294967296) ∧ (0 ≤ s.f.b ∧ s.f.b < 4294967296)) : Fine s (rf71 s) := by
  have hold := fun b => doA_old s.L hw b
  obtain ⟨h1, h2, h3⟩ := h
  unfold rf71 Rn.swapped
  (try dsimp only)
  (repeat' split) <;> first
    | exact fine_mk ⟨⟨h1, h2, h3⟩, by simp [Rn.ends, Rn.noted, Rn.refused, Rn.did, Rn.setA, Rn.note, Rn.goto, Rn.fin, Rn.wake, Rn.waited]⟩
    | exact fine_mk ⟨⟨h1, hold _, h3⟩, by simp [Rn.ends, Rn.noted, Rn.refused, Rn.did, Rn.setA, Rn.note, Rn.goto, Rn.fin, Rn.wake, Rn.waited]⟩

theorem rfA_fine' (s : Rn) (hw : Words s.L) (h : I64 s.n ∧ (0 ≤ s.f.a ∧ s.f.a < 4294967296) ∧ (0 ≤ s.f.b ∧ s.f.b < 4294967296)) : Fine s (rfA s) := by
  unfold rfA
  by_cases h10 : s.f.op = 1 ∧ s.f.line = 0
  · rw [if_pos h10]; exact rf10_fine s hw h
  rw [if_neg h10]
  by_cases h11 : s.f.op = 1 ∧ s.f.line = 1
  · rw [if_pos h11]; exact rf11_fine s hw h
  rw [if_neg h11]
  by_cases h20 : s.f.op = 2 ∧ s.f.line = 0
  · rw [if_pos h20]; exact rf20_fine s hw h
  rw [if_neg h20]
  by_cases h30 : s.f.op = 3 ∧ s.f.line = 0
  · rw [if_pos h30]; exact rf30_fine s hw h
  rw [if_neg h30]
  by_cases h31 : s.f.op = 3 ∧ s.f.line = 1
  · rw [if_pos h31]; exact rf31_fine s hw h
  rw [if_neg h31]
  by_cases h32 : s.f.op = 3 ∧ s.f.line = 2
  · rw [if_pos h32]; exact rf32_fine s hw h
  rw [if_neg h32]
  by_cases h40 : s.f.op = 4 ∧ s.f.line = 0
  · rw [if_pos h40]; exact rf40_fine s hw h
  rw [if_neg h40]
  by_cases h80 : s.f.op = 8 ∧ s.f.line = 0
  · rw [if_pos h80]; exact rf80_fine s hw h
  rw [if_neg h80]
  by_cases h50 : s.f.op = 5 ∧ s.f.line = 0
  · rw [if_pos h50]; exact rf50_fine s hw h
  rw [if_neg h50]
  by_cases h60 : s.f.op = 6 ∧ s.f.line = 0
  · rw [if_pos h60]; exact rf60_fine s hw h
  rw [if_neg h60]
  by_cases h70 : s.f.op = 7 ∧ s.f.line = 0
  · rw [if_pos h70]; exact rf70_fine s hw h
  rw [if_neg h70]
  by_cases h51 : s.f.op = 5 ∧ s.f.line = 1
  · rw [if_pos h51]; exact rf51_fine s hw h
  rw [if_neg h51]
  by_cases h61 : s.f.op = 6 ∧ s.f.line = 1
  · rw [if_pos h61]; exact rf61_fine s hw h
  rw [if_neg h61]
  by_cases h71 : s.f.op = 7 ∧ s.f.line = 1
  · rw [if_pos h71]; exact rf71_fine s hw h
  rw [if_neg h71]
  exact fine_mk ⟨h, by simp⟩

/-- What is kept stays words; few notes come. -/
theorem rfA_fine (s : Rn) (hw : Words s.L) (h : I64 s.n ∧ (0 ≤ s.f.a ∧ s.f.a < 4294967296) ∧ (0 ≤ s.f.b ∧ s.f.b < 4294967296)) : (I64 (rfA s).n ∧ (0 ≤ (rfA s).f.a ∧ (rfA s).f.a < 4294967296) ∧ (0 ≤ (rfA s).f.b ∧ (rfA s).f.b < 4294967296)) ∧ (rfA s).notes.length ≤ s.notes.length + 10 := rfA_fine' s hw h

end Go.Proofs.Ytlndihdlodempaa.Z

/- Law 15: a step; an operation by itself. Written by genlaw.py. -/
set_option linter.unusedVariables false
set_option linter.unusedSimpArgs false
namespace Go.Proofs.Ytlndihdlodempaa.Z
open Go.RowKit

theorem rf_stepR {S0 : List Nat} {w0 w : World} {m a r : Nat} {rs : List Res} {s : Rn} (H : RunHas S0 w0 m a r rs s w) (hok : s.ok) :
    Calls Try.prog 14 #[.pointer (some ⟨r, 0, none⟩), .func (.func 34) #[] #[]] w fun e w' => e = .returned (.bool (stepR rfA s).over) ∧ RunHas S0 w0 m a r rs (stepR rfA s) w' := by
  cases hw : s.f.wk.on with
  | true =>
    have e : stepR rfA s = s.woke := by unfold stepR; rw [hw]; rfl
    rw [e]
    exact run_step_wake H hw hok.1 _
  | false =>
    have e : stepR rfA s = rfA s.fresh := by unfold stepR; rw [hw]; rfl
    rw [e]
    exact run_step_lines H hw 34 #[] #[] (enters_of Try.func34 (by kernel_rfl) rfl) (fun W HW => rf_lines HW hok.1 hok.2.1 (by simp [Rn.fresh]))

theorem rf_stepok {s : Rn} (hw : Words s.L) (h : s.ok) : (stepR rfA s).ok ∧ (stepR rfA s).notes.length ≤ 10 := by
  unfold stepR
  split
  · exact ⟨woke_ok h, by simp [Rn.woke]⟩
  · have := rfA_fine s.fresh hw (fresh_ok h)
    exact ⟨this.1, by simpa [Rn.fresh] using this.2⟩

set_option maxHeartbeats 3200000 in
set_option maxRecDepth 100000 in
theorem rf_alone {S0 : List Nat} {w0 w : World} {m a : Nat} {L : List Int} {rs : List Res} (H : Has S0 w0 w (.mem m a L :: rs)) (n mode op : Int) (hn : I64 n) (most : Nat) (hm : most ≤ 2000) :
    Calls Try.prog 87 #[.pointer (some ⟨m, 0, none⟩), .int .i64 n, .int .i64 mode, .int .i64 op, .int .i64 most] w
      (AloneEnd S0 w0 m a rs (aloneA rfA most (start n mode op L))) := by
  have hnew := RunHas.fresh_ (rs := .own 98 4 (.slice none 0 0) 0 [] :: rs) (start n mode op L) (H.ownNil 98 4).swap rfl 43
  obtain ⟨i0, hi0, hz0, hz1, hz2⟩ := info_parts note_info
  have HI := Lib.hid (show _ ∧ _ ∧ _ ∧ _ from ⟨hi0, hz0, hz1, hz2⟩)
  have hok0 := start_ok hn mode op L
  generalize hR : aloneA rfA most (start n mode op L) = R
  have HN := Lib.hid hnew
  have HR := Lib.hid hR
  have HOK := Lib.hid hok0
  clear H hnew hi0 hz0 hz1 hz2 hR hok0 hn
  go_enter Try.func87, Try.ntmps87
  go_wp2_with fail
  refine wp_from (Facts := fun W => RunHas S0 w0 m a w.heap.size (.own 98 4 (.slice none 0 0) 0 [] :: rs) (start n mode op L) W) ?_ HN.out
  intro W HW
  clear HN
  generalize w.heap.size = B at HW ⊢
  have HV := Lib.hid HW
  clear HW
  go_loopw [13, 14] (fun nt i wr => ∃ (k : Nat) (s : Rn) (nn : Nat) (xs : List Value), k ≤ most ∧ i = .int .i64 k ∧ RunHas S0 w0 m a B (.own 98 4 nt nn xs :: rs) s wr ∧ s.ok ∧ nn ≤ 10 * k ∧ aloneA rfA (most - k) s = R) (fun _ i _ => most - (intOf i).toNat)
  case atStart => exact ⟨0, _, 0, [], Nat.zero_le _, rfl, HV.out, HOK.out, by simp, HR.out⟩
  case round =>
    obtain ⟨k, s, nn, xs, hk, rfl, hH, hok, hnn, hal⟩ := hrel
    clear HV HR HOK
    by_cases hlt : k < most
    · obtain ⟨q, hq⟩ : ∃ q, most - k = q + 1 := ⟨most - k - 1, by omega⟩
      rw [hq] at hal
      have hal2 : (if (stepR rfA s).over then ((stepR rfA s).f.ret, stepR rfA s) else aloneA rfA q (stepR rfA s)) = R := hal
      have hso := rf_stepok hH.words hok
      have hst := rf_stepR hH hok
      cases hov : (stepR rfA s).over with
      | true =>
        rw [hov] at hst hal2
        simp only [if_true] at hal2
        subst hal2
        generalize stepR rfA s = s2 at hst hso
        have HST := Lib.hid hst
        have HSO := Lib.hid hso
        have HNN := Lib.hid hnn
        clear hst hso hH hok hnn hal hov
        have hi : (k : Int) < (most : Int) := by omega
        go_wp2_with fail
        refine HST.out.mono ?_
        rintro e w1 ⟨rfl, nv, H3⟩
        obtain ⟨pn, cn, rfl⟩ := owns_slice H3.own3
        have c19 : w1.cell? ⟨B, 19, none⟩ = some (.slice pn s2.notes.length cn) := H3.blk1.cell 19
        go_wp2_with (at_builtin; refine wpList_append_rd (P := Try.prog) _ rfl (.tmp 31) (.tmp 35) _ rfl 0 98 i0 _ 4 32 Try.underlying41 HI.out.1 HI.out.2.1 HI.out.2.2.1 HI.out.2.2.2 rfl (by omega) _ nn xs rfl (Has.ownAt H3 3 rfl) pn s2.notes.length cn (nts s2.notes) rfl (Rd.own H3.own3) (nts_one _) (by have h1 := HSO.out.2; have h2 := HNN.out; simp only [maxLen]; omega) (by have h1 := HSO.out.2; have h2 := HNN.out; omega) (by omega) ?_; intro v' w' hown hg hat; have H4 := H3.grown4 hown hg hat; clear H3 hown hg hat c19; have c13 : w'.cell? ⟨B, 13, none⟩ = some (.int .i64 s2.f.ret) := H4.blk1.cell 13)
        go_wp2
        go_ret2
        exact ⟨_, rfl, H4.cut3⟩
      | false =>
        rw [hov] at hst hal2
        simp only [Bool.false_eq_true, if_false] at hal2
        generalize stepR rfA s = s2 at hst hso hal2
        have HST := Lib.hid hst
        have HSO := Lib.hid hso
        have HNN := Lib.hid hnn
        have HAL := Lib.hid hal2
        clear hst hso hH hok hnn hal hov hal2
        have hi : (k : Int) < (most : Int) := by omega
        go_wp2_with fail
        refine HST.out.mono ?_
        rintro e w1 ⟨rfl, nv, H3⟩
        obtain ⟨pn, cn, rfl⟩ := owns_slice H3.own3
        have c19 : w1.cell? ⟨B, 19, none⟩ = some (.slice pn s2.notes.length cn) := H3.blk1.cell 19
        go_wp2_with (at_builtin; refine wpList_append_rd (P := Try.prog) _ rfl (.tmp 31) (.tmp 35) _ rfl 0 98 i0 _ 4 32 Try.underlying41 HI.out.1 HI.out.2.1 HI.out.2.2.1 HI.out.2.2.2 rfl (by omega) _ nn xs rfl (Has.ownAt H3 3 rfl) pn s2.notes.length cn (nts s2.notes) rfl (Rd.own H3.own3) (nts_one _) (by have h1 := HSO.out.2; have h2 := HNN.out; simp only [maxLen]; omega) (by have h1 := HSO.out.2; have h2 := HNN.out; omega) (by omega) ?_; intro v' w' hown hg hat; have H4 := H3.grown4 hown hg hat; clear H3 hown hg hat c19)
        go_wp2
        go_roundw
        case rel => exact ⟨k + 1, s2, nn + s2.notes.length, xs ++ nts s2.notes, by omega, by go_num, ⟨_, H4⟩, HSO.out.1, by have h1 := HSO.out.2; have h2 := HNN.out; omega, by rw [show most - (k + 1) = q from by omega]; exact HAL.out⟩
        case measure => simp [intOf]; omega
    · have hkm : k = most := by omega
      subst hkm
      rw [Nat.sub_self] at hal
      have hal2 : ((0 : Int), s) = R := hal
      subst hal2
      have HH := Lib.hid hH
      clear hH hok hnn hal hk hlt
      have hi : (k : Int) ≤ (k : Int) := Int.le_refl _
      go_wp2_with fail
      go_ret2
      obtain ⟨nv, H4⟩ := HH.out
      exact ⟨_, rfl, H4.cut3⟩

end Go.Proofs.Ytlndihdlodempaa.Z
