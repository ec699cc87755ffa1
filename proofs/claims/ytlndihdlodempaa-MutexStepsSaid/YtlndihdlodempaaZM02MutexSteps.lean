/- 6 texts of this claim, joined: what each shows stands at its own head. -/
import Derived.Test.YtlndihdlodempaaZM01MutexSteps
import Derived.Test.YtlndihdlodempaaZMxEnter
import Derived.Test.YtlndihdlodempaaZMxGive
import Derived.Test.YtlndihdlodempaaZRead
import Derived.ProofKit
import Derived.OpenShut
import Derived.ChangeOld
import Derived.SizedLaws
import Derived.Deep.Slices
import Derived.Test.YtlndihdlodempaaZOwn
/- The document's run stores and swaps. Written by genxrun.py. -/
set_option linter.unusedVariables false
set_option linter.unusedSimpArgs false
namespace Go.Proofs.Ytlndihdlodempaa.Z
open Go.RowKit

set_option maxRecDepth 100000 in
theorem x_store {S0 : List Nat} {w0 w : World} {p : Option Addr} {g cap x : Nat} {nv : Value} {rs : List Res} {s : Rn} (H : Has S0 w0 w (.row p g cap (s).L :: .blk x (xcells p cap (s) nv) :: rs)) (c : Int) (u : Int) (hu : 0 ≤ u ∧ u < 4294967296) :
    Calls Try.prog 64 #[.pointer (some ⟨x, 0, none⟩), .int .i64 c, .int .u32 u] w fun e w' => e = .returned (.tuple #[]) ∧ Has S0 w0 w' (.row p g cap (s.did (doA s.L ⟨2, c, u, 0, 0⟩)).L :: .blk x (xcells p cap (s.did (doA s.L ⟨2, c, u, 0, 0⟩)) nv) :: rs) := by
  have hd := fun W (H : Has S0 w0 W (.row p g cap (s).L :: .blk x (xcells p cap (s) nv) :: rs)) => x_do H 2 c u 0 hu (by simp)
  generalize (doA s.L ⟨2, c, u, 0, 0⟩).1.old = o at hd ⊢
  generalize s.did (doA s.L ⟨2, c, u, 0, 0⟩) = s2 at hd ⊢
  have HD := Lib.hid hd
  have HH := Lib.hid H
  clear hd H
  go_enter Try.func64, Try.ntmps64
  go_wp2_with fail
  refine (HD.out _ HH.out).mono ?_
  rintro e w1 ⟨rfl, H1⟩
  go_wp2_with fail
  go_end0
  exact ⟨rfl, H1⟩

set_option maxRecDepth 100000 in
theorem x_swap {S0 : List Nat} {w0 w : World} {p : Option Addr} {g cap x : Nat} {nv : Value} {rs : List Res} {s : Rn} (H : Has S0 w0 w (.row p g cap (s).L :: .blk x (xcells p cap (s) nv) :: rs)) (c : Int) (u : Int) (hu : 0 ≤ u ∧ u < 4294967296) :
    Calls Try.prog 66 #[.pointer (some ⟨x, 0, none⟩), .int .i64 c, .int .u32 u] w fun e w' => e = .returned (.int .u32 (doA s.L ⟨4, c, u, 0, 0⟩).1.old) ∧ Has S0 w0 w' (.row p g cap (s.did (doA s.L ⟨4, c, u, 0, 0⟩)).L :: .blk x (xcells p cap (s.did (doA s.L ⟨4, c, u, 0, 0⟩)) nv) :: rs) := by
  have hd := fun W (H : Has S0 w0 W (.row p g cap (s).L :: .blk x (xcells p cap (s) nv) :: rs)) => x_do H 4 c u 0 hu (by simp)
  generalize (doA s.L ⟨4, c, u, 0, 0⟩).1.old = o at hd ⊢
  generalize s.did (doA s.L ⟨4, c, u, 0, 0⟩) = s2 at hd ⊢
  have HD := Lib.hid hd
  have HH := Lib.hid H
  clear hd H
  go_enter Try.func66, Try.ntmps66
  go_wp2_with fail
  refine (HD.out _ HH.out).mono ?_
  rintro e w1 ⟨rfl, H1⟩
  go_wp2_with fail
  go_ret
  exact ⟨rfl, H1⟩

end Go.Proofs.Ytlndihdlodempaa.Z

/- The document's answer of layer 12: its small functions, and entering. Written by genxmx.py. -/
set_option linter.unusedVariables false
set_option linter.unusedSimpArgs false
namespace Go.Proofs.Ytlndihdlodempaa.Z
open Go.RowKit

attribute [local go_sem ↓] Go.wp_at_zero Go.wp_at_succ

theorem xn_store {S0 : List Nat} {w0 w : World} {p : Option Addr} {g cap x : Nat} {rs : List Res} {s : Rn} (H : XHas S0 w0 p g cap x rs s w) (c u : Int) (hu : 0 ≤ u ∧ u < 4294967296) :
    Calls Try.prog 64 #[.pointer (some ⟨x, 0, none⟩), .int .i64 c, .int .u32 u] w fun e w' => e = .returned (.tuple #[]) ∧ XHas S0 w0 p g cap x rs (s.did (doA s.L ⟨2, c, u, 0, 0⟩)) w' := by
  obtain ⟨nv, H⟩ := H
  exact (x_store H c u hu).mono fun e w' h => ⟨h.1, nv, h.2⟩
theorem xn_swap {S0 : List Nat} {w0 w : World} {p : Option Addr} {g cap x : Nat} {rs : List Res} {s : Rn} (H : XHas S0 w0 p g cap x rs s w) (c u : Int) (hu : 0 ≤ u ∧ u < 4294967296) :
    Calls Try.prog 66 #[.pointer (some ⟨x, 0, none⟩), .int .i64 c, .int .u32 u] w fun e w' => e = .returned (.int .u32 (doA s.L ⟨4, c, u, 0, 0⟩).1.old) ∧ XHas S0 w0 p g cap x rs (s.did (doA s.L ⟨4, c, u, 0, 0⟩)) w' := by
  obtain ⟨nv, H⟩ := H
  exact (x_swap H c u hu).mono fun e w' h => ⟨h.1, nv, h.2⟩
theorem XHas.whose {S0 : List Nat} {w0 w : World} {p : Option Addr} {g cap x : Nat} {rs : List Res} {s : Rn} (H : XHas S0 w0 p g cap x rs s w) {n mode t : Int} (hn : s.n = n) (hm : s.mode = mode) (ht : s.task = t) :
    w.cell? ⟨x, 1, none⟩ = some (.int .i64 n) ∧ w.cell? ⟨x, 2, none⟩ = some (.int .i64 mode) ∧ w.cell? ⟨x, 3, none⟩ = some (.int .i64 t) := by
  obtain ⟨nv, H⟩ := H
  subst hn hm ht
  obtain ⟨x0, x1, x2⟩ := H.blk1.own
  exact ⟨x1 1, x1 2, x1 3⟩
theorem XHas.old18 {S0 : List Nat} {w0 w : World} {p : Option Addr} {g cap x : Nat} {rs : List Res} {s : Rn} (H : XHas S0 w0 p g cap x rs s w) {o : Int} (ho : s.acc.old = o) : w.cell? ⟨x, 18, none⟩ = some (.int .u32 o) := by
  obtain ⟨nv, H⟩ := H
  subst ho
  exact H.blk1.own.2.1 18

theorem xm_next {S0 : List Nat} {w0 w : World} {p : Option Addr} {g cap x : Nat} {rs : List Res} {s : Rn} (H : XHas S0 w0 p g cap x rs s w) (t : Int) :
    Calls Try.prog 80 #[.pointer (some ⟨x, 0, none⟩), .int .i64 t] w fun e w' => e = .returned (.int .i64 (cellP s.n 0 t)) ∧ w = w' := by
  obtain ⟨y1, y2, y3⟩ := H.whose rfl rfl rfl
  go_enter Try.func80, Try.ntmps80
  go_wp2_with fail
  refine (refCell_any s.n 0 t _ (by decide)).mono ?_
  rintro e w1 ⟨rfl, rfl⟩
  go_wp2_with fail
  go_ret
  exact ⟨rfl, rfl⟩

theorem xm_blocked {S0 : List Nat} {w0 w : World} {p : Option Addr} {g cap x : Nat} {rs : List Res} {s : Rn} (H : XHas S0 w0 p g cap x rs s w) (t : Int) :
    Calls Try.prog 81 #[.pointer (some ⟨x, 0, none⟩), .int .i64 t] w fun e w' => e = .returned (.int .i64 (cellP s.n 1 t)) ∧ w = w' := by
  obtain ⟨y1, y2, y3⟩ := H.whose rfl rfl rfl
  go_enter Try.func81, Try.ntmps81
  go_wp2_with fail
  refine (refCell_any s.n 1 t _ (by decide)).mono ?_
  rintro e w1 ⟨rfl, rfl⟩
  go_wp2_with fail
  go_ret
  exact ⟨rfl, rfl⟩

theorem xm_T {S0 : List Nat} {w0 w : World} {p : Option Addr} {g cap x : Nat} {rs : List Res} {s : Rn} (H : XHas S0 w0 p g cap x rs s w) : Calls Try.prog 82 #[.pointer (some ⟨x, 0, none⟩)] w fun e w' => e = .returned (.int .u32 (mxOwn s)) ∧ w = w' := by
  obtain ⟨y1, y2, y3⟩ := H.whose rfl rfl rfl
  go_enter Try.func82, Try.ntmps82
  go_wp2
  go_ret
  refine ⟨?_, rfl⟩
  show Ending.returned (Value.int .u32 _) = Ending.returned (Value.int .u32 _)
  unfold mxOwn
  congr 2
  omega

set_option maxHeartbeats 800000 in
theorem xm_noted {S0 : List Nat} {w0 w : World} {p : Option Addr} {g cap x : Nat} {rs : List Res} {s : Rn} {A : Option Addr} {nn c : Nat} {l : List Int} (hN : ∀ W s', XHas S0 w0 p g cap x rs s' W → Rd W 1 A nn (i64s l)) (H : XHas S0 w0 p g cap x rs s w) (hn : l.length = nn) (hc : s.notes.length + l.length ≤ 1000) :
    Calls Try.prog 85 #[.pointer (some ⟨x, 0, none⟩), .slice A nn c] w fun e w' => e = .returned (.tuple #[]) ∧ XHas S0 w0 p g cap x rs (s.noted l) w' := by
  subst hn
  have hll : l.length ≤ 1000 := by omega
  have HC := Lib.hid hc
  have HH := Lib.hid H
  clear hc H
  go_enter Try.func85, Try.ntmps85
  go_wp2_with fail
  go_loopw [4] (fun i wr => ∃ k : Nat, k ≤ l.length ∧ i = .int .i64 k ∧ XHas S0 w0 p g cap x rs (s.noted (l.take k)) wr) (fun i _ => l.length - (intOf i).toNat)
  case atStart => exact ⟨0, Nat.zero_le _, rfl, HH.out⟩
  case round =>
    obtain ⟨k, hk, rfl, hH⟩ := hrel
    have HK := Lib.hid hH
    clear hH
    by_cases hlt : k < l.length
    · obtain ⟨b, off, rfl, hbl, hcell⟩ := i64s_at (hN _ _ HK.out) hlt
      obtain ⟨y, hx⟩ : ∃ y, l.getD k 0 = y := ⟨_, rfl⟩
      rw [hx] at hcell
      have HX := Lib.hid hx
      clear hx
      have hi : (k : Int) < (l.length : Int) := by omega
      go_wp2_with fail
      refine (x_note HK.out (by rw [noted_notes]; have := HC.out; simp only [List.length_take]; omega) y 0).mono ?_
      rintro e w1 ⟨rfl, H1⟩
      go_wp2
      exact ⟨⟨k + 1, by omega, by go_num, by rw [noted_succ s l k hlt, HX.out]; exact H1⟩, by simp [intOf]; omega⟩
    · have hkn : k = l.length := by omega
      subst hkn
      have hi : (l.length : Int) ≤ (l.length : Int) := Int.le_refl _
      have H2 := HK.out
      rw [List.take_length] at H2
      clear HK hlt hk
      go_wp2_with fail
      go_end0
      exact ⟨rfl, H2⟩

set_option maxHeartbeats 800000 in
set_option maxRecDepth 100000 in
theorem xm_e0 {S0 : List Nat} {w0 w : World} {p : Option Addr} {g cap x : Nat} {rs : List Res} {s : Rn} (H : XHas S0 w0 p g cap x rs s w) (tail cls : Int) (ha : 0 ≤ s.f.a ∧ s.f.a < 4294967296) (hl : s.f.line = 0) :
    Calls Try.prog 27 #[.pointer (some ⟨x, 0, none⟩), .int .i64 tail, .int .i64 cls] w fun e w' => e = .returned (.bool false) ∧ XHas S0 w0 p g cap x rs (mxE0 s) w' := by
  obtain ⟨o, hop⟩ : ∃ o, s.f.op = o := ⟨_, rfl⟩
  obtain ⟨z0, z2, z4, z5, z6, z7⟩ := H.facts hop hl rfl rfl
  obtain ⟨y1, y2, y3⟩ := H.whose rfl rfl rfl
  have HA := Lib.hid ha
  have HH := Lib.hid H
  clear H ha
  go_enter Try.func27, Try.ntmps27
  go_wp2_with fail
  refine (xm_next HH.out s.task).mono ?_
  rintro e w1 ⟨rfl, rfl⟩
  go_wp2_with fail
  refine (xn_store HH.out (cellP s.n 0 s.task) 0 (by decide)).mono ?_
  rintro e w2 ⟨rfl, H2⟩
  obtain ⟨x0, x2, x4, x5, x6, x7⟩ := H2.facts hop hl rfl rfl
  go_wp2_with fail
  first | go_ret | go_ret2
  exact ⟨rfl, (H2.goto 1)⟩

set_option maxHeartbeats 800000 in
set_option maxRecDepth 100000 in
theorem xm_e1 {S0 : List Nat} {w0 w : World} {p : Option Addr} {g cap x : Nat} {rs : List Res} {s : Rn} (H : XHas S0 w0 p g cap x rs s w) (tail cls : Int) (ha : 0 ≤ s.f.a ∧ s.f.a < 4294967296) (hl : s.f.line = 1) :
    Calls Try.prog 27 #[.pointer (some ⟨x, 0, none⟩), .int .i64 tail, .int .i64 cls] w fun e w' => e = .returned (.bool false) ∧ XHas S0 w0 p g cap x rs (mxE1 s) w' := by
  obtain ⟨o, hop⟩ : ∃ o, s.f.op = o := ⟨_, rfl⟩
  obtain ⟨z0, z2, z4, z5, z6, z7⟩ := H.facts hop hl rfl rfl
  obtain ⟨y1, y2, y3⟩ := H.whose rfl rfl rfl
  have HA := Lib.hid ha
  have HH := Lib.hid H
  clear H ha
  go_enter Try.func27, Try.ntmps27
  go_wp2_with fail
  refine (xm_blocked HH.out s.task).mono ?_
  rintro e w1 ⟨rfl, rfl⟩
  go_wp2_with fail
  refine (xn_store HH.out (cellP s.n 1 s.task) 1 (by decide)).mono ?_
  rintro e w2 ⟨rfl, H2⟩
  obtain ⟨x0, x2, x4, x5, x6, x7⟩ := H2.facts hop hl rfl rfl
  go_wp2_with fail
  first | go_ret | go_ret2
  exact ⟨rfl, (H2.goto 2)⟩

set_option maxHeartbeats 800000 in
set_option maxRecDepth 100000 in
theorem xm_e2 {S0 : List Nat} {w0 w : World} {p : Option Addr} {g cap x : Nat} {rs : List Res} {s : Rn} (H : XHas S0 w0 p g cap x rs s w) (tail cls : Int) (hc : s.notes.length ≤ 900) (ha : 0 ≤ s.f.a ∧ s.f.a < 4294967296) (hl : s.f.line = 2) :
    Calls Try.prog 27 #[.pointer (some ⟨x, 0, none⟩), .int .i64 tail, .int .i64 cls] w fun e w' => e = .returned (.bool (mxE2 tail cls s).1) ∧ XHas S0 w0 p g cap x rs ((mxE2 tail cls s).2) w' := by
  obtain ⟨o, hop⟩ : ∃ o, s.f.op = o := ⟨_, rfl⟩
  obtain ⟨z0, z2, z4, z5, z6, z7⟩ := H.facts hop hl rfl rfl
  obtain ⟨y1, y2, y3⟩ := H.whose rfl rfl rfl
  have HA := Lib.hid ha
  have HH := Lib.hid H
  clear H ha
  have hsw := fun W (H : XHas S0 w0 p g cap x rs s W) => xn_swap H tail (mxOwn s) (mxOwn_word s)
  have HC := Lib.hid hc
  unfold mxE2
  (try dsimp only)
  have HSW := Lib.hid hsw
  clear hsw hc
  by_cases hz : (doA s.L ⟨4, tail, mxOwn s, 0, 0⟩).1.old = 0
  · simp only [if_pos hz]
    have hzb : ((doA s.L ⟨4, tail, mxOwn s, 0, 0⟩).1.old != 0) = false := by simpa using hz
    have hzc : ((doA s.L ⟨4, tail, mxOwn s, 0, 0⟩).1.old == 0) = true := by simpa using hz
    clear hz
    go_enter Try.func27, Try.ntmps27
    go_wp2_with fail
    refine (xm_T HH.out).mono ?_
    rintro e w1 ⟨rfl, rfl⟩
    go_wp2_with fail
    refine (HSW.out _ HH.out).mono ?_
    rintro e w2 ⟨rfl, H2⟩
    obtain ⟨x0, x2, x4, x5, x6, x7⟩ := H2.facts hop hl rfl rfl
    go_wp2_with fail
    refine (x_note (H2.setA (doA s.L ⟨4, tail, mxOwn s, 0, 0⟩).1.old) (by have := HC.out; first | exact Nat.le_trans this (by decide) | (simp [Rn.note, Rn.did, Rn.setA, Rn.setB, Rn.waited, Rn.goto, Rn.noted]; omega)) 2 cls).mono ?_
    rintro e w3 ⟨rfl, H3⟩
    obtain ⟨x0, x2, x4, x5, x6, x7⟩ := H3.facts hop hl (y := (doA s.L ⟨4, tail, mxOwn s, 0, 0⟩).1.old) rfl rfl
    go_wp2_with fail
    first | go_ret | go_ret2
    exact ⟨rfl, H3⟩
  · simp only [if_neg hz]
    have hzb : ((doA s.L ⟨4, tail, mxOwn s, 0, 0⟩).1.old != 0) = true := by simpa using hz
    have hzc : ((doA s.L ⟨4, tail, mxOwn s, 0, 0⟩).1.old == 0) = false := by simpa using hz
    clear hz
    go_enter Try.func27, Try.ntmps27
    go_wp2_with fail
    refine (xm_T HH.out).mono ?_
    rintro e w1 ⟨rfl, rfl⟩
    go_wp2_with fail
    refine (HSW.out _ HH.out).mono ?_
    rintro e w2 ⟨rfl, H2⟩
    obtain ⟨x0, x2, x4, x5, x6, x7⟩ := H2.facts hop hl rfl rfl
    go_wp2_with fail
    refine (x_note (H2.setA (doA s.L ⟨4, tail, mxOwn s, 0, 0⟩).1.old) (by have := HC.out; first | exact Nat.le_trans this (by decide) | (simp [Rn.note, Rn.did, Rn.setA, Rn.setB, Rn.waited, Rn.goto, Rn.noted]; omega)) 2 cls).mono ?_
    rintro e w3 ⟨rfl, H3⟩
    obtain ⟨x0, x2, x4, x5, x6, x7⟩ := H3.facts hop hl (y := (doA s.L ⟨4, tail, mxOwn s, 0, 0⟩).1.old) rfl rfl
    go_wp2_with fail
    first | go_ret | go_ret2
    exact ⟨rfl, (H3.goto 3)⟩

set_option maxHeartbeats 800000 in
set_option maxRecDepth 100000 in
theorem xm_e3 {S0 : List Nat} {w0 w : World} {p : Option Addr} {g cap x : Nat} {rs : List Res} {s : Rn} (H : XHas S0 w0 p g cap x rs s w) (tail cls : Int) (ha : 0 ≤ s.f.a ∧ s.f.a < 4294967296) (hl : s.f.line = 3) :
    Calls Try.prog 27 #[.pointer (some ⟨x, 0, none⟩), .int .i64 tail, .int .i64 cls] w fun e w' => e = .returned (.bool false) ∧ XHas S0 w0 p g cap x rs (mxE3 s) w' := by
  obtain ⟨o, hop⟩ : ∃ o, s.f.op = o := ⟨_, rfl⟩
  obtain ⟨z0, z2, z4, z5, z6, z7⟩ := H.facts hop hl rfl rfl
  obtain ⟨y1, y2, y3⟩ := H.whose rfl rfl rfl
  have hwr : IntKind.i64.wrap (s.f.a - 1) = s.f.a - 1 := IntWalk.i64_in _ (by omega)
  have hb1 : -1 ≤ s.f.a - 1 ∧ s.f.a - 1 < 4294967296 := by omega
  have HA := Lib.hid ha
  have HH := Lib.hid H
  clear H ha
  go_enter Try.func27, Try.ntmps27
  go_wp2_with fail
  refine (xm_next HH.out (s.f.a - 1)).mono ?_
  rintro e w1 ⟨rfl, rfl⟩
  go_wp2_with fail
  refine (xm_T HH.out).mono ?_
  rintro e w2 ⟨rfl, rfl⟩
  go_wp2_with fail
  refine (xn_store HH.out (cellP s.n 0 (s.f.a - 1)) (mxOwn s) (mxOwn_word s)).mono ?_
  rintro e w3 ⟨rfl, H3⟩
  obtain ⟨x0, x2, x4, x5, x6, x7⟩ := H3.facts hop hl rfl rfl
  go_wp2_with fail
  refine (xn_wake H3 (cellP s.n 0 (s.f.a - 1))).mono ?_
  rintro e w4 ⟨rfl, H4⟩
  obtain ⟨x0, x2, x4, x5, x6, x7⟩ := H4.facts hop hl rfl rfl
  go_wp2_with fail
  first | go_ret | go_ret2
  exact ⟨rfl, (H4.goto 4)⟩

set_option maxHeartbeats 800000 in
set_option maxRecDepth 100000 in
theorem xm_e4 {S0 : List Nat} {w0 w : World} {p : Option Addr} {g cap x : Nat} {rs : List Res} {s : Rn} (H : XHas S0 w0 p g cap x rs s w) (tail cls : Int) (ha : 0 ≤ s.f.a ∧ s.f.a < 4294967296) (hl : s.f.line = 4) :
    Calls Try.prog 27 #[.pointer (some ⟨x, 0, none⟩), .int .i64 tail, .int .i64 cls] w fun e w' => e = .returned (.bool (mxE4 s).1) ∧ XHas S0 w0 p g cap x rs ((mxE4 s).2) w' := by
  obtain ⟨o, hop⟩ : ∃ o, s.f.op = o := ⟨_, rfl⟩
  obtain ⟨z0, z2, z4, z5, z6, z7⟩ := H.facts hop hl rfl rfl
  obtain ⟨y1, y2, y3⟩ := H.whose rfl rfl rfl
  have HA := Lib.hid ha
  have HH := Lib.hid H
  clear H ha
  have hwt := fun W (H : XHas S0 w0 p g cap x rs s W) => xn_wait H (cellP s.n 1 s.task) 0 4294967295 0
  rw [waitA_like (q := fun v => v == 0) HH.out.words_ (fun v hv => untilA_all _ hv)] at hwt
  unfold mxE4
  have HWT := Lib.hid hwt
  clear hwt
  go_enter Try.func27, Try.ntmps27
  go_wp2_with fail
  refine (xm_blocked HH.out s.task).mono ?_
  rintro e w1 ⟨rfl, rfl⟩
  go_wp2_with fail
  refine (HWT.out _ HH.out).mono ?_
  rintro e w2 ⟨rfl, H2⟩
  obtain ⟨x0, x2, x4, x5, x6, x7⟩ := H2.facts hop hl rfl rfl
  go_wp2_with fail
  first | go_ret | go_ret2
  exact ⟨rfl, H2⟩

set_option maxHeartbeats 800000 in
theorem xm_en {S0 : List Nat} {w0 w : World} {p : Option Addr} {g cap x : Nat} {rs : List Res} {s : Rn} (H : XHas S0 w0 p g cap x rs s w) (tail cls : Int) {l : Int} (hl : s.f.line = l) (h : l ≠ 0 ∧ l ≠ 1 ∧ l ≠ 2 ∧ l ≠ 3 ∧ l ≠ 4) :
    Calls Try.prog 27 #[.pointer (some ⟨x, 0, none⟩), .int .i64 tail, .int .i64 cls] w fun e w' => e = .returned (.bool false) ∧ XHas S0 w0 p g cap x rs s w' := by
  obtain ⟨z0, z2, z4, z5, z6, z7⟩ := H.facts rfl hl rfl rfl
  obtain ⟨h0, h1, h2, h3, h4⟩ := h
  have b0 : (l == 0) = false := by simpa using h0
  have b1 : (l == 1) = false := by simpa using h1
  have b2 : (l == 2) = false := by simpa using h2
  have b3 : (l == 3) = false := by simpa using h3
  have b4 : (l == 4) = false := by simpa using h4
  have HH := Lib.hid H
  clear H h0 h1 h2 h3 h4 hl
  go_enter Try.func27, Try.ntmps27
  go_wp2_with fail
  go_ret
  exact ⟨rfl, HH.out⟩
/-- Entering, whatever the line. -/
theorem xm_enter {S0 : List Nat} {w0 w : World} {p : Option Addr} {g cap x : Nat} {rs : List Res} {s : Rn} (H : XHas S0 w0 p g cap x rs s w) (tail cls : Int) (ha : 0 ≤ s.f.a ∧ s.f.a < 4294967296) (hc : s.notes.length ≤ 900) :
    Calls Try.prog 27 #[.pointer (some ⟨x, 0, none⟩), .int .i64 tail, .int .i64 cls] w fun e w' => e = .returned (.bool (mxEnter tail cls s).1) ∧ XHas S0 w0 p g cap x rs (mxEnter tail cls s).2 w' := by
  unfold mxEnter
  by_cases h0 : s.f.line = 0
  · simp only [if_pos h0]; exact xm_e0 H tail cls ha h0
  simp only [if_neg h0]
  by_cases h1 : s.f.line = 1
  · simp only [if_pos h1]; exact xm_e1 H tail cls ha h1
  simp only [if_neg h1]
  by_cases h2 : s.f.line = 2
  · simp only [if_pos h2]; exact xm_e2 H tail cls hc ha h2
  simp only [if_neg h2]
  by_cases h3 : s.f.line = 3
  · simp only [if_pos h3]; exact xm_e3 H tail cls ha h3
  simp only [if_neg h3]
  by_cases h4 : s.f.line = 4
  · simp only [if_pos h4]; exact xm_e4 H tail cls ha h4
  simp only [if_neg h4]
  exact xm_en H tail cls rfl ⟨h0, h1, h2, h3, h4⟩

end Go.Proofs.Ytlndihdlodempaa.Z

/- The document's answer of layer 12: giving on, and a try. Written by genxmx.py. -/
set_option linter.unusedVariables false
set_option linter.unusedSimpArgs false
namespace Go.Proofs.Ytlndihdlodempaa.Z
open Go.RowKit

attribute [local go_sem ↓] Go.wp_at_zero Go.wp_at_succ

set_option maxHeartbeats 800000 in
set_option maxRecDepth 100000 in
theorem xm_g0 {S0 : List Nat} {w0 w : World} {p : Option Addr} {g cap x : Nat} {rs : List Res} {s : Rn} (H : XHas S0 w0 p g cap x rs s w) (tail q : Int) (hq : -1000 ≤ q ∧ q ≤ 1000) {A : Option Addr} {nn c : Nat} {nl : List Int} (hnl : nl.length = nn) (hN : ∀ W s', XHas S0 w0 p g cap x rs s' W → Rd W 1 A nn (i64s nl)) (hc : s.notes.length + nl.length ≤ 900) (ha : 0 ≤ s.f.a ∧ s.f.a < 4294967296) (hl : s.f.line = q) :
    Calls Try.prog 29 #[.pointer (some ⟨x, 0, none⟩), .int .i64 tail, .int .i64 q, .slice A nn c] w fun e w' => e = .returned (.bool false) ∧ XHas S0 w0 p g cap x rs (mxG0 q s) w' := by
  obtain ⟨o, hop⟩ : ∃ o, s.f.op = o := ⟨_, rfl⟩
  obtain ⟨z0, z2, z4, z5, z6, z7⟩ := H.facts hop hl rfl rfl
  obtain ⟨y1, y2, y3⟩ := H.whose rfl rfl rfl
  have w1 : IntKind.i64.wrap (q + 1) = q + 1 := IntWalk.i64_in _ (by omega)
  have w2 : IntKind.i64.wrap (q + 2) = q + 2 := IntWalk.i64_in _ (by omega)
  have w3 : IntKind.i64.wrap (q + 3) = q + 3 := IntWalk.i64_in _ (by omega)
  have d0 : (q == q) = true := by first | (simp; done) | (simp; omega)
  have HC := Lib.hid hc
  clear hc
  have HA := Lib.hid ha
  have HH := Lib.hid H
  clear H ha
  have hld := fun W (H : XHas S0 w0 p g cap x rs s W) => xn_load H (cellP s.n 0 s.task)
  unfold mxG0
  (try dsimp only)
  have HLD := Lib.hid hld
  clear hld
  by_cases hz : (doA s.L ⟨1, (cellP s.n 0 s.task), 0, 0, 0⟩).1.old = 0
  · simp only [if_pos hz]
    have hzb : ((doA s.L ⟨1, (cellP s.n 0 s.task), 0, 0, 0⟩).1.old != 0) = false := by simpa using hz
    clear hz
    go_enter Try.func29, Try.ntmps29
    go_wp2_with fail
    refine (xm_next HH.out s.task).mono ?_
    rintro e w1 ⟨rfl, rfl⟩
    go_wp2_with fail
    refine (HLD.out _ HH.out).mono ?_
    rintro e w2 ⟨rfl, H2⟩
    obtain ⟨x0, x2, x4, x5, x6, x7⟩ := H2.facts hop hl rfl rfl
    go_wp2_with fail
    first | go_ret | go_ret2
    exact ⟨rfl, ((H2.setA (doA s.L ⟨1, (cellP s.n 0 s.task), 0, 0, 0⟩).1.old).goto (q + 1))⟩
  · simp only [if_neg hz]
    have hzb : ((doA s.L ⟨1, (cellP s.n 0 s.task), 0, 0, 0⟩).1.old != 0) = true := by simpa using hz
    clear hz
    go_enter Try.func29, Try.ntmps29
    go_wp2_with fail
    refine (xm_next HH.out s.task).mono ?_
    rintro e w1 ⟨rfl, rfl⟩
    go_wp2_with fail
    refine (HLD.out _ HH.out).mono ?_
    rintro e w2 ⟨rfl, H2⟩
    obtain ⟨x0, x2, x4, x5, x6, x7⟩ := H2.facts hop hl rfl rfl
    go_wp2_with fail
    first | go_ret | go_ret2
    exact ⟨rfl, (((H2.setA (doA s.L ⟨1, (cellP s.n 0 s.task), 0, 0, 0⟩).1.old).goto (q + 1)).goto (q + 3))⟩

set_option maxHeartbeats 800000 in
set_option maxRecDepth 100000 in
theorem xm_g1 {S0 : List Nat} {w0 w : World} {p : Option Addr} {g cap x : Nat} {rs : List Res} {s : Rn} (H : XHas S0 w0 p g cap x rs s w) (tail q : Int) (hq : -1000 ≤ q ∧ q ≤ 1000) {A : Option Addr} {nn c : Nat} {nl : List Int} (hnl : nl.length = nn) (hN : ∀ W s', XHas S0 w0 p g cap x rs s' W → Rd W 1 A nn (i64s nl)) (hc : s.notes.length + nl.length ≤ 900) (ha : 0 ≤ s.f.a ∧ s.f.a < 4294967296) (hl : s.f.line = q + 1) :
    Calls Try.prog 29 #[.pointer (some ⟨x, 0, none⟩), .int .i64 tail, .int .i64 q, .slice A nn c] w fun e w' => e = .returned (.bool (mxG1 tail q nl s).1) ∧ XHas S0 w0 p g cap x rs ((mxG1 tail q nl s).2) w' := by
  obtain ⟨o, hop⟩ : ∃ o, s.f.op = o := ⟨_, rfl⟩
  obtain ⟨z0, z2, z4, z5, z6, z7⟩ := H.facts hop hl rfl rfl
  obtain ⟨y1, y2, y3⟩ := H.whose rfl rfl rfl
  have w1 : IntKind.i64.wrap (q + 1) = q + 1 := IntWalk.i64_in _ (by omega)
  have w2 : IntKind.i64.wrap (q + 2) = q + 2 := IntWalk.i64_in _ (by omega)
  have w3 : IntKind.i64.wrap (q + 3) = q + 3 := IntWalk.i64_in _ (by omega)
  have d0 : ((q + 1) == q) = false := by first | (simp; done) | (simp; omega)
  have d1 : ((q + 1) == q + 1) = true := by first | (simp; done) | (simp; omega)
  have HC := Lib.hid hc
  clear hc
  have HA := Lib.hid ha
  have HH := Lib.hid H
  clear H ha
  have hcas := fun W (H : XHas S0 w0 p g cap x rs s W) => xn_cas H tail (mxOwn s) 0 (mxOwn_word s) (by decide)
  unfold mxG1
  cases hb : casB s.L tail (mxOwn s) 0 with
  | true =>
    rw [hb] at hcas
    simp only [if_true]
    have HCAS := Lib.hid hcas
    clear hcas hb
    go_enter Try.func29, Try.ntmps29
    go_wp2_with fail
    refine (xm_T HH.out).mono ?_
    rintro e w1 ⟨rfl, rfl⟩
    go_wp2_with fail
    refine (HCAS.out _ HH.out).mono ?_
    rintro e w2 ⟨rfl, H2⟩
    obtain ⟨x0, x2, x4, x5, x6, x7⟩ := H2.facts hop hl rfl rfl
    go_wp2_with fail
    refine (xm_noted hN H2 hnl (by have := HC.out; simp [Rn.did]; omega)).mono ?_
    rintro e w3 ⟨rfl, H3⟩
    go_wp2_with fail
    first | go_ret | go_ret2
    exact ⟨rfl, H3⟩
  | false =>
    rw [hb] at hcas
    simp only [Bool.false_eq_true, if_false]
    have HCAS := Lib.hid hcas
    clear hcas hb
    go_enter Try.func29, Try.ntmps29
    go_wp2_with fail
    refine (xm_T HH.out).mono ?_
    rintro e w1 ⟨rfl, rfl⟩
    go_wp2_with fail
    refine (HCAS.out _ HH.out).mono ?_
    rintro e w2 ⟨rfl, H2⟩
    obtain ⟨x0, x2, x4, x5, x6, x7⟩ := H2.facts hop hl rfl rfl
    go_wp2_with fail
    first | go_ret | go_ret2
    exact ⟨rfl, (H2.goto (q + 2))⟩

set_option maxHeartbeats 800000 in
set_option maxRecDepth 100000 in
theorem xm_g2 {S0 : List Nat} {w0 w : World} {p : Option Addr} {g cap x : Nat} {rs : List Res} {s : Rn} (H : XHas S0 w0 p g cap x rs s w) (tail q : Int) (hq : -1000 ≤ q ∧ q ≤ 1000) {A : Option Addr} {nn c : Nat} {nl : List Int} (hnl : nl.length = nn) (hN : ∀ W s', XHas S0 w0 p g cap x rs s' W → Rd W 1 A nn (i64s nl)) (hc : s.notes.length + nl.length ≤ 900) (ha : 0 ≤ s.f.a ∧ s.f.a < 4294967296) (hl : s.f.line = q + 2) :
    Calls Try.prog 29 #[.pointer (some ⟨x, 0, none⟩), .int .i64 tail, .int .i64 q, .slice A nn c] w fun e w' => e = .returned (.bool false) ∧ XHas S0 w0 p g cap x rs (mxG2 q s) w' := by
  obtain ⟨o, hop⟩ : ∃ o, s.f.op = o := ⟨_, rfl⟩
  obtain ⟨z0, z2, z4, z5, z6, z7⟩ := H.facts hop hl rfl rfl
  obtain ⟨y1, y2, y3⟩ := H.whose rfl rfl rfl
  have w1 : IntKind.i64.wrap (q + 1) = q + 1 := IntWalk.i64_in _ (by omega)
  have w2 : IntKind.i64.wrap (q + 2) = q + 2 := IntWalk.i64_in _ (by omega)
  have w3 : IntKind.i64.wrap (q + 3) = q + 3 := IntWalk.i64_in _ (by omega)
  have d0 : ((q + 2) == q) = false := by first | (simp; done) | (simp; omega)
  have d1 : ((q + 2) == q + 1) = false := by first | (simp; done) | (simp; omega)
  have d2 : ((q + 2) == q + 2) = true := by first | (simp; done) | (simp; omega)
  have HC := Lib.hid hc
  clear hc
  have HA := Lib.hid ha
  have HH := Lib.hid H
  clear H ha
  have hwt := fun W (H : XHas S0 w0 p g cap x rs s W) => xn_wait H (cellP s.n 0 s.task) 1 4294967295 0
  rw [waitA_like (q := fun v => v != 0) HH.out.words_ (fun v hv => untilA_some _ hv)] at hwt
  unfold mxG2 Rn.keep
  (try dsimp only)
  cases hs : (waitA s.L s.n s.mode s.task s.f.st (cellP s.n 0 s.task) (fun v => v != 0)).seen <;> cases hd : (waitA s.L s.n s.mode s.task s.f.st (cellP s.n 0 s.task) (fun v => v != 0)).done <;> rw [hs, hd] at hwt <;> simp only [hs, if_true, Bool.false_eq_true, if_false] <;> (have HWT := Lib.hid hwt) <;> clear hwt hs hd
  · go_enter Try.func29, Try.ntmps29
    go_wp2_with fail
    refine (xm_next HH.out s.task).mono ?_
    rintro e w1 ⟨rfl, rfl⟩
    go_wp2_with fail
    refine (HWT.out _ HH.out).mono ?_
    rintro e w2 ⟨rfl, H2⟩
    obtain ⟨x0, x2, x4, x5, x6, x7⟩ := H2.facts hop hl rfl rfl
    go_wp2_with fail
    first | go_ret | go_ret2
    exact ⟨rfl, H2⟩
  · go_enter Try.func29, Try.ntmps29
    go_wp2_with fail
    refine (xm_next HH.out s.task).mono ?_
    rintro e w1 ⟨rfl, rfl⟩
    go_wp2_with fail
    refine (HWT.out _ HH.out).mono ?_
    rintro e w2 ⟨rfl, H2⟩
    obtain ⟨x0, x2, x4, x5, x6, x7⟩ := H2.facts hop hl rfl rfl
    go_wp2_with fail
    first | go_ret | go_ret2
    exact ⟨rfl, (H2.goto (q + 3))⟩
  · go_enter Try.func29, Try.ntmps29
    go_wp2_with fail
    refine (xm_next HH.out s.task).mono ?_
    rintro e w1 ⟨rfl, rfl⟩
    go_wp2_with fail
    refine (HWT.out _ HH.out).mono ?_
    rintro e w2 ⟨rfl, H2⟩
    obtain ⟨x0, x2, x4, x5, x6, x7⟩ := H2.facts hop hl rfl rfl
    have x18 := H2.old18 (o := (waitA s.L s.n s.mode s.task s.f.st (cellP s.n 0 s.task) (fun v => v != 0)).acc.old) rfl
    go_wp2_with fail
    first | go_ret | go_ret2
    exact ⟨rfl, (H2.setA (waitA s.L s.n s.mode s.task s.f.st (cellP s.n 0 s.task) (fun v => v != 0)).acc.old)⟩
  · go_enter Try.func29, Try.ntmps29
    go_wp2_with fail
    refine (xm_next HH.out s.task).mono ?_
    rintro e w1 ⟨rfl, rfl⟩
    go_wp2_with fail
    refine (HWT.out _ HH.out).mono ?_
    rintro e w2 ⟨rfl, H2⟩
    obtain ⟨x0, x2, x4, x5, x6, x7⟩ := H2.facts hop hl rfl rfl
    have x18 := H2.old18 (o := (waitA s.L s.n s.mode s.task s.f.st (cellP s.n 0 s.task) (fun v => v != 0)).acc.old) rfl
    go_wp2_with fail
    first | go_ret | go_ret2
    exact ⟨rfl, ((H2.setA (waitA s.L s.n s.mode s.task s.f.st (cellP s.n 0 s.task) (fun v => v != 0)).acc.old).goto (q + 3))⟩

set_option maxHeartbeats 800000 in
set_option maxRecDepth 100000 in
theorem xm_g3 {S0 : List Nat} {w0 w : World} {p : Option Addr} {g cap x : Nat} {rs : List Res} {s : Rn} (H : XHas S0 w0 p g cap x rs s w) (tail q : Int) (hq : -1000 ≤ q ∧ q ≤ 1000) {A : Option Addr} {nn c : Nat} {nl : List Int} (hnl : nl.length = nn) (hN : ∀ W s', XHas S0 w0 p g cap x rs s' W → Rd W 1 A nn (i64s nl)) (hc : s.notes.length + nl.length ≤ 900) (ha : 0 ≤ s.f.a ∧ s.f.a < 4294967296) (hl : s.f.line = q + 3) :
    Calls Try.prog 29 #[.pointer (some ⟨x, 0, none⟩), .int .i64 tail, .int .i64 q, .slice A nn c] w fun e w' => e = .returned (.bool true) ∧ XHas S0 w0 p g cap x rs (mxG3 nl s) w' := by
  obtain ⟨o, hop⟩ : ∃ o, s.f.op = o := ⟨_, rfl⟩
  obtain ⟨z0, z2, z4, z5, z6, z7⟩ := H.facts hop hl rfl rfl
  obtain ⟨y1, y2, y3⟩ := H.whose rfl rfl rfl
  have w1 : IntKind.i64.wrap (q + 1) = q + 1 := IntWalk.i64_in _ (by omega)
  have w2 : IntKind.i64.wrap (q + 2) = q + 2 := IntWalk.i64_in _ (by omega)
  have w3 : IntKind.i64.wrap (q + 3) = q + 3 := IntWalk.i64_in _ (by omega)
  have d0 : ((q + 3) == q) = false := by first | (simp; done) | (simp; omega)
  have d1 : ((q + 3) == q + 1) = false := by first | (simp; done) | (simp; omega)
  have d2 : ((q + 3) == q + 2) = false := by first | (simp; done) | (simp; omega)
  have d3 : ((q + 3) == q + 3) = true := by first | (simp; done) | (simp; omega)
  have HC := Lib.hid hc
  clear hc
  have HA := Lib.hid ha
  have HH := Lib.hid H
  clear H ha
  have hwr : IntKind.i64.wrap (s.f.a - 1) = s.f.a - 1 := IntWalk.i64_in _ (by have := HA.out; omega)
  have hb1 : -1 ≤ s.f.a - 1 ∧ s.f.a - 1 < 4294967296 := by have := HA.out; omega
  go_enter Try.func29, Try.ntmps29
  go_wp2_with fail
  refine (xm_blocked HH.out (s.f.a - 1)).mono ?_
  rintro e w1 ⟨rfl, rfl⟩
  go_wp2_with fail
  refine (xn_store HH.out (cellP s.n 1 (s.f.a - 1)) 0 (by decide)).mono ?_
  rintro e w2 ⟨rfl, H2⟩
  obtain ⟨x0, x2, x4, x5, x6, x7⟩ := H2.facts hop hl rfl rfl
  go_wp2_with fail
  refine (xm_noted hN H2 hnl (by have := HC.out; simp [Rn.did]; omega)).mono ?_
  rintro e w3 ⟨rfl, H3⟩
  go_wp2_with fail
  refine (xn_wake H3 (cellP s.n 1 (s.f.a - 1))).mono ?_
  rintro e w4 ⟨rfl, H4⟩
  go_wp2_with fail
  first | go_ret | go_ret2
  exact ⟨rfl, H4⟩

set_option maxHeartbeats 800000 in
theorem xm_gn {S0 : List Nat} {w0 w : World} {p : Option Addr} {g cap x : Nat} {rs : List Res} {s : Rn} (H : XHas S0 w0 p g cap x rs s w) (tail q : Int) (hq : -1000 ≤ q ∧ q ≤ 1000) {A : Option Addr} {nn c : Nat} {l : Int} (hl : s.f.line = l) (h : l ≠ q ∧ l ≠ q + 1 ∧ l ≠ q + 2 ∧ l ≠ q + 3) :
    Calls Try.prog 29 #[.pointer (some ⟨x, 0, none⟩), .int .i64 tail, .int .i64 q, .slice A nn c] w fun e w' => e = .returned (.bool false) ∧ XHas S0 w0 p g cap x rs s w' := by
  obtain ⟨z0, z2, z4, z5, z6, z7⟩ := H.facts rfl hl rfl rfl
  obtain ⟨h0, h1, h2, h3⟩ := h
  have w1 : IntKind.i64.wrap (q + 1) = q + 1 := IntWalk.i64_in _ (by omega)
  have w2 : IntKind.i64.wrap (q + 2) = q + 2 := IntWalk.i64_in _ (by omega)
  have w3 : IntKind.i64.wrap (q + 3) = q + 3 := IntWalk.i64_in _ (by omega)
  have b0 : (l == q) = false := by simpa using h0
  have b1 : (l == q + 1) = false := by simpa using h1
  have b2 : (l == q + 2) = false := by simpa using h2
  have b3 : (l == q + 3) = false := by simpa using h3
  have HH := Lib.hid H
  clear H h0 h1 h2 h3 hl
  go_enter Try.func29, Try.ntmps29
  go_wp2_with fail
  go_ret
  exact ⟨rfl, HH.out⟩
theorem wrap_line {l q k : Int} (hl : I64 l) (hq : -1000 ≤ q ∧ q ≤ 1000) (hk : 0 ≤ k ∧ k ≤ 3) : (wrap64 (l - q) = k) = (l = q + k) := by
  obtain ⟨h1, h2⟩ := hl
  refine propext ⟨fun h => ?_, fun h => ?_⟩
  · unfold wrap64 at h
    omega
  · subst h
    unfold wrap64
    omega
/-- Giving on, whatever the line. -/
theorem xm_give {S0 : List Nat} {w0 w : World} {p : Option Addr} {g cap x : Nat} {rs : List Res} {s : Rn} (H : XHas S0 w0 p g cap x rs s w) (tail q : Int) (hq : -1000 ≤ q ∧ q ≤ 1000) {A : Option Addr} {nn c : Nat} {nl : List Int} (hnl : nl.length = nn) (hN : ∀ W s', XHas S0 w0 p g cap x rs s' W → Rd W 1 A nn (i64s nl)) (hc : s.notes.length + nl.length ≤ 900) (hI : I64 s.f.line) (ha : 0 ≤ s.f.a ∧ s.f.a < 4294967296) :
    Calls Try.prog 29 #[.pointer (some ⟨x, 0, none⟩), .int .i64 tail, .int .i64 q, .slice A nn c] w fun e w' => e = .returned (.bool (mxGive tail q nl s).1) ∧ XHas S0 w0 p g cap x rs (mxGive tail q nl s).2 w' := by
  unfold mxGive
  simp only [wrap_line hI hq (show (0 : Int) ≤ 0 ∧ (0 : Int) ≤ 3 by decide), wrap_line hI hq (show (0 : Int) ≤ 1 ∧ (1 : Int) ≤ 3 by decide), wrap_line hI hq (show (0 : Int) ≤ 2 ∧ (2 : Int) ≤ 3 by decide), wrap_line hI hq (show (0 : Int) ≤ 3 ∧ (3 : Int) ≤ 3 by decide), Int.add_zero]
  by_cases h0 : s.f.line = q
  · simp only [if_pos h0]; exact xm_g0 H tail q hq hnl hN hc ha h0
  simp only [if_neg h0]
  by_cases h1 : s.f.line = q + 1
  · simp only [if_pos h1]; exact xm_g1 H tail q hq hnl hN hc ha h1
  simp only [if_neg h1]
  by_cases h2 : s.f.line = q + 2
  · simp only [if_pos h2]; exact xm_g2 H tail q hq hnl hN hc ha h2
  simp only [if_neg h2]
  by_cases h3 : s.f.line = q + 3
  · simp only [if_pos h3]; exact xm_g3 H tail q hq hnl hN hc ha h3
  simp only [if_neg h3]
  exact xm_gn H tail q hq rfl ⟨h0, h1, h2, h3⟩

/-- A try's line. -/
def xmTry (tail q : Int) (s : Rn) : Bool × Bool × Rn :=
  if s.f.line = q then (false, false, (s.did (doA s.L ⟨2, (cellP s.n 0 s.task), 0, 0, 0⟩)).goto (q + 1)) else if s.f.line = q + 1 then (true, casB s.L tail 0 (mxOwn s), s.did (doA s.L ⟨5, tail, 0, mxOwn s, 0⟩)) else (false, false, s)

set_option maxHeartbeats 800000 in
set_option maxRecDepth 100000 in
theorem xm_t0 {S0 : List Nat} {w0 w : World} {p : Option Addr} {g cap x : Nat} {rs : List Res} {s : Rn} (H : XHas S0 w0 p g cap x rs s w) (tail q : Int) (hq : -1000 ≤ q ∧ q ≤ 1000) (ha : 0 ≤ s.f.a ∧ s.f.a < 4294967296) (hl : s.f.line = q) :
    Calls Try.prog 31 #[.pointer (some ⟨x, 0, none⟩), .int .i64 tail, .int .i64 q] w fun e w' => e = .returned (.tuple #[.bool false, .bool false]) ∧ XHas S0 w0 p g cap x rs ((s.did (doA s.L ⟨2, (cellP s.n 0 s.task), 0, 0, 0⟩)).goto (q + 1)) w' := by
  obtain ⟨o, hop⟩ : ∃ o, s.f.op = o := ⟨_, rfl⟩
  obtain ⟨z0, z2, z4, z5, z6, z7⟩ := H.facts hop hl rfl rfl
  obtain ⟨y1, y2, y3⟩ := H.whose rfl rfl rfl
  have w1 : IntKind.i64.wrap (q + 1) = q + 1 := IntWalk.i64_in _ (by omega)
  have d0 : (q == q) = true := by first | (simp; done) | (simp; omega)
  have HA := Lib.hid ha
  have HH := Lib.hid H
  clear H ha
  go_enter Try.func31, Try.ntmps31
  go_wp2_with fail
  refine (xm_next HH.out s.task).mono ?_
  rintro e w1 ⟨rfl, rfl⟩
  go_wp2_with fail
  refine (xn_store HH.out (cellP s.n 0 s.task) 0 (by decide)).mono ?_
  rintro e w2 ⟨rfl, H2⟩
  obtain ⟨x0, x2, x4, x5, x6, x7⟩ := H2.facts hop hl rfl rfl
  go_wp2_with fail
  first | go_ret | go_ret2
  exact ⟨rfl, (H2.goto (q + 1))⟩

set_option maxHeartbeats 800000 in
set_option maxRecDepth 100000 in
theorem xm_t1 {S0 : List Nat} {w0 w : World} {p : Option Addr} {g cap x : Nat} {rs : List Res} {s : Rn} (H : XHas S0 w0 p g cap x rs s w) (tail q : Int) (hq : -1000 ≤ q ∧ q ≤ 1000) (ha : 0 ≤ s.f.a ∧ s.f.a < 4294967296) (hl : s.f.line = q + 1) :
    Calls Try.prog 31 #[.pointer (some ⟨x, 0, none⟩), .int .i64 tail, .int .i64 q] w fun e w' => e = .returned (.tuple #[.bool true, .bool (casB s.L tail 0 (mxOwn s))]) ∧ XHas S0 w0 p g cap x rs (s.did (doA s.L ⟨5, tail, 0, mxOwn s, 0⟩)) w' := by
  obtain ⟨o, hop⟩ : ∃ o, s.f.op = o := ⟨_, rfl⟩
  obtain ⟨z0, z2, z4, z5, z6, z7⟩ := H.facts hop hl rfl rfl
  obtain ⟨y1, y2, y3⟩ := H.whose rfl rfl rfl
  have w1 : IntKind.i64.wrap (q + 1) = q + 1 := IntWalk.i64_in _ (by omega)
  have d0 : ((q + 1) == q) = false := by first | (simp; done) | (simp; omega)
  have d1 : ((q + 1) == q + 1) = true := by first | (simp; done) | (simp; omega)
  have HA := Lib.hid ha
  have HH := Lib.hid H
  clear H ha
  go_enter Try.func31, Try.ntmps31
  go_wp2_with fail
  refine (xm_T HH.out).mono ?_
  rintro e w1 ⟨rfl, rfl⟩
  go_wp2_with fail
  refine (xn_cas HH.out tail 0 (mxOwn s) (by decide) (mxOwn_word s)).mono ?_
  rintro e w2 ⟨rfl, H2⟩
  obtain ⟨x0, x2, x4, x5, x6, x7⟩ := H2.facts hop hl rfl rfl
  go_wp2_with fail
  first | go_ret | go_ret2
  exact ⟨rfl, H2⟩

set_option maxHeartbeats 800000 in
theorem xm_tn {S0 : List Nat} {w0 w : World} {p : Option Addr} {g cap x : Nat} {rs : List Res} {s : Rn} (H : XHas S0 w0 p g cap x rs s w) (tail q : Int) (hq : -1000 ≤ q ∧ q ≤ 1000) {l : Int} (hl : s.f.line = l) (h : l ≠ q ∧ l ≠ q + 1) :
    Calls Try.prog 31 #[.pointer (some ⟨x, 0, none⟩), .int .i64 tail, .int .i64 q] w fun e w' => e = .returned (.tuple #[.bool false, .bool false]) ∧ XHas S0 w0 p g cap x rs s w' := by
  obtain ⟨z0, z2, z4, z5, z6, z7⟩ := H.facts rfl hl rfl rfl
  obtain ⟨h0, h1⟩ := h
  have w1 : IntKind.i64.wrap (q + 1) = q + 1 := IntWalk.i64_in _ (by omega)
  have b0 : (l == q) = false := by simpa using h0
  have b1 : (l == q + 1) = false := by simpa using h1
  have HH := Lib.hid H
  clear H h0 h1 hl
  go_enter Try.func31, Try.ntmps31
  go_wp2_with fail
  go_ret2
  exact ⟨rfl, HH.out⟩
theorem xm_try {S0 : List Nat} {w0 w : World} {p : Option Addr} {g cap x : Nat} {rs : List Res} {s : Rn} (H : XHas S0 w0 p g cap x rs s w) (tail q : Int) (hq : -1000 ≤ q ∧ q ≤ 1000) (ha : 0 ≤ s.f.a ∧ s.f.a < 4294967296) :
    Calls Try.prog 31 #[.pointer (some ⟨x, 0, none⟩), .int .i64 tail, .int .i64 q] w fun e w' => e = .returned (.tuple #[.bool (xmTry tail q s).1, .bool (xmTry tail q s).2.1]) ∧ XHas S0 w0 p g cap x rs (xmTry tail q s).2.2 w' := by
  unfold xmTry
  by_cases h0 : s.f.line = q
  · simp only [if_pos h0]; exact xm_t0 H tail q hq ha h0
  simp only [if_neg h0]
  by_cases h1 : s.f.line = q + 1
  · simp only [if_pos h1]; exact xm_t1 H tail q hq ha h1
  simp only [if_neg h1]
  exact xm_tn H tail q hq rfl ⟨h0, h1⟩
theorem xmTry_fq (tail : Int) (s : Rn) (hI : I64 s.f.line) : xmTry tail 0 s = mxTry tail s := by
  unfold xmTry mxTry
  have e0 := wrap_line (q := 0) (k := 0) hI (by decide) (by decide)
  have e1 := wrap_line (q := 0) (k := 1) hI (by decide) (by decide)
  simp only [Int.sub_zero, Int.zero_add] at e0 e1 ⊢
  simp only [e0, e1]
  rfl

end Go.Proofs.Ytlndihdlodempaa.Z

/- Package mutex: the lines of who tries, from any line on. Written by genmg.py. -/
set_option linter.unusedVariables false
set_option linter.unusedSimpArgs false
namespace Go.Proofs.Ytlndihdlodempaa.Z
open Go.RowKit
attribute [local go_sem ↓] Go.wp_at_zero Go.wp_at_succ

set_option maxHeartbeats 800000 in
theorem mg_t0 {S0 : List Nat} {w0 w : World} {m a r : Nat} {rs : List Res} {s : Rn} (H : RunHas S0 w0 m a r rs s w) (tail q : Int) (hq : -1000 ≤ q ∧ q ≤ 1000) {l : Int} (hsub : wrap64 (l - q) = 0) (hl : s.f.line = l) (hn : I64 s.n) :
    Calls Try.prog 30 #[.pointer (some ⟨r, 0, none⟩), .int .i64 tail, .int .i64 q] w fun e w' => e = .returned (.tuple #[.bool false, .bool false]) ∧ RunHas S0 w0 m a r rs ((s.did (doA s.L ⟨2, cellP s.n 0 s.task, 0, 0, 0⟩)).goto (q + 1)) w' := by
  obtain ⟨o, hop⟩ : ∃ o, s.f.op = o := ⟨_, rfl⟩
  obtain ⟨z0, z2, z4, z5, z6, z7⟩ := H.facts rfl hl rfl rfl
  obtain ⟨y1, y2, y3⟩ := H.whose rfl rfl rfl
  have HN := Lib.hid hn
  have HH := Lib.hid H
  have HNX := Lib.hid (fun W => mapNext s.n s.task W hn)
  have HST := Lib.hid (fun W (H : RunHas S0 w0 m a r rs s W) => rn_store H (cellP s.n 0 s.task) 0 (by decide))
  clear H hn
  go_enter Try.func30, Try.ntmps30
  go_wp2_with fail
  go_region_held3 (fun w' => w'.cell? ⟨r, 1, none⟩ = some (.int .i64 s.n) ∧ w'.cell? ⟨r, 3, none⟩ = some (.int .i64 s.task) ∧ w'.cell? ⟨r, 6, none⟩ = some (.int .u32 s.f.a))
    (first | with_reducible exact RunHas.sees HH.out | with_reducible exact RunHas.sees HH.out.drew | (refine RunHas.sees (S0 := S0) (w0 := w0) (m := m) (a := a) (rs := rs) (s := s) ?_; with_reducible assumption) | (refine RunHas.sees_did (S0 := S0) (w0 := w0) (m := m) (a := a) (rs := rs) (s := s) (R := doA s.L ⟨2, cellP s.n 0 s.task, 0, 0, 0⟩) ?_; with_reducible assumption) | (refine RunHas.sees_wtd (S0 := S0) (w0 := w0) (m := m) (a := a) (rs := rs) (s := s) (R := doA s.L ⟨2, cellP s.n 0 s.task, 0, 0, 0⟩) ?_; with_reducible assumption))
    (first | (go_at_call 75; refine (HNX.out _).mono ?_; rintro e w1 ⟨rfl, t1⟩; have H1 := RunHas.grow (by first | with_reducible exact HH.out | with_reducible exact HH.out.drew) t1) | (go_at_call 47; (with_reducible refine (HST.out _ H1).mono ?_); rintro e w2 ⟨rfl, H2⟩))
  go_wp2_with fail
  refine (rn_go H2 (q + 1)).mono ?_
  rintro e w3 ⟨rfl, H3⟩
  go_wp2_with fail
  refine bodyPost_ret (v := .tuple #[.bool false, .bool false]) (by simp [results, Try.results30, go_sem]) rfl ⟨rfl, ?_⟩
  exact H3

set_option maxHeartbeats 800000 in
theorem mg_t1 {S0 : List Nat} {w0 w : World} {m a r : Nat} {rs : List Res} {s : Rn} (H : RunHas S0 w0 m a r rs s w) (tail q : Int) (hq : -1000 ≤ q ∧ q ≤ 1000) {l : Int} (hsub : wrap64 (l - q) = 1) (hl : s.f.line = l) (hn : I64 s.n) :
    Calls Try.prog 30 #[.pointer (some ⟨r, 0, none⟩), .int .i64 tail, .int .i64 q] w fun e w' => e = .returned (.tuple #[.bool true, .bool (casB s.L tail 0 (mxOwn s))]) ∧ RunHas S0 w0 m a r rs (s.did (doA s.L ⟨5, tail, 0, mxOwn s, 0⟩)) w' := by
  obtain ⟨o, hop⟩ : ∃ o, s.f.op = o := ⟨_, rfl⟩
  obtain ⟨z0, z2, z4, z5, z6, z7⟩ := H.facts rfl hl rfl rfl
  obtain ⟨y1, y2, y3⟩ := H.whose rfl rfl rfl
  have HN := Lib.hid hn
  have HH := Lib.hid H
  clear H hn
  go_enter Try.func30, Try.ntmps30
  go_wp2_with fail
  refine (mx_own HH.out).mono ?_
  rintro e w9 ⟨rfl, rfl⟩
  go_wp2_with fail
  refine (rn_cas HH.out tail 0 (mxOwn s) (by decide) (mxOwn_word s)).mono ?_
  rintro e w1 ⟨rfl, H1⟩
  go_wp2_with fail
  refine bodyPost_ret (v := .tuple #[.bool true, .bool (casB s.L tail 0 (mxOwn s))]) (by simp [results, Try.results30, go_sem]) rfl ⟨rfl, ?_⟩
  exact H1

theorem mg_tnone {S0 : List Nat} {w0 w : World} {m a r : Nat} {rs : List Res} {s : Rn} (H : RunHas S0 w0 m a r rs s w) (tail q : Int) (hq : -1000 ≤ q ∧ q ≤ 1000) {l : Int} (hl : s.f.line = l) (h0 : ¬ wrap64 (l - q) = 0) (h1 : ¬ wrap64 (l - q) = 1) :
    Calls Try.prog 30 #[.pointer (some ⟨r, 0, none⟩), .int .i64 tail, .int .i64 q] w fun e w' => e = .returned (.tuple #[.bool false, .bool false]) ∧ RunHas S0 w0 m a r rs s w' := by
  obtain ⟨z0, z2, z4, z5, z6, z7⟩ := H.facts rfl hl rfl rfl
  have HH := Lib.hid H
  clear H
  go_enter Try.func30, Try.ntmps30
  go_wp2_with fail
  refine bodyPost_ret (v := .tuple #[.bool false, .bool false]) (by simp [results, Try.results30, go_sem]) rfl ⟨rfl, ?_⟩
  exact HH.out

theorem mg_try {S0 : List Nat} {w0 w : World} {m a r : Nat} {rs : List Res} {s : Rn} (H : RunHas S0 w0 m a r rs s w) (tail q : Int) (hq : -1000 ≤ q ∧ q ≤ 1000) (hI : I64 s.f.line) (hn : I64 s.n) :
    Calls Try.prog 30 #[.pointer (some ⟨r, 0, none⟩), .int .i64 tail, .int .i64 q] w fun e w' => e = .returned (.tuple #[.bool (xmTry tail q s).1, .bool (xmTry tail q s).2.1]) ∧ RunHas S0 w0 m a r rs (xmTry tail q s).2.2 w' := by
  have e0 := wrap_line (q := q) (k := 0) hI hq (by decide)
  have e1 := wrap_line (q := q) (k := 1) hI hq (by decide)
  rw [Int.add_zero] at e0
  unfold xmTry
  by_cases h0 : s.f.line = q
  · simp only [if_pos h0]; exact mg_t0 H tail q hq (e0.mpr h0) rfl hn
  simp only [if_neg h0]
  by_cases h1 : s.f.line = q + 1
  · simp only [if_pos h1]; exact mg_t1 H tail q hq (e1.mpr h1) rfl hn
  simp only [if_neg h1]
  exact mg_tnone H tail q hq rfl (fun h => h0 (e0.mp h)) (fun h => h1 (e1.mp h))

end Go.Proofs.Ytlndihdlodempaa.Z

/- Arguments opened: whole numbers, structs of whole numbers, slices of these. No statement is in sight. -/
set_option linter.unusedVariables false
set_option linter.unusedSimpArgs false
namespace Go.Proofs.Ytlndihdlodempaa.Z
open Go.RowKit Go.ChangeShapes Go.WideShapes Go.ChangeAt Go.Deep

/-- Whatever reads as a value of type t has cells of this form. -/
def Flat (P : Program) (t : TypeId) (ok : List Value → Prop) : Prop :=
  ∀ (H : Type) (enc : TypeId × Value → H) (w : World) (base : Nat) (spare : Nat → Bool) (held : Bool) (fuel : Nat) (cs : List Value) (x : DataW H × List MemPlace),
    DataW.trod enc P w base spare held fuel t cs = some x → ok cs

theorem flat_int {P : Program} {t : TypeId} {k : IntKind} (ht : P.underlying t = some (.int k)) : Flat P t (fun cs => ∃ n, cs = [.int k n] ∧ (Lit.int k n).wf = true) := by
  intro H enc w base spare held fuel cs x h
  obtain ⟨n, h1, _, h2⟩ := DataW.trod_int ht h
  exact ⟨n, h1, h2⟩

theorem flat_bool {P : Program} {t : TypeId} (ht : P.underlying t = some .bool) : Flat P t (fun cs => ∃ b, cs = [.bool b]) := by
  intro H enc w base spare held fuel cs x h
  obtain ⟨n, h1, _⟩ := DataW.trod_bool ht h
  exact ⟨n, h1⟩

theorem flat_mono {P : Program} {t : TypeId} {ok ok' : List Value → Prop} (h : Flat P t ok) (hm : ∀ cs, ok cs → ok' cs) : Flat P t ok' :=
  fun H enc w base spare held fuel cs x hx => hm _ (h H enc w base spare held fuel cs x hx)

/-- A struct: each field's cells are of that field's form. -/
theorem flat_struct {P : Program} {t : TypeId} {fs : Array Field} (ht : P.underlying t = some (.struct fs)) :
    Flat P t (fun cs => cs.length = P.cellsOf t ∧ ∀ (i : Nat) (f : Field) (ok : List Value → Prop), fs[i]? = some f → Flat P f.type ok → ok ((cs.drop f.offset).take (P.cellsOf f.type))) := by
  intro H enc w base spare held fuel cs x h
  obtain ⟨xs, n, _, _, hl, hxl, hf⟩ := DataW.trod_struct ht h
  refine ⟨hl, fun i f ok hi hok => ?_⟩
  have hil : i < fs.size := (Array.getElem?_eq_some_iff.1 hi).1
  have := hf i f hi
  rw [List.getElem?_eq_getElem (by omega)] at this
  exact hok H enc w base spare held n _ _ this

theorem wf_u32 {n : Int} (h : (Lit.int .u32 n).wf = true) : 0 ≤ n ∧ n < 4294967296 := by
  simp [Lit.wf, IntKind.min, IntKind.max, IntKind.signed, IntKind.bits] at h; omega
theorem wf_u8 {n : Int} (h : (Lit.int .u8 n).wf = true) : 0 ≤ n ∧ n < 256 := by
  simp [Lit.wf, IntKind.min, IntKind.max, IntKind.signed, IntKind.bits] at h; omega
theorem wf_i64 {n : Int} (h : (Lit.int .i64 n).wf = true) : -9223372036854775808 ≤ n ∧ n ≤ 9223372036854775807 := by
  simp [Lit.wf, IntKind.min, IntKind.max, IntKind.signed, IntKind.bits] at h; omega
theorem wf_i32 {n : Int} (h : (Lit.int .i32 n).wf = true) : -2147483648 ≤ n ∧ n < 2147483648 := by
  simp [Lit.wf, IntKind.min, IntKind.max, IntKind.signed, IntKind.bits] at h; omega

theorem flatMap_at {α : Type} {dec : α → List Value} {size : Nat} (hs : 0 < size) (hlen : ∀ a, (dec a).length = size) : ∀ (l : List α) (i j : Nat) (h : i < l.length), j < size → (l.flatMap dec)[i * size + j]? = (dec l[i])[j]? := by
  intro l
  induction l with
  | nil => intro i j h; simp at h
  | cons a l ih =>
    intro i j h hj
    rw [List.flatMap_cons]
    cases i with
    | zero =>
      rw [List.getElem?_append_left (by rw [hlen]; omega)]
      simp
    | succ i =>
      rw [List.getElem?_append_right (by rw [hlen, Nat.succ_mul]; omega), hlen, show (i + 1) * size + j - size = i * size + j by rw [Nat.succ_mul]; omega, ih i j (by simpa using h) hj]
      rfl

theorem flatMap_length {α : Type} {dec : α → List Value} {size : Nat} (hlen : ∀ a, (dec a).length = size) (l : List α) : (l.flatMap dec).length = l.length * size := by
  induction l with
  | nil => simp
  | cons a l ih => rw [List.flatMap_cons, List.length_append, ih, hlen, List.length_cons, Nat.succ_mul]; omega

/-- A slice of flat elements, as a list. -/
theorem open_list {P : Program} {H : Type} {enc : TypeId × Value → H} {w : World} {t e : TypeId} {α : Type} {dec : α → List Value} {ok : α → Prop} {size : Nat} {A : Option Addr} {n c : Nat} {d : DataW H} {p : List MemPlace}
    (ht : P.underlying t = some (.slice e)) (hF : Flat P e (fun cs => ∃ a, ok a ∧ cs = dec a)) (hC : P.cellsOf e = size) (hs : 0 < size) (hlen : ∀ a, (dec a).length = size)
    (h : DataW.Trod enc P w 0 (fun _ => true) true t (.slice A n c) d p) (lt : ∀ x ∈ p, x.block < w.heap.size) :
    ∃ l : List α, l.length = n ∧ (∀ a, a ∈ l → ok a) ∧ Rd w size A n (l.flatMap dec) ∧ n ≤ c ∧ c ≤ 9223372036854775807 := by
  obtain ⟨fuel, hf⟩ := h
  rcases open_slice ht hf with ⟨hcs, _⟩ | ⟨a, len, cap, m, n', D, Pl, hcs, hb, hl, hm, hmm, hx, hi⟩
  · simp [Value.cells] at hcs
    obtain ⟨rfl, rfl, rfl⟩ := hcs
    exact ⟨[], rfl, by simp, Rd.nil _ _ _, Nat.le_refl _, by decide⟩
  · simp [Value.cells] at hcs
    obtain ⟨rfl, rfl, rfl⟩ := hcs
    simp at hmm
    subst hmm
    have hE : ∀ i, i < n → ∃ y : α, ok y ∧ ∀ j, j < size → w.cell? (a.add (i * size + j)) = (dec y)[j]? := by
      intro i hin
      obtain ⟨cs', hc, htr⟩ := hi i (by omega)
      obtain ⟨y, hy, rfl⟩ := hF H enc w 0 _ true n' cs' _ htr
      rw [hC] at hc
      obtain ⟨_, hcl, hat⟩ := World.cells?_some hc
      exact ⟨y, hy, fun j hj => by rw [← Go.Deep.add_add]; exact hat j hj⟩
    have hL : ∀ n0, n0 ≤ n → ∃ l : List α, l.length = n0 ∧ ∀ i (h : i < l.length), ok l[i] ∧ ∀ j, j < size → w.cell? (a.add (i * size + j)) = (dec l[i])[j]? := by
      intro n0
      induction n0 with
      | zero => intro _; exact ⟨[], rfl, fun i h => by simp at h⟩
      | succ k ih =>
        intro hk
        obtain ⟨l, hl, hlp⟩ := ih (by omega)
        obtain ⟨y, hy, hyc⟩ := hE k (by omega)
        refine ⟨l ++ [y], by simp [hl], fun i h => ?_⟩
        by_cases hik : i < l.length
        · rw [List.getElem_append_left hik]; exact hlp i hik
        · have : i = k := by simp at h; omega
          subst this
          rw [List.getElem_append_right (by omega)]
          simp [hl]
          exact ⟨hy, hyc⟩
    obtain ⟨l, hll, hlp⟩ := hL n (Nat.le_refl _)
    refine ⟨l, hll, fun y hy => ?_, ⟨by rw [flatMap_length hlen, hll], fun h0 => ⟨a, rfl, ?_, fun j u hu => ?_⟩⟩, hl, hm⟩
    · obtain ⟨i, hi, rfl⟩ := List.getElem_of_mem hy
      exact (hlp i hi).1
    · have := (hlp 0 (by omega)).2 0 hs
      have h1 : (dec l[0])[0]? = some ((dec l[0])[0]'(by rw [hlen]; exact hs)) := List.getElem?_eq_getElem _
      rw [h1] at this
      have := World.block_lt_of_cell? w _ this
      rw [addr_block] at this
      exact this
    · have hj : j < l.length * size := by
        have := (List.getElem?_eq_some_iff.1 hu).1
        rwa [flatMap_length hlen] at this
      have e := Nat.div_add_mod j size
      have hd : j / size < l.length := Nat.div_lt_of_lt_mul (by rw [Nat.mul_comm]; exact hj)
      have hm := Nat.mod_lt j hs
      rw [Nat.mul_comm] at e
      have := (hlp _ hd).2 _ hm
      rw [e] at this
      rw [this, ← flatMap_at hs hlen l _ _ hd hm, e, hu]

/-- A struct by value, as its cells. -/
theorem open_flat {P : Program} {H : Type} {enc : TypeId × Value → H} {w : World} {t : TypeId} {fs : Array Field} {α : Type} {dec : α → List Value} {ok : α → Prop} {v : Value} {d : DataW H} {p : List MemPlace} {r : Reach} {base : Nat}
    (ht : P.underlying t = some (.struct fs)) (hF : Flat P t (fun cs => ∃ a, ok a ∧ cs = dec a)) (hv : Value.okWide P w r base t v) (h : DataW.Trod enc P w 0 (fun _ => true) true t v d p) :
    ∃ a, ok a ∧ v = .agg (dec a).toArray := by
  obtain ⟨cs, rfl, _⟩ := okWide_struct ht hv
  obtain ⟨fuel, hf⟩ := h
  obtain ⟨a, ha, hc⟩ := hF H enc w 0 _ true fuel _ _ hf
  refine ⟨a, ha, ?_⟩
  rw [← hc]
  simp [Value.cells]

/-- A number's value, its data left as they are. -/
theorem open_num {P : Program} {H : Type} {enc : TypeId × Value → H} {w : World} {t : TypeId} {k : IntKind} {v : Value} {d : DataW H} {p : List MemPlace} {r : Reach} {base : Nat}
    (ht : P.underlying t = some (.int k)) (hv : Value.okWide P w r base t v) (h : DataW.Trod enc P w 0 (fun _ => true) true t v d p) : ∃ n, v = .int k n ∧ (Lit.int k n).wf = true := by
  obtain ⟨n, h1, _, _, h2⟩ := open_int ht hv h
  exact ⟨n, h1, h2⟩

theorem open_truth {P : Program} {H : Type} {enc : TypeId × Value → H} {w : World} {t : TypeId} {v : Value} {d : DataW H} {p : List MemPlace} {r : Reach} {base : Nat}
    (ht : P.underlying t = some .bool) (hv : Value.okWide P w r base t v) (h : DataW.Trod enc P w 0 (fun _ => true) true t v d p) : ∃ b, v = .bool b := by
  obtain ⟨n, h1, _⟩ := open_bool ht hv h
  exact ⟨n, h1⟩

end Go.Proofs.Ytlndihdlodempaa.Z

/- Elements of slices of structs, by their cells. No program is in sight. -/
set_option linter.unusedVariables false
set_option linter.unusedSimpArgs false
namespace Go.Proofs.Ytlndihdlodempaa.Z
open Go.RowKit

theorem elem_head {α : Type} {dec : α → List Value} {size : Nat} {w : World} {B : Option Addr} {m i : Nat} {l : List α} (hs : 0 < size) (hlen : ∀ a, (dec a).length = size) (h : Rd w size B m (l.flatMap dec)) (hi : i < m) :
    ∃ b off x, B = some ⟨b, off, none⟩ ∧ b < w.heap.size ∧ l[i]? = some x ∧ x ∈ l := by
  obtain ⟨b, off, hB, hb, hc⟩ := h.lit (by omega) hs
  have hl : l.length = m := by
    have := h.1
    rw [flatMap_length hlen] at this
    exact Nat.eq_of_mul_eq_mul_right hs this
  exact ⟨b, off, l[i], hB, hb, List.getElem?_eq_getElem (by omega), List.getElem_mem _⟩

theorem elem_cells {α : Type} {dec : α → List Value} {size : Nat} {w : World} {b off m i : Nat} {x : α} {l : List α} (hs : 0 < size) (hlen : ∀ a, (dec a).length = size) (h : Rd w size (some ⟨b, off, none⟩) m (l.flatMap dec)) (hi : i < m) (hx : l[i]? = some x) :
    b < w.heap.size ∧ ∀ j u, (dec x)[j]? = some u → w.cell? ⟨b, off + i * size + j, none⟩ = some u := by
  obtain ⟨b', off', hB, hb, hc⟩ := h.lit (by omega) hs
  simp only [Option.some.injEq, Addr.mk.injEq] at hB
  obtain ⟨rfl, rfl, _⟩ := hB
  obtain ⟨hil, rfl⟩ := List.getElem?_eq_some_iff.1 hx
  refine ⟨hb, fun j u hu => ?_⟩
  have hj : j < size := by have := (List.getElem?_eq_some_iff.1 hu).1; rwa [hlen] at this
  rw [Nat.add_assoc]
  exact hc _ _ ((flatMap_at hs hlen l i j hil hj).trans hu)

end Go.Proofs.Ytlndihdlodempaa.Z
