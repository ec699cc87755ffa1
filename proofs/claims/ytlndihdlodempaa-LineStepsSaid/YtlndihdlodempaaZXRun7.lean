/- The document's run (stilemanref09), its calls, said of XHas. Written by genxrun7.py. -/
import Derived.Test.YtlndihdlodempaaZXNote
import Derived.Test.YtlndihdlodempaaZXWait
import Derived.Test.YtlndihdlodempaaZRun7
set_option linter.unusedVariables false
set_option linter.unusedSimpArgs false
namespace Go.Proofs.Ytlndihdlodempaa.Z
open Go.RowKit

theorem xn_load {S0 : List Nat} {w0 w : World} {p : Option Addr} {g cap x : Nat} {rs : List Res} {s : Rn} (H : XHas S0 w0 p g cap x rs s w) (c : Int) :
    Calls Try.prog 63 #[.pointer (some ⟨x, 0, none⟩), .int .i64 c] w fun e w' => e = .returned (.int .u32 (doA s.L ⟨1, c, 0, 0, 0⟩).1.old) ∧ XHas S0 w0 p g cap x rs (s.did (doA s.L ⟨1, c, 0, 0, 0⟩)) w' := by
  obtain ⟨nv, H⟩ := H
  exact (x_load H c).mono fun e w' h => ⟨h.1, nv, h.2⟩

theorem xn_add {S0 : List Nat} {w0 w : World} {p : Option Addr} {g cap x : Nat} {rs : List Res} {s : Rn} (H : XHas S0 w0 p g cap x rs s w) (c u : Int) (hu : 0 ≤ u ∧ u < 4294967296) :
    Calls Try.prog 65 #[.pointer (some ⟨x, 0, none⟩), .int .i64 c, .int .u32 u] w fun e w' => e = .returned (.int .u32 (doA s.L ⟨3, c, u, 0, 0⟩).1.old) ∧ XHas S0 w0 p g cap x rs (s.did (doA s.L ⟨3, c, u, 0, 0⟩)) w' := by
  obtain ⟨nv, H⟩ := H
  exact (x_add H c u hu).mono fun e w' h => ⟨h.1, nv, h.2⟩

theorem xn_cas {S0 : List Nat} {w0 w : World} {p : Option Addr} {g cap x : Nat} {rs : List Res} {s : Rn} (H : XHas S0 w0 p g cap x rs s w) (c u v : Int) (hu : 0 ≤ u ∧ u < 4294967296) (hv : 0 ≤ v ∧ v < 4294967296) :
    Calls Try.prog 67 #[.pointer (some ⟨x, 0, none⟩), .int .i64 c, .int .u32 u, .int .u32 v] w fun e w' => e = .returned (.bool (casB s.L c u v)) ∧ XHas S0 w0 p g cap x rs (s.did (doA s.L ⟨5, c, u, v, 0⟩)) w' := by
  obtain ⟨nv, H⟩ := H
  exact (x_cas H c u v hu hv).mono fun e w' h => ⟨h.1, nv, h.2⟩

theorem xn_end {S0 : List Nat} {w0 w : World} {p : Option Addr} {g cap x : Nat} {rs : List Res} {s : Rn} (H : XHas S0 w0 p g cap x rs s w) (b : Bool) :
    Calls Try.prog 70 #[.pointer (some ⟨x, 0, none⟩), .bool b] w fun e w' => e = .returned (.tuple #[]) ∧ XHas S0 w0 p g cap x rs (s.fin b) w' := by
  obtain ⟨nv, H⟩ := H
  exact (x_end H b).mono fun e w' h => ⟨h.1, nv, h.2⟩

theorem xn_wake {S0 : List Nat} {w0 w : World} {p : Option Addr} {g cap x : Nat} {rs : List Res} {s : Rn} (H : XHas S0 w0 p g cap x rs s w) (c : Int) :
    Calls Try.prog 71 #[.pointer (some ⟨x, 0, none⟩), .int .i64 c] w fun e w' => e = .returned (.tuple #[]) ∧ XHas S0 w0 p g cap x rs (s.wake c) w' := by
  obtain ⟨nv, H⟩ := H
  exact (x_wake H c).mono fun e w' h => ⟨h.1, nv, h.2⟩

theorem xn_wait {S0 : List Nat} {w0 w : World} {p : Option Addr} {g cap x : Nat} {rs : List Res} {s : Rn} (H : XHas S0 w0 p g cap x rs s w) (c k mk u : Int) :
    Calls Try.prog 68 #[.pointer (some ⟨x, 0, none⟩), .int .i64 c, .agg #[.int .i64 k, .int .u32 mk, .int .u32 u]] w
      fun e w' => e = .returned (.tuple #[.bool (waitA s.L s.n s.mode s.task s.f.st c (untilA k mk u)).seen, .bool (waitA s.L s.n s.mode s.task s.f.st c (untilA k mk u)).done]) ∧ XHas S0 w0 p g cap x rs (s.waited (waitA s.L s.n s.mode s.task s.f.st c (untilA k mk u))) w' := by
  obtain ⟨nv, H⟩ := H
  exact (x_wait H c k mk u).mono fun e w' h => ⟨h.1, nv, h.2⟩
theorem XHas.facts {S0 : List Nat} {w0 w : World} {p : Option Addr} {g cap x : Nat} {rs : List Res} {s : Rn} (H : XHas S0 w0 p g cap x rs s w) {o l y z : Int} (ho : s.f.op = o) (hl : s.f.line = l) (hx : s.f.a = y) (hy : s.f.b = z) :
    x < w.heap.size ∧ (∀ i, w.frozen? ⟨x, i, none⟩ = false) ∧ w.cell? ⟨x, 4, none⟩ = some (.int .i64 o) ∧ w.cell? ⟨x, 5, none⟩ = some (.int .i64 l) ∧ w.cell? ⟨x, 6, none⟩ = some (.int .u32 y) ∧ w.cell? ⟨x, 7, none⟩ = some (.int .u32 z) := by
  obtain ⟨nv, H⟩ := H
  subst ho hl hx hy
  obtain ⟨x0, x1, x2⟩ := H.blk1.own
  exact ⟨x0, x2, x1 4, x1 5, x1 6, x1 7⟩
theorem XHas.setA {S0 : List Nat} {w0 w : World} {p : Option Addr} {g cap x : Nat} {rs : List Res} {s : Rn} (H : XHas S0 w0 p g cap x rs s w) (v : Int) : XHas S0 w0 p g cap x rs (s.setA v) (w.setCell ⟨x, 6, none⟩ (.int .u32 v)) := by
  obtain ⟨nv, H⟩ := H
  exact ⟨nv, H.set1 6 (.int .u32 v)⟩
theorem XHas.setB {S0 : List Nat} {w0 w : World} {p : Option Addr} {g cap x : Nat} {rs : List Res} {s : Rn} (H : XHas S0 w0 p g cap x rs s w) (v : Int) : XHas S0 w0 p g cap x rs (s.setB v) (w.setCell ⟨x, 7, none⟩ (.int .u32 v)) := by
  obtain ⟨nv, H⟩ := H
  exact ⟨nv, H.set1 7 (.int .u32 v)⟩
theorem XHas.goto {S0 : List Nat} {w0 w : World} {p : Option Addr} {g cap x : Nat} {rs : List Res} {s : Rn} (H : XHas S0 w0 p g cap x rs s w) (v : Int) : XHas S0 w0 p g cap x rs (s.goto v) (w.setCell ⟨x, 5, none⟩ (.int .i64 v)) := by
  obtain ⟨nv, H⟩ := H
  exact ⟨nv, H.set1 5 (.int .i64 v)⟩
theorem XHas.drew {S0 : List Nat} {w0 w : World} {p : Option Addr} {g cap x : Nat} {rs : List Res} {s : Rn} (H : XHas S0 w0 p g cap x rs s w) : XHas S0 w0 p g cap x rs s w.drew := by
  obtain ⟨nv, H⟩ := H
  exact ⟨nv, H.drew⟩
theorem XHas.drewN {S0 : List Nat} {w0 w : World} {p : Option Addr} {g cap x : Nat} {rs : List Res} {s : Rn} (H : XHas S0 w0 p g cap x rs s w) (k : Nat) : XHas S0 w0 p g cap x rs s (w.drewN k) := by
  obtain ⟨nv, H⟩ := H
  exact ⟨nv, H.drewN k⟩
theorem XHas.grow {w' : World} {S0 : List Nat} {w0 w : World} {p : Option Addr} {g cap x : Nat} {rs : List Res} {s : Rn} (H : XHas S0 w0 p g cap x rs s w) (t : Touch [] w w') : XHas S0 w0 p g cap x rs s w' := by
  obtain ⟨nv, H⟩ := H
  exact ⟨nv, H.grow t⟩
theorem XHas.old {S0 : List Nat} {w0 w : World} {p : Option Addr} {g cap x : Nat} {rs : List Res} {s : Rn} (H : XHas S0 w0 p g cap x rs s w) (b : Acc) : 0 ≤ (doA s.L b).1.old ∧ (doA s.L b).1.old < 4294967296 := by
  obtain ⟨nv, H⟩ := H
  exact doA_old s.L H.row.words b

/-- A step of its wake-up. -/
theorem xn_waking_on {S0 : List Nat} {w0 w : World} {p : Option Addr} {g cap x : Nat} {rs : List Res} {s : Rn} (H : XHas S0 w0 p g cap x rs s w) (hon : s.f.wk.on = true) :
    Calls Try.prog 17 #[.pointer (some ⟨x, 0, none⟩)] w fun e w' => e = .returned (.bool true) ∧ XHas S0 w0 p g cap x rs s.woke w' := by
  obtain ⟨nv, H⟩ := H
  exact (x_waking_on H hon).mono fun e w' h => ⟨h.1, .slice none 0 0, h.2.own_drop.own_nil _ _⟩
theorem xn_waking_off {S0 : List Nat} {w0 w : World} {p : Option Addr} {g cap x : Nat} {rs : List Res} {s : Rn} (H : XHas S0 w0 p g cap x rs s w) (hoff : s.f.wk.on = false) :
    Calls Try.prog 17 #[.pointer (some ⟨x, 0, none⟩)] w fun e w' => e = .returned (.bool false) ∧ XHas S0 w0 p g cap x rs s.fresh w' := by
  obtain ⟨nv, H⟩ := H
  exact (x_waking_off H hoff).mono fun e w' h => ⟨h.1, .slice none 0 0, h.2.own_drop.own_nil _ _⟩
theorem xn_over {S0 : List Nat} {w0 w : World} {p : Option Addr} {g cap x : Nat} {rs : List Res} {s : Rn} (H : XHas S0 w0 p g cap x rs s w) :
    Calls Try.prog 20 #[.pointer (some ⟨x, 0, none⟩)] w fun e w' => e = .returned (.bool s.over) ∧ w = w' := by
  obtain ⟨nv, H⟩ := H
  exact x_over H

end Go.Proofs.Ytlndihdlodempaa.Z
