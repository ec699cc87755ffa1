/- The document's run (stilemanref09): its waiting. -/
import Derived.Test.YtlndihdlodempaaZXRun
import Derived.Test.YtlndihdlodempaaZFin
import Derived.Deep.RegionHeld3
import Derived.Deep.DrawnRows
set_option linter.unusedVariables false
set_option linter.unusedSimpArgs false
namespace Go.Proofs.Ytlndihdlodempaa.Z
open Go.RowKit
attribute [local go_sem ↓] Go.wp_at_zero Go.wp_at_succ

theorem rwait_has {S0 : List Nat} {w0 w : World} {p : Option Addr} {g cap : Nat} {L : List Int} {rs : List Res} (H : Has S0 w0 w (.row p g cap L :: rs)) (n mode task stage c : Int) (k mk x : Int) :
    Calls Try.prog 134 #[.slice p L.length cap, .int .i64 n, .int .i64 mode, .int .i64 task, .agg #[.int .i64 stage], .int .i64 c, .agg #[.int .i64 k, .int .u32 mk, .int .u32 x]] w
      fun e w' => e = .returned (waitA L n mode task stage c (untilA k mk x)).value ∧ Has S0 w0 w' (.row p g cap (waitA L n mode task stage c (untilA k mk x)).words :: rs) :=
  (rwait_any H.row H.cap.1 H.cap.2 n mode task stage c k mk x).mono fun e w' h => ⟨h.1, H.wordsRow h.2.1 (waitA_len ..) h.2.2⟩

theorem twoBlks {w : World} {x u : Nat} {cs us : Array Value} (h : Blk w x cs) (k : Blk w u us) : Blk w x cs ∧ Blk w u us ∧ (∀ i, w.cell? ⟨x, i, none⟩ = cs[i]?) ∧ (∀ i, w.cell? ⟨u, i, none⟩ = us[i]?) := ⟨h, k, h.cell, k.cell⟩

set_option maxHeartbeats 3200000 in
set_option maxRecDepth 100000 in
theorem x_wait {S0 : List Nat} {w0 w : World} {p : Option Addr} {g cap x : Nat} {nv : Value} {rs : List Res} {s : Rn} (H : Has S0 w0 w (.row p g cap (s).L :: .blk x (xcells p cap (s) nv) :: rs)) (c k mk u : Int) :
    Calls Try.prog 68 #[.pointer (some ⟨x, 0, none⟩), .int .i64 c, .agg #[.int .i64 k, .int .u32 mk, .int .u32 u]] w
      fun e w' => e = .returned (.tuple #[.bool (waitA s.L s.n s.mode s.task s.f.st c (untilA k mk u)).seen, .bool (waitA s.L s.n s.mode s.task s.f.st c (untilA k mk u)).done]) ∧ Has S0 w0 w' (.row p g cap (s.waited (waitA s.L s.n s.mode s.task s.f.st c (untilA k mk u))).L :: .blk x (xcells p cap (s.waited (waitA s.L s.n s.mode s.task s.f.st c (untilA k mk u))) nv) :: rs) := by
  obtain ⟨n, mode, task, ⟨op, line, fa, fb, st, ⟨on, wc, wi, hit⟩, ret⟩, ⟨ak, ac, ax, ay, ao⟩, notes, L⟩ := s
  have hlen := waitA_len L n mode task st c (untilA k mk u)
  have hw := fun W rs (H : Has S0 w0 W (.row p g cap L :: rs)) => rwait_has H n mode task st c k mk u
  simp only [xcells, Rn.waited] at *
  generalize waitA L n mode task st c (untilA k mk u) = R at hw hlen ⊢
  obtain ⟨rst, ⟨rk, rc, rx, ry, ro⟩, rs', rd, L2⟩ := R
  simp only [WaitR.value, Acc.cells] at hw hlen ⊢
  rw [hlen]
  obtain ⟨x0, x1, x2⟩ := H.blk1.own
  have HW := Lib.hid hw
  have HH := Lib.hid H
  have B1 : Blk (w.alloc (.cells #[.int .i64 k, .int .u32 mk, .int .u32 u] 85)) x _ := H.blk1.alloc _
  have B2 : Blk (w.alloc (.cells #[.int .i64 k, .int .u32 mk, .int .u32 u] 85)) w.heap.size _ := Blk.new _ _ _
  clear hw H hlen
  go_enter Try.func68, Try.ntmps68
  go_wp2_with fail
  go_region_held3 (fun w' => Blk w' x #[.slice p L.length cap, .int .i64 n, .int .i64 mode, .int .i64 task, .int .i64 op, .int .i64 line, .int .u32 fa, .int .u32 fb, .int .i64 st, .bool on, .int .i64 wc, .int .i64 wi, .bool hit, .int .i64 ret, .int .i64 ak, .int .i64 ac, .int .u32 ax, .int .u32 ay, .int .u32 ao, nv] ∧ Blk w' w.heap.size #[.int .i64 k, .int .u32 mk, .int .u32 u] ∧ (∀ i, w'.cell? ⟨x, i, none⟩ = #[Value.slice p L.length cap, .int .i64 n, .int .i64 mode, .int .i64 task, .int .i64 op, .int .i64 line, .int .u32 fa, .int .u32 fb, .int .i64 st, .bool on, .int .i64 wc, .int .i64 wi, .bool hit, .int .i64 ret, .int .i64 ak, .int .i64 ac, .int .u32 ax, .int .u32 ay, .int .u32 ao, nv][i]?) ∧ (∀ i, w'.cell? ⟨w.heap.size, i, none⟩ = #[Value.int .i64 k, .int .u32 mk, .int .u32 u][i]?))
    (first | (go_split_ands; refine twoBlks ?_ ?_ <;> (repeat (first | with_reducible assumption | with_reducible exact B1 | with_reducible exact B2 | with_reducible refine Blk.drew ?_ | with_reducible refine Blk.alloc ?_ _ | (with_reducible refine Blk.setNe2 ?_ ?_; first | omega | (dsimp only; omega))))))
    (first
      | (go_at_call 134; with_reducible refine (HW.out _ _ HH.out.al21.drew).mono ?_; rintro e w1 ⟨rfl, H1⟩; have C1 := H1.blk1; have C2 := H1.at_ 2 rfl; have l1 := C1.lt; have l2 := C2.lt)
      | (go_at_call 134; with_reducible refine (HW.out _ _ HH.out.al22.drew).mono ?_; rintro e w1 ⟨rfl, H1⟩; have C1 := H1.blk1; have C2 := H1.at_ 3 rfl; have l1 := C1.lt; have l2 := C2.lt; obtain ⟨z0, z1, z2⟩ := (H1.at_ 2 rfl).own)
      | (go_at_call 134; with_reducible refine (HW.out _ _ HH.out.al23.drew).mono ?_; rintro e w1 ⟨rfl, H1⟩; have C1 := H1.blk1; have C2 := H1.at_ 4 rfl; have l1 := C1.lt; have l2 := C2.lt; obtain ⟨z0, z1, z2⟩ := (H1.at_ 2 rfl).own; obtain ⟨v0, v1, v2⟩ := (H1.at_ 3 rfl).own))
  all_goals
    obtain ⟨y0, y1, y2⟩ := H1.blk1.own
    go_wp2
    go_ret2
    refine ⟨rfl, ?_⟩
    first
      | refine Has.fin [_] H1 ?_ ?_
      | refine Has.fin [_, _] H1 ?_ ?_
      | refine Has.fin [_, _, _] H1 ?_ ?_
    · repeat (first | with_reducible exact Touch.refl _ _ | with_reducible refine Touch.alloc ?_ _ | with_reducible refine Touch.set ?_ (by simp [foots, Res.foot]) _ | with_reducible refine Touch.setNew ?_ (by simp) _)
    · refine Blk.eq (cs := (Array.setIfInBounds (Array.setIfInBounds (Array.setIfInBounds (Array.setIfInBounds (Array.setIfInBounds (Array.setIfInBounds #[.slice p L.length cap, .int .i64 n, .int .i64 mode, .int .i64 task, .int .i64 op, .int .i64 line, .int .u32 fa, .int .u32 fb, .int .i64 st, .bool on, .int .i64 wc, .int .i64 wi, .bool hit, .int .i64 ret, .int .i64 ak, .int .i64 ac, .int .u32 ax, .int .u32 ay, .int .u32 ao, nv] 8 (.int .i64 rst)) 14 (.int .i64 rk)) 15 (.int .i64 rc)) 16 (.int .u32 rx)) 17 (.int .u32 ry)) 18 (.int .u32 ro))) ?_ (by simp only [List.setIfInBounds_toArray, List.set_cons_zero, List.set_cons_succ])
      repeat (first | with_reducible exact C1 | with_reducible refine Blk.set ?_ _ _ | with_reducible refine Blk.alloc ?_ _ | (with_reducible refine Blk.setNe2 ?_ ?_; first | omega | (dsimp only; omega)))

end Go.Proofs.Ytlndihdlodempaa.Z
