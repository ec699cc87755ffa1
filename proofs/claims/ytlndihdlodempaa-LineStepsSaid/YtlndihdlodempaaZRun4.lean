/- Package line: a run's waiting, and its step. -/
import Derived.Test.YtlndihdlodempaaZRun3
import Derived.Test.YtlndihdlodempaaZRef07b
import Derived.Deep.RegionHeld3
import Derived.Deep.DrawnRows
import Derived.Outline
set_option linter.unusedVariables false
set_option linter.unusedSimpArgs false
namespace Go.Proofs.Ytlndihdlodempaa.Z
open Go.RowKit
attribute [local go_sem ↓] Go.wp_at_zero Go.wp_at_succ

theorem Has.grow_far {S0 : List Nat} {w0 w w' : World} {rs : List Res} {B : Nat} {T : List Nat} (h : Has S0 w0 w rs) (hB : ∀ r, r ∈ rs → ∀ k, k ∈ r.foot → k < B) (hw : w0.heap.size ≤ B) (t : Touch T w w') (hT : ∀ k, k ∈ T → B ≤ k) : Has S0 w0 w' rs := by
  refine ⟨?_, fun r hr => Res.keep (h.all r hr) t (fun k hk hm => by have := hB r hr k hk; have := hT k hm; omega), h.apart, h.fresh⟩
  refine ⟨t.os.trans h.touch.os, t.tape.trans h.touch.tape, t.output.trans h.touch.output, Nat.le_trans h.touch.size t.size, fun k hk hs => ?_⟩
  exact (t.block k (Nat.lt_of_lt_of_le hk h.touch.size) (fun hm => by have := hT k hm; omega)).trans (h.touch.block k hk hs)

/-- A step of waiting: where to look changes nothing. -/
theorem wstep_pure {S0 : List Nat} {w0 w : World} {m a : Nat} {L : List Int} {rs : List Res} (H : Has S0 w0 w (.mem m a L :: rs)) (n mode task stage c : Int) (hn : I64 n) (fid : FuncId) (first cap : Array Value) (p : Int → Bool)
    (eg : ∀ args w, (callFunc fid args).run Try.prog w = .ok (.enter fid args) w)
    (hF : ∀ W v, 0 ≤ v → v < 4294967296 → Has S0 w0 W (.mem m a L :: rs) → Calls Try.prog fid (first ++ #[.int .u32 v] ++ cap) W fun e W' => e = .returned (.bool (p v)) ∧ Touch [] W W') :
    Calls Try.prog 128 #[.pointer (some ⟨m, 0, none⟩), .agg #[.int .i64 n], .int .i64 mode, .int .i64 task, .agg #[.int .i64 stage], .int .i64 c, .func (.func fid) first cap] w
      fun e w' => e = .returned (waitA L n mode task stage c p).value ∧ Has S0 w0 w' (.mem m a (waitA L n mode task stage c p).words :: rs) := by
  refine (wait_any H.mem n mode task stage c hn fid first cap p eg (fun W v h0 h1 t => hF W v h0 h1 (H.grow t))).mono ?_
  rintro e w' ⟨he, hM, t⟩
  refine ⟨he, H.words hM ?_ t⟩
  rcases stageA_is mode stage with e | e | e | e | e
  · rw [waitA0 e]
  · rw [waitA1 e]; exact doA_length _ _
  · rw [waitA2 e]
  · rw [waitA3 e]
    show (takeA L n task).2.2.length = _
    unfold takeA
    split
    · exact doA_length _ _
    · rfl
  · rw [waitA4 e]; exact doA_length _ _

/-- What was seen is kept in the frame. -/
def Rn.keep (s : Rn) (R : WaitR) : Rn := if R.seen then s.setA R.acc.old else s

set_option maxHeartbeats 800000 in
set_option maxRecDepth 100000 in
/-- A run waits, by whatever step of waiting. -/
theorem run_wait {S0 : List Nat} {w0 w : World} {m a r : Nat} {nv : Value} {rs : List Res} {s s2 : Rn} (H : Has S0 w0 w (.mem m a s.L :: .blk r (rcells m s nv) :: rs)) (c : Int) (fv : Value) (R : WaitR)
    (hw : ∀ W, Has S0 w0 W (.mem m a s.L :: .blk r (rcells m s nv) :: rs) →
      Calls Try.prog 128 #[.pointer (some ⟨m, 0, none⟩), .agg #[.int .i64 s.n], .int .i64 s.mode, .int .i64 s.task, .agg #[.int .i64 s.f.st], .int .i64 c, fv] W
        fun e w' => e = .returned R.value ∧ Has S0 w0 w' (.mem m a R.words :: .blk r (rcells m s2 nv) :: rs)) :
    Calls Try.prog 57 #[.pointer (some ⟨r, 0, none⟩), .int .i64 c, fv] w
      fun e w' => e = .returned (.tuple #[.bool R.seen, .bool R.done]) ∧ Has S0 w0 w' (.mem m a (s2.waited R).L :: .blk r (rcells m (s2.waited R) nv) :: rs) := by
  obtain ⟨n, mode, task, ⟨op, line, fa, fb, st, ⟨on, wc, wi, hit⟩, ret⟩, ⟨ak, ac, ax, ay, ao⟩, notes, L⟩ := s
  obtain ⟨n', mode', task', ⟨op', line', fa', fb', st', ⟨on', wc', wi', hit'⟩, ret'⟩, ⟨ak', ac', ax', ay', ao'⟩, notes', L'⟩ := s2
  obtain ⟨rst, ⟨rk, rc, rx, ry, ro⟩, rs', rd, L2⟩ := R
  simp only [WaitR.value, Acc.cells, rcells, Rn.waited] at *
  obtain ⟨x0, x1, x2⟩ := H.blk1.own
  have HW := Lib.hid hw
  have HH := Lib.hid H
  clear hw H
  go_enter Try.func57, Try.ntmps57
  go_wp2_with fail
  refine region_flat (by kernel_rfl) (by kernel_rfl) ?_
  simp only [probed, probes, List.nil_append]
  go_wp2_with fail
  refine (HW.out _ HH.out.drew).mono ?_
  rintro e w1 ⟨rfl, H1⟩
  clear x0 x1 x2
  obtain ⟨y0, y1, y2⟩ := H1.blk1.own
  go_wp2_with fail
  rw [only_normal]
  rename_i hK
  refine hK _ _ ?_
  clear hK
  refine wp_from (Facts := fun W => Has S0 w0 W (.mem m a L2 :: .blk r #[.pointer (some ⟨m, 0, none⟩), .int .i64 n', .int .i64 mode', .int .i64 task', .int .i64 op', .int .i64 line', .int .u32 fa', .int .u32 fb', .int .i64 rst, .bool on', .int .i64 wc', .int .i64 wi', .bool hit', .int .i64 ret', .int .i64 rk, .int .i64 rc, .int .u32 rx, .int .u32 ry, .int .u32 ro, nv] :: rs)) ?_
    ((((((H1.set1 8 _).set1 14 _).set1 15 _).set1 16 _).set1 17 _).set1 18 _)
  intro W HW'
  clear y0 y1 y2 H1
  go_wp2
  go_ret2
  exact ⟨rfl, HW'⟩

theorem run_wait_nil (w : World) (c : Int) (fv : Value) :
    Calls Try.prog 57 #[.pointer none, .int .i64 c, fv] w fun e w' => e = .returned (.tuple #[.bool false, .bool false]) ∧ Touch [] w w' := by
  go_enter Try.func57, Try.ntmps57
  go_wp2
  go_ret2
  exact ⟨rfl, Touch.refl _ _⟩

/-- A run waits, where to look changes nothing. -/
theorem run_wait_pure {S0 : List Nat} {w0 w : World} {m a r : Nat} {nv : Value} {rs : List Res} {s : Rn} (H : Has S0 w0 w (.mem m a s.L :: .blk r (rcells m s nv) :: rs)) (hn : I64 s.n) (c : Int) (fid : FuncId) (first cap : Array Value) (p : Int → Bool)
    (eg : ∀ args w, (callFunc fid args).run Try.prog w = .ok (.enter fid args) w)
    (hF : ∀ W v, 0 ≤ v → v < 4294967296 → Has S0 w0 W (.mem m a s.L :: .blk r (rcells m s nv) :: rs) → Calls Try.prog fid (first ++ #[.int .u32 v] ++ cap) W fun e W' => e = .returned (.bool (p v)) ∧ Touch [] W W') :
    Calls Try.prog 57 #[.pointer (some ⟨r, 0, none⟩), .int .i64 c, .func (.func fid) first cap] w
      fun e w' => e = .returned (.tuple #[.bool (waitA s.L s.n s.mode s.task s.f.st c p).seen, .bool (waitA s.L s.n s.mode s.task s.f.st c p).done]) ∧
        Has S0 w0 w' (.mem m a (s.waited (waitA s.L s.n s.mode s.task s.f.st c p)).L :: .blk r (rcells m (s.waited (waitA s.L s.n s.mode s.task s.f.st c p)) nv) :: rs) :=
  run_wait (s2 := s) H c _ _ (fun W HW => wstep_pure HW s.n s.mode s.task s.f.st c hn fid first cap p eg hF)

/-- Whether a run is stuck. -/
theorem run_stuck {S0 : List Nat} {w0 w : World} {m a : Nat} {rs : List Res} {s : Rn} (H : Has S0 w0 w (.mem m a s.L :: rs)) (hn : I64 s.n) (nv : Value) :
    Calls Try.prog 24 #[.agg (rcells m s nv)] w fun e w' => e = .returned (.bool (!s.f.wk.on && stuckA s.L s.n s.mode s.task s.f.st)) ∧ Has S0 w0 w' (.mem m a s.L :: rs) := by
  obtain ⟨n, mode, task, ⟨op, line, fa, fb, st, ⟨on, wc, wi, hit⟩, ret⟩, ⟨ak, ac, ax, ay, ao⟩, notes, L⟩ := s
  simp only [rcells] at *
  have hs := fun W (H : Has S0 w0 W (.mem m a L :: .blk w.heap.size #[.pointer (some ⟨m, 0, none⟩), .int .i64 n, .int .i64 mode, .int .i64 task, .int .i64 op, .int .i64 line, .int .u32 fa, .int .u32 fb, .int .i64 st, .bool on, .int .i64 wc, .int .i64 wi, .bool hit, .int .i64 ret, .int .i64 ak, .int .i64 ac, .int .u32 ax, .int .u32 ay, .int .u32 ao, nv] :: rs)) => stuck_any H.mem n mode task st hn
  generalize stuckA L n mode task st = b at hs ⊢
  have HS := Lib.hid hs
  have HH := Lib.hid H
  clear hs H hn
  cases on with
  | true =>
    go_enter Try.func24, Try.ntmps24
    go_wp2
    go_ret
    exact ⟨by simp, HH.out.grow ((Touch.refl [] w).alloc _)⟩
  | false =>
    go_enter Try.func24, Try.ntmps24
    go_wp2_with (go_at_call 73; refine (HS.out _ HH.out.al1).mono ?_; rintro e w1 ⟨rfl, t1⟩)
    go_ret
    exact ⟨by simp, (HH.out.grow ((Touch.refl [] w).alloc _)).grow t1⟩

end Go.Proofs.Ytlndihdlodempaa.Z
