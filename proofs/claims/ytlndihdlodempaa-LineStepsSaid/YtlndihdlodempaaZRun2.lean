/- Package line: a run's accesses. -/
import Derived.Test.YtlndihdlodempaaZRun
set_option linter.unusedVariables false
set_option linter.unusedSimpArgs false
namespace Go.Proofs.Ytlndihdlodempaa.Z
open Go.RowKit

theorem fieldOld (k c x y o : Int) (w : World) : (Instr.field 40 (.agg #[.int .i64 k, .int .i64 c, .int .u32 x, .int .u32 y, .int .u32 o]) 4).run Try.prog w = .ok (.int .u32 o) w := by kernel_rfl

set_option maxRecDepth 100000 in
theorem run_load {S0 : List Nat} {w0 w : World} {m a r : Nat} {nv : Value} {rs : List Res} {s : Rn} (H : Has S0 w0 w (.mem m a s.L :: .blk r (rcells m s nv) :: rs)) (c : Int) :
    Calls Try.prog 53 #[.pointer (some ⟨r, 0, none⟩), .int .i64 c] w fun e w' => e = .returned (.int .u32 (doA s.L ⟨1, c, 0, 0, 0⟩).1.old) ∧ Has S0 w0 w' (.mem m a (s.did (doA s.L ⟨1, c, 0, 0, 0⟩)).L :: .blk r (rcells m (s.did (doA s.L ⟨1, c, 0, 0, 0⟩)) nv) :: rs) := by
  have hd := fun W (H : Has S0 w0 W (.mem m a s.L :: .blk r (rcells m s nv) :: rs)) => run_do H ⟨1, c, 0, 0, 0⟩ (by simp) (by simp)
  generalize doA s.L ⟨1, c, 0, 0, 0⟩ = R at hd ⊢
  obtain ⟨⟨rk, rc, rx, ry, ro⟩, rok, L2⟩ := R
  simp only [Acc.cells] at hd ⊢
  have hf := fieldOld rk rc rx ry ro
  go_enter Try.func53, Try.ntmps53
  go_wp2_with (go_at_call 122; refine (hd _ H).mono ?_; rintro e w1 ⟨rfl, H1⟩)
  go_ret
  exact ⟨rfl, H1⟩

set_option maxRecDepth 100000 in
theorem run_load_nil (w : World) (c : Int) :
    Calls Try.prog 53 #[.pointer none, .int .i64 c] w fun e w' => e = .returned (.int .u32 0) ∧ Touch [] w w' := by
  have hd := fun W => run_do_nil W ⟨1, c, 0, 0, 0⟩
  simp only [Acc.cells, Acc.zero] at hd
  have hf := fieldOld 0 0 0 0 0
  go_enter Try.func53, Try.ntmps53
  go_wp2_with (go_at_call 122; refine (hd _).mono ?_; rintro e w1 ⟨rfl, t1⟩)
  go_ret
  exact ⟨rfl, t1⟩

set_option maxRecDepth 100000 in
theorem run_add {S0 : List Nat} {w0 w : World} {m a r : Nat} {nv : Value} {rs : List Res} {s : Rn} (H : Has S0 w0 w (.mem m a s.L :: .blk r (rcells m s nv) :: rs)) (c x : Int) (hx : 0 ≤ x ∧ x < 4294967296) :
    Calls Try.prog 54 #[.pointer (some ⟨r, 0, none⟩), .int .i64 c, .int .u32 x] w fun e w' => e = .returned (.int .u32 (doA s.L ⟨3, c, x, 0, 0⟩).1.old) ∧ Has S0 w0 w' (.mem m a (s.did (doA s.L ⟨3, c, x, 0, 0⟩)).L :: .blk r (rcells m (s.did (doA s.L ⟨3, c, x, 0, 0⟩)) nv) :: rs) := by
  have hd := fun W (H : Has S0 w0 W (.mem m a s.L :: .blk r (rcells m s nv) :: rs)) => run_do H ⟨3, c, x, 0, 0⟩ hx (by simp)
  generalize doA s.L ⟨3, c, x, 0, 0⟩ = R at hd ⊢
  obtain ⟨⟨rk, rc, rx, ry, ro⟩, rok, L2⟩ := R
  simp only [Acc.cells] at hd ⊢
  have hf := fieldOld rk rc rx ry ro
  go_enter Try.func54, Try.ntmps54
  go_wp2_with (go_at_call 122; refine (hd _ H).mono ?_; rintro e w1 ⟨rfl, H1⟩)
  go_ret
  exact ⟨rfl, H1⟩

set_option maxRecDepth 100000 in
theorem run_add_nil (w : World) (c x : Int) (hx : 0 ≤ x ∧ x < 4294967296) :
    Calls Try.prog 54 #[.pointer none, .int .i64 c, .int .u32 x] w fun e w' => e = .returned (.int .u32 0) ∧ Touch [] w w' := by
  have hd := fun W => run_do_nil W ⟨3, c, x, 0, 0⟩
  simp only [Acc.cells, Acc.zero] at hd
  have hf := fieldOld 0 0 0 0 0
  go_enter Try.func54, Try.ntmps54
  go_wp2_with (go_at_call 122; refine (hd _).mono ?_; rintro e w1 ⟨rfl, t1⟩)
  go_ret
  exact ⟨rfl, t1⟩

/-- What a Cas tells. -/
def casB (L : List Int) (c x y : Int) : Bool := (doA L ⟨5, c, x, y, 0⟩).1.kind == 5 && (doA L ⟨5, c, x, y, 0⟩).1.old == x

set_option maxHeartbeats 400000 in
set_option maxRecDepth 100000 in
theorem run_cas {S0 : List Nat} {w0 w : World} {m a r : Nat} {nv : Value} {rs : List Res} {s : Rn} (H : Has S0 w0 w (.mem m a s.L :: .blk r (rcells m s nv) :: rs)) (c x y : Int) (hx : 0 ≤ x ∧ x < 4294967296) (hy : 0 ≤ y ∧ y < 4294967296) :
    Calls Try.prog 56 #[.pointer (some ⟨r, 0, none⟩), .int .i64 c, .int .u32 x, .int .u32 y] w fun e w' => e = .returned (.bool (casB s.L c x y)) ∧ Has S0 w0 w' (.mem m a (s.did (doA s.L ⟨5, c, x, y, 0⟩)).L :: .blk r (rcells m (s.did (doA s.L ⟨5, c, x, y, 0⟩)) nv) :: rs) := by
  have hd := fun W (H : Has S0 w0 W (.mem m a s.L :: .blk r (rcells m s nv) :: rs)) => run_do H ⟨5, c, x, y, 0⟩ hx hy
  unfold casB
  generalize doA s.L ⟨5, c, x, y, 0⟩ = R at hd ⊢
  obtain ⟨⟨rk, rc, rx, ry, ro⟩, rok, L2⟩ := R
  simp only [Acc.cells] at hd ⊢
  cases h5 : (rk == 5) with
  | true =>
    obtain rfl : rk = 5 := by simpa using h5
    go_enter Try.func56, Try.ntmps56
    go_wp2_with (go_at_call 122; refine (hd _ H).mono ?_; rintro e w1 ⟨rfl, H1⟩)
    go_ret
    exact ⟨by simp, H1.grow (by repeat (first | with_reducible exact Touch.refl _ _ | with_reducible apply Touch.alloc))⟩
  | false =>
    go_enter Try.func56, Try.ntmps56
    go_wp2_with (go_at_call 122; refine (hd _ H).mono ?_; rintro e w1 ⟨rfl, H1⟩)
    go_ret
    exact ⟨by simp, H1.grow (by repeat (first | with_reducible exact Touch.refl _ _ | with_reducible apply Touch.alloc))⟩

set_option maxRecDepth 100000 in
theorem run_cas_nil (w : World) (c x y : Int) :
    Calls Try.prog 56 #[.pointer none, .int .i64 c, .int .u32 x, .int .u32 y] w fun e w' => e = .returned (.bool false) ∧ Touch [] w w' := by
  have hd := fun W => run_do_nil W ⟨5, c, x, y, 0⟩
  simp only [Acc.cells, Acc.zero] at hd
  go_enter Try.func56, Try.ntmps56
  go_wp2_with (go_at_call 122; refine (hd _).mono ?_; rintro e w1 ⟨rfl, t1⟩)
  go_ret
  exact ⟨rfl, t1.alloc _⟩

end Go.Proofs.Ytlndihdlodempaa.Z
