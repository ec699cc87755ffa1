/- Package line: a run, and what it does. -/
import Derived.Test.YtlndihdlodempaaZWake
import Derived.Test.YtlndihdlodempaaZHas3
import Derived.Test.YtlndihdlodempaaZUntil
set_option linter.unusedVariables false
set_option linter.unusedSimpArgs false
namespace Go.Proofs.Ytlndihdlodempaa.Z
open Go.RowKit

/-- How far a task is with an operation. -/
structure Fr where
  op : Int
  line : Int
  a : Int
  b : Int
  st : Int
  wk : Wk
  ret : Int
deriving DecidableEq

def Fr.cells (f : Fr) : Array Value := #[.int .i64 f.op, .int .i64 f.line, .int .u32 f.a, .int .u32 f.b, .int .i64 f.st, .bool f.wk.on, .int .i64 f.wk.cell, .int .i64 f.wk.i, .bool f.wk.hit, .int .i64 f.ret]
/-- Its words are words. -/
def FrOk (f : Fr) : Prop := (0 ≤ f.a ∧ f.a < 4294967296) ∧ (0 ≤ f.b ∧ f.b < 4294967296)
def Fr.zero : Fr := ⟨0, 0, 0, 0, 0, Wk.zero, 0⟩

structure Nt where
  task : Int
  what : Int
  op : Int
  arg : Int
deriving DecidableEq

def Nt.cells (x : Nt) : List Value := [.int .i64 x.task, .int .i64 x.what, .int .i64 x.op, .int .i64 x.arg]
def nts (l : List Nt) : List Value := l.flatMap Nt.cells

/-- A run: a step of a task. -/
structure Rn where
  n : Int
  mode : Int
  task : Int
  f : Fr
  acc : Acc
  notes : List Nt
  L : List Int

def rcells (m : Nat) (s : Rn) (nv : Value) : Array Value :=
  #[.pointer (some ⟨m, 0, none⟩), .int .i64 s.n, .int .i64 s.mode, .int .i64 s.task, .int .i64 s.f.op, .int .i64 s.f.line, .int .u32 s.f.a, .int .u32 s.f.b, .int .i64 s.f.st,
    .bool s.f.wk.on, .int .i64 s.f.wk.cell, .int .i64 s.f.wk.i, .bool s.f.wk.hit, .int .i64 s.f.ret, .int .i64 s.acc.kind, .int .i64 s.acc.cell, .int .u32 s.acc.x, .int .u32 s.acc.y, .int .u32 s.acc.old, nv]

/-- An access was done. -/
def Rn.did (s : Rn) (R : Acc × Bool × List Int) : Rn := { s with acc := R.1, L := R.2.2 }
def Rn.note (s : Rn) (what arg : Int) : Rn := { s with notes := s.notes ++ [⟨s.task, what, 0, arg⟩] }
def Rn.goto (s : Rn) (n : Int) : Rn := { s with f := { s.f with line := n } }
def Rn.fin (s : Rn) (b : Bool) : Rn := { s with f := { s.f with ret := if b then 2 else 1 } }
def Rn.wake (s : Rn) (c : Int) : Rn := { s with f := { s.f with wk := beginA s.mode c } }
def Rn.setA (s : Rn) (v : Int) : Rn := { s with f := { s.f with a := v } }
def Rn.setB (s : Rn) (v : Int) : Rn := { s with f := { s.f with b := v } }
def Rn.waited (s : Rn) (R : WaitR) : Rn := { s with f := { s.f with st := R.stage }, acc := R.acc, L := R.words }

/-- What a walk reads of a run. -/
theorem Has.own_at {S0 : List Nat} {w0 w : World} {rs : List Res} (h : Has S0 w0 w rs) (i : Nat) {b : Nat} {cs : Array Value} (hi : rs[i]? = some (.blk b cs)) : b < w.heap.size ∧ (∀ i, w.cell? ⟨b, i, none⟩ = cs[i]?) ∧ ∀ i, w.frozen? ⟨b, i, none⟩ = false := (h.at_ i hi).own

theorem run_do_nil (w : World) (b : Acc) :
    Calls Try.prog 122 #[.pointer none, .agg b.cells] w fun e w' => e = .returned (.agg Acc.zero.cells) ∧ Touch [] w w' := by
  obtain ⟨bk, bc, bx, by', bo⟩ := b
  simp only [Acc.cells, Acc.zero]
  go_enter Try.func122, Try.ntmps122
  go_wp2
  refine bodyPost_ret (v := .agg #[.int .i64 0, .int .i64 0, .int .u32 0, .int .u32 0, .int .u32 0]) (by simp [results, Try.results122, go_sem]) rfl ⟨rfl, ?_⟩
  repeat (first | with_reducible exact Touch.refl _ _ | with_reducible apply Touch.alloc | with_reducible refine Touch.setNew ?_ (by simp) _)

set_option maxHeartbeats 1600000 in
set_option maxRecDepth 100000 in
theorem run_do {S0 : List Nat} {w0 w : World} {m a r : Nat} {nv : Value} {rs : List Res} {s : Rn} (H : Has S0 w0 w (.mem m a s.L :: .blk r (rcells m s nv) :: rs)) (b : Acc) (hx : 0 ≤ b.x ∧ b.x < 4294967296) (hy : 0 ≤ b.y ∧ b.y < 4294967296) :
    Calls Try.prog 122 #[.pointer (some ⟨r, 0, none⟩), .agg b.cells] w
      fun e w' => e = .returned (.agg (doA s.L b).1.cells) ∧ Has S0 w0 w' (.mem m a (s.did (doA s.L b)).L :: .blk r (rcells m (s.did (doA s.L b)) nv) :: rs) := by
  obtain ⟨n, mode, task, ⟨op, line, fa, fb, st, ⟨on, wc, wi, hit⟩, ret⟩, ⟨ak, ac, ax, ay, ao⟩, notes, L⟩ := s
  have hd := fun W rs (H : Has S0 w0 W (.mem m a L :: rs)) => do_has H b hx hy
  simp only [Rn.did] at *
  generalize doA L b = R at hd ⊢
  obtain ⟨⟨rk, rc, rx, ry, ro⟩, rok, L2⟩ := R
  obtain ⟨bk, bc, bx, by', bo⟩ := b
  simp only [Acc.cells] at hd ⊢
  have HD := Lib.hid hd
  clear hd hx hy
  simp only [rcells] at H ⊢
  obtain ⟨x0, x1, x2⟩ := H.blk1.own
  have HH := Lib.hid H
  clear H
  go_enter Try.func122, Try.ntmps122
  go_wp2_with fail
  refine region_flat (by kernel_rfl) (by kernel_rfl) ?_
  simp only [probed, probes, List.nil_append]
  go_wp2_with fail
  refine (HD.out _ _ (HH.out.al22.drew)).mono ?_
  rintro e w1 ⟨rfl, H1⟩
  obtain ⟨y0, y1, y2⟩ := H1.blk1.own
  go_wp2_with fail
  rw [only_normal]
  rename_i hK
  refine hK _ _ ?_
  clear hK
  refine wp_from (Facts := fun W => Has S0 w0 W (.mem m a L2 :: .blk r #[.pointer (some ⟨m, 0, none⟩), .int .i64 n, .int .i64 mode, .int .i64 task, .int .i64 op, .int .i64 line, .int .u32 fa, .int .u32 fb, .int .i64 st, .bool on, .int .i64 wc, .int .i64 wi, .bool hit, .int .i64 ret, .int .i64 rk, .int .i64 rc, .int .u32 rx, .int .u32 ry, .int .u32 ro, nv] :: .blk (w.heap.size + 1) #[.int .i64 0, .int .i64 0, .int .u32 0, .int .u32 0, .int .u32 0] :: .blk w.heap.size #[.int .i64 bk, .int .i64 bc, .int .u32 bx, .int .u32 by', .int .u32 bo] :: rs)) ?_
    (((((H1.set1 14 _).set1 15 _).set1 16 _).set1 17 _).set1 18 _)
  intro W HW
  clear x0 x1 x2 y0 y1 y2 H1
  obtain ⟨y0, y1, y2⟩ := HW.blk1.own
  obtain ⟨z0, z1, z2⟩ := HW.blk2.own
  go_wp2_with fail
  refine bodyPost_ret (v := .agg #[.int .i64 rk, .int .i64 rc, .int .u32 rx, .int .u32 ry, .int .u32 ro]) (by simp [results, Try.results122, go_sem, z0, z1, z2]) rfl ⟨rfl, ?_⟩
  exact HW.done2_2 (by repeat (first | with_reducible exact Touch.refl _ _ | with_reducible apply Touch.drew | with_reducible apply Touch.alloc | with_reducible refine Touch.set ?_ (by simp) _))

end Go.Proofs.Ytlndihdlodempaa.Z
