/- 2 texts of this claim, joined: what each shows stands at its own head. -/
import Derived.Test.YtdffdppkdbbdoaaZM10RfTogether
import Derived.Test.YtdffdppkdbbdoaaZM11RfTogether
import Derived.Outline
import Derived.Shelf.Abstract
import Derived.Test.YtdffdppkdbbdoaaZM14RfTogether
/- What is waited for: Until.Is; a step of waiting under it. -/
set_option linter.unusedVariables false
set_option linter.unusedSimpArgs false
namespace Go.Proofs.Ytdffdppkdbbdoaa.Z
open Go.RowKit

def untilA (k m x v : Int) : Bool :=
  if k = 0 then bits .and .u32 v m == x else if k = 1 then bits .and .u32 v m != x
  else if k = 2 then v / 256 % 256 == v / 65536 % 256 else if k = 3 then (v / 256 % 256 == x) && (v % 256 == 0) else false

theorem until_any (k m x v : Int) (w : World) (h0 : 0 ≤ v) (h1 : v < 4294967296) :
    Calls Try.prog 111 #[.agg #[.int .i64 k, .int .u32 m, .int .u32 x], .int .u32 v] w fun e w' => e = .returned (.bool (untilA k m x v)) ∧ Touch [] w w' := by
  by_cases k0 : k = 0
  · subst k0
    rw [show untilA 0 m x v = (bits .and .u32 v m == x) from rfl]
    go_enter Try.func111, Try.ntmps111
    go_wp2
    go_ret
    exact ⟨rfl, (Touch.refl [] w).alloc _⟩
  by_cases k1 : k = 1
  · subst k1
    rw [show untilA 1 m x v = (bits .and .u32 v m != x) from rfl]
    go_enter Try.func111, Try.ntmps111
    go_wp2
    go_ret
    exact ⟨rfl, (Touch.refl [] w).alloc _⟩
  by_cases k2 : k = 2
  · subst k2
    rw [show untilA 2 m x v = (v / 256 % 256 == v / 65536 % 256) from rfl]
    go_enter Try.func111, Try.ntmps111
    go_wp2
    go_ret
    exact ⟨rfl, (Touch.refl [] w).alloc _⟩
  by_cases k3 : k = 3
  · subst k3
    rw [show untilA 3 m x v = ((v / 256 % 256 == x) && (v % 256 == 0)) from rfl]
    cases hb : (v / 256 % 256 == x)
    · have hne : ¬ (v / 256 % 256 = x) := by simpa using hb
      go_enter Try.func111, Try.ntmps111
      go_wp2
      go_ret
      exact ⟨rfl, (Touch.refl [] w).alloc _⟩
    · obtain rfl : v / 256 % 256 = x := by simpa using hb
      go_enter Try.func111, Try.ntmps111
      go_wp2
      go_ret
      exact ⟨rfl, (Touch.refl [] w).alloc _⟩
  · rw [show untilA k m x v = false from by unfold untilA; rw [if_neg k0, if_neg k1, if_neg k2, if_neg k3]]
    have e0 : (k == 0) = false := by simpa using k0
    have e1 : (k == 1) = false := by simpa using k1
    have e2 : (k == 2) = false := by simpa using k2
    have e3 : (k == 3) = false := by simpa using k3
    clear k0 k1 k2 k3
    go_enter Try.func111, Try.ntmps111
    go_wp2
    go_ret
    exact ⟨rfl, (Touch.refl [] w).alloc _⟩

/-- What a step of waiting tells. -/
def WaitR.value (r : WaitR) : Value := .tuple #[.agg #[.int .i64 r.stage], .agg r.acc.cells, .bool r.seen, .bool r.done]

theorem waitA0 {L : List Int} {n mode task stage c : Int} {p : Int → Bool} (e : stageA mode stage = 0) : waitA L n mode task stage c p = ⟨if p (doA L ⟨1, c, 0, 0, 0⟩).1.old then 0 else if mode = 2 then 1 else 0, (doA L ⟨1, c, 0, 0, 0⟩).1, p (doA L ⟨1, c, 0, 0, 0⟩).1.old, p (doA L ⟨1, c, 0, 0, 0⟩).1.old, L⟩ := by
  unfold waitA
  rw [e]
  rfl
theorem waitA1 {L : List Int} {n mode task stage c : Int} {p : Int → Bool} (e : stageA mode stage = 1) : waitA L n mode task stage c p = ⟨2, (doA L ⟨2, cellP n 2 task, (c + 1) % 4294967296, 0, 0⟩).1, false, false, (doA L ⟨2, cellP n 2 task, (c + 1) % 4294967296, 0, 0⟩).2.2⟩ := by
  unfold waitA
  rw [e]
  rfl
theorem waitA2 {L : List Int} {n mode task stage c : Int} {p : Int → Bool} (e : stageA mode stage = 2) : waitA L n mode task stage c p = ⟨if p (doA L ⟨1, c, 0, 0, 0⟩).1.old then 4 else 3, (doA L ⟨1, c, 0, 0, 0⟩).1, p (doA L ⟨1, c, 0, 0, 0⟩).1.old, false, L⟩ := by
  unfold waitA
  rw [e]
  rfl
theorem waitA3 {L : List Int} {n mode task stage c : Int} {p : Int → Bool} (e : stageA mode stage = 3) : waitA L n mode task stage c p = ⟨if (takeA L n task).2.1 then 2 else 3, (takeA L n task).1, false, false, (takeA L n task).2.2⟩ := by
  unfold waitA
  rw [e]
  rfl
theorem waitA4 {L : List Int} {n mode task stage c : Int} {p : Int → Bool} (e : stageA mode stage = 4) : waitA L n mode task stage c p = ⟨0, (doA L ⟨2, cellP n 2 task, 0, 0, 0⟩).1, false, true, (doA L ⟨2, cellP n 2 task, 0, 0, 0⟩).2.2⟩ := by
  unfold waitA
  rw [e]
  rfl

/-- A step of waiting, whatever is waited for, where to look changes nothing. -/
theorem wait_any {w : World} {m a : Nat} {L : List Int} (h : Mem w m a L) (n mode task stage c : Int) (hn : I64 n) (fid : FuncId) (first cap : Array Value) (p : Int → Bool)
    (eg : ∀ args w, (callFunc fid args).run Try.prog w = .ok (.enter fid args) w)
    (hF : ∀ W v, 0 ≤ v → v < 4294967296 → Touch [] w W → Calls Try.prog fid (first ++ #[.int .u32 v] ++ cap) W fun e W' => e = .returned (.bool (p v)) ∧ Touch [] W W') :
    Calls Try.prog 85 #[.pointer (some ⟨m, 0, none⟩), .agg #[.int .i64 n], .int .i64 mode, .int .i64 task, .agg #[.int .i64 stage], .int .i64 c, .func (.func fid) first cap] w
      fun e w' => e = .returned (waitA L n mode task stage c p).value ∧ Mem w' m a (waitA L n mode task stage c p).words ∧ Touch (lv a L) w w' := by
  have hv := doA_old L h.words ⟨1, c, 0, 0, 0⟩
  have hlook := fun hst => wait_look (S := []) (G := fun _ => True) h n mode task stage c fid first cap (p (doA L ⟨1, c, 0, 0, 0⟩).1.old) eg hst (by simp) (fun _ _ _ h _ _ => h) (fun W t => (hF W _ hv.1 hv.2 t).mono fun e W' h => ⟨h.1, h.2, trivial⟩)
  rcases stageA_is mode stage with e | e | e | e | e
  · rw [waitA0 e]
    refine (hlook (Or.inl e)).mono ?_
    rintro en w' ⟨he, hM, t, _⟩
    exact ⟨by rw [he, e]; simp [WaitR.value], hM, t.mono (by simp)⟩
  · rw [waitA1 e]
    exact wait_say h n mode task stage c hn _ e
  · rw [waitA2 e]
    refine (hlook (Or.inr e)).mono ?_
    rintro en w' ⟨he, hM, t, _⟩
    exact ⟨by rw [he, e]; simp [WaitR.value], hM, t.mono (by simp)⟩
  · rw [waitA3 e]
    exact wait_sleep h n mode task stage c hn _ e
  · rw [waitA4 e]
    exact wait_forget h n mode task stage c hn _ e

/-- A step of waiting for nothing. -/
theorem wait_never {w : World} {m a : Nat} {L : List Int} (h : Mem w m a L) (n mode task stage c : Int) (hn : I64 n) :
    Calls Try.prog 85 #[.pointer (some ⟨m, 0, none⟩), .agg #[.int .i64 n], .int .i64 mode, .int .i64 task, .agg #[.int .i64 stage], .int .i64 c, .nilFunc] w
      fun e w' => e = .returned (waitA L n mode task stage c fun _ => false).value ∧ Mem w' m a (waitA L n mode task stage c fun _ => false).words ∧ Touch (lv a L) w w' := by
  have hlook := fun hst => wait_nil h n mode task stage c hst
  rcases stageA_is mode stage with e | e | e | e | e
  · rw [waitA0 e]
    refine (hlook (Or.inl e)).mono ?_
    rintro en w' ⟨he, hM, t⟩
    exact ⟨by rw [he, e]; simp [WaitR.value], hM, t.mono (by simp)⟩
  · rw [waitA1 e]
    exact wait_say h n mode task stage c hn _ e
  · rw [waitA2 e]
    refine (hlook (Or.inr e)).mono ?_
    rintro en w' ⟨he, hM, t⟩
    exact ⟨by rw [he, e]; simp [WaitR.value], hM, t.mono (by simp)⟩
  · rw [waitA3 e]
    exact wait_sleep h n mode task stage c hn _ e
  · rw [waitA4 e]
    exact wait_forget h n mode task stage c hn _ e

/-- A step of waiting for an Until. -/
theorem wait_until {w : World} {m a : Nat} {L : List Int} (h : Mem w m a L) (n mode task stage c : Int) (hn : I64 n) (k mk x : Int) :
    Calls Try.prog 85 #[.pointer (some ⟨m, 0, none⟩), .agg #[.int .i64 n], .int .i64 mode, .int .i64 task, .agg #[.int .i64 stage], .int .i64 c, .func (.func 111) #[.agg #[.int .i64 k, .int .u32 mk, .int .u32 x]] #[]] w
      fun e w' => e = .returned (waitA L n mode task stage c (untilA k mk x)).value ∧ Mem w' m a (waitA L n mode task stage c (untilA k mk x)).words ∧ Touch (lv a L) w w' :=
  wait_any h n mode task stage c hn _ _ _ (untilA k mk x) (enters_of Try.func111 (by kernel_rfl) rfl) (fun W v h0 h1 _ => until_any k mk x v W h0 h1)

end Go.Proofs.Ytdffdppkdbbdoaa.Z

/- Package line: a run, and what it does. -/
set_option linter.unusedVariables false
set_option linter.unusedSimpArgs false
namespace Go.Proofs.Ytdffdppkdbbdoaa.Z
open Go.RowKit

/-- How far a task is with an operation. -/
structure Fr where
  op : Int
  line : Int
  a : Int
  b : Int
  st : Int
  wk : Wk
  ret : Int
deriving DecidableEq

def Fr.cells (f : Fr) : Array Value := #[.int .i64 f.op, .int .i64 f.line, .int .u32 f.a, .int .u32 f.b, .int .i64 f.st, .bool f.wk.on, .int .i64 f.wk.cell, .int .i64 f.wk.i, .bool f.wk.hit, .int .i64 f.ret]
/-- Its words are words. -/
def FrOk (f : Fr) : Prop := (0 ≤ f.a ∧ f.a < 4294967296) ∧ (0 ≤ f.b ∧ f.b < 4294967296)
def Fr.zero : Fr := ⟨0, 0, 0, 0, 0, Wk.zero, 0⟩

structure Nt where
  task : Int
  what : Int
  op : Int
  arg : Int
deriving DecidableEq

def Nt.cells (x : Nt) : List Value := [.int .i64 x.task, .int .i64 x.what, .int .i64 x.op, .int .i64 x.arg]
def nts (l : List Nt) : List Value := l.flatMap Nt.cells

/-- A run: a step of a task. -/
structure Rn where
  n : Int
  mode : Int
  task : Int
  f : Fr
  acc : Acc
  notes : List Nt
  L : List Int

def rcells (m : Nat) (s : Rn) (nv : Value) : Array Value :=
  #[.pointer (some ⟨m, 0, none⟩), .int .i64 s.n, .int .i64 s.mode, .int .i64 s.task, .int .i64 s.f.op, .int .i64 s.f.line, .int .u32 s.f.a, .int .u32 s.f.b, .int .i64 s.f.st,
    .bool s.f.wk.on, .int .i64 s.f.wk.cell, .int .i64 s.f.wk.i, .bool s.f.wk.hit, .int .i64 s.f.ret, .int .i64 s.acc.kind, .int .i64 s.acc.cell, .int .u32 s.acc.x, .int .u32 s.acc.y, .int .u32 s.acc.old, nv]

/-- An access was done. -/
def Rn.did (s : Rn) (R : Acc × Bool × List Int) : Rn := { s with acc := R.1, L := R.2.2 }
def Rn.note (s : Rn) (what arg : Int) : Rn := { s with notes := s.notes ++ [⟨s.task, what, 0, arg⟩] }
def Rn.goto (s : Rn) (n : Int) : Rn := { s with f := { s.f with line := n } }
def Rn.fin (s : Rn) (b : Bool) : Rn := { s with f := { s.f with ret := if b then 2 else 1 } }
def Rn.wake (s : Rn) (c : Int) : Rn := { s with f := { s.f with wk := beginA s.mode c } }
def Rn.setA (s : Rn) (v : Int) : Rn := { s with f := { s.f with a := v } }
def Rn.setB (s : Rn) (v : Int) : Rn := { s with f := { s.f with b := v } }
def Rn.waited (s : Rn) (R : WaitR) : Rn := { s with f := { s.f with st := R.stage }, acc := R.acc, L := R.words }

/-- What a walk reads of a run. -/
theorem Has.own_at {S0 : List Nat} {w0 w : World} {rs : List Res} (h : Has S0 w0 w rs) (i : Nat) {b : Nat} {cs : Array Value} (hi : rs[i]? = some (.blk b cs)) : b < w.heap.size ∧ (∀ i, w.cell? ⟨b, i, none⟩ = cs[i]?) ∧ ∀ i, w.frozen? ⟨b, i, none⟩ = false := (h.at_ i hi).own

theorem run_do_nil (w : World) (b : Acc) :
    Calls Try.prog 84 #[.pointer none, .agg b.cells] w fun e w' => e = .returned (.agg Acc.zero.cells) ∧ Touch [] w w' := by
  obtain ⟨bk, bc, bx, by', bo⟩ := b
  simp only [Acc.cells, Acc.zero]
  go_enter Try.func84, Try.ntmps84
  go_wp2
  refine bodyPost_ret (v := .agg #[.int .i64 0, .int .i64 0, .int .u32 0, .int .u32 0, .int .u32 0]) (by simp [results, Try.results84, go_sem]) rfl ⟨rfl, ?_⟩
  repeat (first | with_reducible exact Touch.refl _ _ | with_reducible apply Touch.alloc | with_reducible refine Touch.setNew ?_ (by simp) _)

set_option maxHeartbeats 1600000 in
set_option maxRecDepth 100000 in
theorem run_do {S0 : List Nat} {w0 w : World} {m a r : Nat} {nv : Value} {rs : List Res} {s : Rn} (H : Has S0 w0 w (.mem m a s.L :: .blk r (rcells m s nv) :: rs)) (b : Acc) (hx : 0 ≤ b.x ∧ b.x < 4294967296) (hy : 0 ≤ b.y ∧ b.y < 4294967296) :
    Calls Try.prog 84 #[.pointer (some ⟨r, 0, none⟩), .agg b.cells] w
      fun e w' => e = .returned (.agg (doA s.L b).1.cells) ∧ Has S0 w0 w' (.mem m a (s.did (doA s.L b)).L :: .blk r (rcells m (s.did (doA s.L b)) nv) :: rs) := by
  obtain ⟨n, mode, task, ⟨op, line, fa, fb, st, ⟨on, wc, wi, hit⟩, ret⟩, ⟨ak, ac, ax, ay, ao⟩, notes, L⟩ := s
  have hd := fun W rs (H : Has S0 w0 W (.mem m a L :: rs)) => do_has H b hx hy
  simp only [Rn.did] at *
  generalize doA L b = R at hd ⊢
  obtain ⟨⟨rk, rc, rx, ry, ro⟩, rok, L2⟩ := R
  obtain ⟨bk, bc, bx, by', bo⟩ := b
  simp only [Acc.cells] at hd ⊢
  have HD := Lib.hid hd
  clear hd hx hy
  simp only [rcells] at H ⊢
  obtain ⟨x0, x1, x2⟩ := H.blk1.own
  have HH := Lib.hid H
  clear H
  go_enter Try.func84, Try.ntmps84
  go_wp2_with fail
  refine region_flat (by kernel_rfl) (by kernel_rfl) ?_
  simp only [probed, probes, List.nil_append]
  go_wp2_with fail
  refine (HD.out _ _ (HH.out.al22.drew)).mono ?_
  rintro e w1 ⟨rfl, H1⟩
  obtain ⟨y0, y1, y2⟩ := H1.blk1.own
  go_wp2_with fail
  rw [only_normal]
  rename_i hK
  refine hK _ _ ?_
  clear hK
  refine wp_from (Facts := fun W => Has S0 w0 W (.mem m a L2 :: .blk r #[.pointer (some ⟨m, 0, none⟩), .int .i64 n, .int .i64 mode, .int .i64 task, .int .i64 op, .int .i64 line, .int .u32 fa, .int .u32 fb, .int .i64 st, .bool on, .int .i64 wc, .int .i64 wi, .bool hit, .int .i64 ret, .int .i64 rk, .int .i64 rc, .int .u32 rx, .int .u32 ry, .int .u32 ro, nv] :: .blk (w.heap.size + 1) #[.int .i64 0, .int .i64 0, .int .u32 0, .int .u32 0, .int .u32 0] :: .blk w.heap.size #[.int .i64 bk, .int .i64 bc, .int .u32 bx, .int .u32 by', .int .u32 bo] :: rs)) ?_
    (((((H1.set1 14 _).set1 15 _).set1 16 _).set1 17 _).set1 18 _)
  intro W HW
  clear x0 x1 x2 y0 y1 y2 H1
  obtain ⟨y0, y1, y2⟩ := HW.blk1.own
  obtain ⟨z0, z1, z2⟩ := HW.blk2.own
  go_wp2_with fail
  refine bodyPost_ret (v := .agg #[.int .i64 rk, .int .i64 rc, .int .u32 rx, .int .u32 ry, .int .u32 ro]) (by simp [results, Try.results84, go_sem, z0, z1, z2]) rfl ⟨rfl, ?_⟩
  exact HW.done2_2 (by repeat (first | with_reducible exact Touch.refl _ _ | with_reducible apply Touch.drew | with_reducible apply Touch.alloc | with_reducible refine Touch.set ?_ (by simp) _))

end Go.Proofs.Ytdffdppkdbbdoaa.Z
