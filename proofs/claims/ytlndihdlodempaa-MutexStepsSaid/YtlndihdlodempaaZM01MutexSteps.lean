/- 6 texts of this claim, joined: what each shows stands at its own head. -/
import Derived.Test.YtlndihdlodempaaZRun6
import Derived.Test.YtlndihdlodempaaZM00MutexSteps
import Derived.Deep.DrawnRows
import Derived.Deep.RegionHeld3
import Derived.Test.YtlndihdlodempaaZRun7
import Derived.Test.YtlndihdlodempaaZBase
/- The document's run (stilemanref09): the same record. Written by genxrun.py. -/
set_option linter.unusedVariables false
set_option linter.unusedSimpArgs false
namespace Go.Proofs.Ytlndihdlodempaa.Z
open Go.RowKit

theorem waitA_len (L : List Int) (n mode task stage c : Int) (p : Int → Bool) : (waitA L n mode task stage c p).words.length = L.length := by
  rcases stageA_is mode stage with e | e | e | e | e
  · rw [waitA0 e]
  · rw [waitA1 e]; exact doA_length _ _
  · rw [waitA2 e]
  · rw [waitA3 e]
    show (takeA L n task).2.2.length = _
    unfold takeA
    split
    · exact doA_length _ _
    · rfl
  · rw [waitA4 e]; exact doA_length _ _

theorem wakeA_len2 (L : List Int) (n : Int) (k : Wk) : (wakeA L n k).2.2.length = L.length := by
  unfold wakeA giveA
  repeat' split
  all_goals first | rfl | exact doA_length _ _

def xcells (p : Option Addr) (cap : Nat) (s : Rn) (nv : Value) : Array Value :=
  #[.slice p s.L.length cap, .int .i64 s.n, .int .i64 s.mode, .int .i64 s.task, .int .i64 s.f.op, .int .i64 s.f.line, .int .u32 s.f.a, .int .u32 s.f.b, .int .i64 s.f.st,
    .bool s.f.wk.on, .int .i64 s.f.wk.cell, .int .i64 s.f.wk.i, .bool s.f.wk.hit, .int .i64 s.f.ret, .int .i64 s.acc.kind, .int .i64 s.acc.cell, .int .u32 s.acc.x, .int .u32 s.acc.y, .int .u32 s.acc.old, nv]

set_option maxHeartbeats 1600000 in
set_option maxRecDepth 100000 in
theorem x_do {S0 : List Nat} {w0 w : World} {p : Option Addr} {g cap x : Nat} {nv : Value} {rs : List Res} {s : Rn} (H : Has S0 w0 w (.row p g cap (s).L :: .blk x (xcells p cap (s) nv) :: rs)) (k c u v : Int) (hu : 0 ≤ u ∧ u < 4294967296) (hv : 0 ≤ v ∧ v < 4294967296) :
    Calls Try.prog 132 #[.pointer (some ⟨x, 0, none⟩), .int .i64 k, .int .i64 c, .int .u32 u, .int .u32 v] w
      fun e w' => e = .returned (.int .u32 (doA s.L ⟨k, c, u, v, 0⟩).1.old) ∧ Has S0 w0 w' (.row p g cap (s.did (doA s.L ⟨k, c, u, v, 0⟩)).L :: .blk x (xcells p cap (s.did (doA s.L ⟨k, c, u, v, 0⟩)) nv) :: rs) := by
  obtain ⟨n, mode, task, ⟨op, line, fa, fb, st, ⟨on, wc, wi, hit⟩, ret⟩, ⟨ak, ac, ax, ay, ao⟩, notes, L⟩ := s
  have hlen := doA_length L ⟨k, c, u, v, 0⟩
  have hd := fun W rs (H : Has S0 w0 W (.row p g cap L :: rs)) => rdo_has H ⟨k, c, u, v, 0⟩ hu hv
  simp only [Rn.did, xcells] at *
  generalize doA L ⟨k, c, u, v, 0⟩ = R at hd hlen ⊢
  obtain ⟨⟨rk, rc, rx, ry, ro⟩, rok, L2⟩ := R
  simp only [Acc.cells] at hd hlen ⊢
  rw [hlen]
  have HD := Lib.hid hd
  clear hd hu hv hlen
  obtain ⟨x0, x1, x2⟩ := H.blk1.own
  have HH := Lib.hid H
  clear H
  go_enter Try.func132, Try.ntmps132
  go_wp2_with fail
  refine (HD.out _ _ HH.out).mono ?_
  rintro e w1 ⟨rfl, H1⟩
  clear x0 x1 x2
  obtain ⟨y0, y1, y2⟩ := H1.blk1.own
  have n1 : x ≠ w1.heap.size := Nat.ne_of_lt y0
  have n2 : w1.heap.size ≠ x := n1.symm
  go_wp2_with fail
  go_ret
  refine ⟨rfl, ?_⟩
  have H2 := ((((H1.set1 14 (.int .i64 rk)).set1 15 (.int .i64 rc)).set1 16 (.int .u32 rx)).set1 17 (.int .u32 ry)).set1 18 (.int .u32 ro)
  simp only [List.setIfInBounds_toArray, List.set_cons_zero, List.set_cons_succ] at H2
  exact H2.grow ((Touch.refl [] _).alloc _)

set_option maxRecDepth 100000 in
theorem x_load {S0 : List Nat} {w0 w : World} {p : Option Addr} {g cap x : Nat} {nv : Value} {rs : List Res} {s : Rn} (H : Has S0 w0 w (.row p g cap (s).L :: .blk x (xcells p cap (s) nv) :: rs)) (c : Int) :
    Calls Try.prog 63 #[.pointer (some ⟨x, 0, none⟩), .int .i64 c] w fun e w' => e = .returned (.int .u32 (doA s.L ⟨1, c, 0, 0, 0⟩).1.old) ∧ Has S0 w0 w' (.row p g cap (s.did (doA s.L ⟨1, c, 0, 0, 0⟩)).L :: .blk x (xcells p cap (s.did (doA s.L ⟨1, c, 0, 0, 0⟩)) nv) :: rs) := by
  have hd := fun W (H : Has S0 w0 W (.row p g cap (s).L :: .blk x (xcells p cap (s) nv) :: rs)) => x_do H 1 c 0 0 (by simp) (by simp)
  generalize (doA s.L ⟨1, c, 0, 0, 0⟩).1.old = o at hd ⊢
  generalize s.did (doA s.L ⟨1, c, 0, 0, 0⟩) = s2 at hd ⊢
  have HD := Lib.hid hd
  have HH := Lib.hid H
  clear hd H
  go_enter Try.func63, Try.ntmps63
  go_wp2_with fail
  refine (HD.out _ HH.out).mono ?_
  rintro e w1 ⟨rfl, H1⟩
  go_wp2_with fail
  go_ret
  exact ⟨rfl, H1⟩

set_option maxRecDepth 100000 in
theorem x_add {S0 : List Nat} {w0 w : World} {p : Option Addr} {g cap x : Nat} {nv : Value} {rs : List Res} {s : Rn} (H : Has S0 w0 w (.row p g cap (s).L :: .blk x (xcells p cap (s) nv) :: rs)) (c : Int) (u : Int) (hu : 0 ≤ u ∧ u < 4294967296) :
    Calls Try.prog 65 #[.pointer (some ⟨x, 0, none⟩), .int .i64 c, .int .u32 u] w fun e w' => e = .returned (.int .u32 (doA s.L ⟨3, c, u, 0, 0⟩).1.old) ∧ Has S0 w0 w' (.row p g cap (s.did (doA s.L ⟨3, c, u, 0, 0⟩)).L :: .blk x (xcells p cap (s.did (doA s.L ⟨3, c, u, 0, 0⟩)) nv) :: rs) := by
  have hd := fun W (H : Has S0 w0 W (.row p g cap (s).L :: .blk x (xcells p cap (s) nv) :: rs)) => x_do H 3 c u 0 hu (by simp)
  generalize (doA s.L ⟨3, c, u, 0, 0⟩).1.old = o at hd ⊢
  generalize s.did (doA s.L ⟨3, c, u, 0, 0⟩) = s2 at hd ⊢
  have HD := Lib.hid hd
  have HH := Lib.hid H
  clear hd H
  go_enter Try.func65, Try.ntmps65
  go_wp2_with fail
  refine (HD.out _ HH.out).mono ?_
  rintro e w1 ⟨rfl, H1⟩
  go_wp2_with fail
  go_ret
  exact ⟨rfl, H1⟩

theorem casB_is (L : List Int) (c u v : Int) : casB L c u v = ((doA L ⟨5, c, u, v, 0⟩).1.old == u && decide (0 ≤ c ∧ c < (L.length : Int))) := by
  unfold casB doA
  by_cases h : 0 ≤ c ∧ c < (L.length : Int)
  · simp [h]
  · simp [h, Acc.zero]

set_option maxHeartbeats 800000 in
set_option maxRecDepth 100000 in
theorem x_cas {S0 : List Nat} {w0 w : World} {p : Option Addr} {g cap x : Nat} {nv : Value} {rs : List Res} {s : Rn} (H : Has S0 w0 w (.row p g cap (s).L :: .blk x (xcells p cap (s) nv) :: rs)) (c u v : Int) (hu : 0 ≤ u ∧ u < 4294967296) (hv : 0 ≤ v ∧ v < 4294967296) :
    Calls Try.prog 67 #[.pointer (some ⟨x, 0, none⟩), .int .i64 c, .int .u32 u, .int .u32 v] w fun e w' => e = .returned (.bool (casB s.L c u v)) ∧ Has S0 w0 w' (.row p g cap (s.did (doA s.L ⟨5, c, u, v, 0⟩)).L :: .blk x (xcells p cap (s.did (doA s.L ⟨5, c, u, v, 0⟩)) nv) :: rs) := by
  have hd := fun W (H : Has S0 w0 W (.row p g cap (s).L :: .blk x (xcells p cap (s) nv) :: rs)) => x_do H 5 c u v hu hv
  rw [casB_is]
  have hlen : (s.did (doA s.L ⟨5, c, u, v, 0⟩)).L.length = s.L.length := doA_length _ _
  generalize (doA s.L ⟨5, c, u, v, 0⟩).1.old = o at hd ⊢
  generalize s.did (doA s.L ⟨5, c, u, v, 0⟩) = s2 at hd hlen ⊢
  rw [← hlen]
  have ht := fun (W : World) => there_any p s2.L.length cap c W
  generalize decide (0 ≤ c ∧ c < (s2.L.length : Int)) = b at ht ⊢
  have HD := Lib.hid hd
  have HH := Lib.hid H
  have HT := Lib.hid ht
  clear hd H ht hlen
  cases hb : (o == u) with
  | true =>
    go_enter Try.func67, Try.ntmps67
    go_wp2_with fail
    refine (HD.out _ HH.out).mono ?_
    rintro e w1 ⟨rfl, H1⟩
    obtain ⟨y0, y1, y2⟩ := H1.blk1.own
    simp only [xcells] at y1
    go_wp2_with fail
    refine (HT.out _).mono ?_
    rintro e w2 ⟨rfl, rfl⟩
    go_wp2_with fail
    go_ret
    exact ⟨by simp, H1⟩
  | false =>
    go_enter Try.func67, Try.ntmps67
    go_wp2_with fail
    refine (HD.out _ HH.out).mono ?_
    rintro e w1 ⟨rfl, H1⟩
    go_wp2_with fail
    go_ret
    exact ⟨by simp, H1⟩

set_option maxRecDepth 100000 in
theorem x_end {S0 : List Nat} {w0 w : World} {p : Option Addr} {g cap x : Nat} {nv : Value} {rs : List Res} {s : Rn} (H : Has S0 w0 w (.row p g cap (s).L :: .blk x (xcells p cap (s) nv) :: rs)) (b : Bool) :
    Calls Try.prog 70 #[.pointer (some ⟨x, 0, none⟩), .bool b] w fun e w' => e = .returned (.tuple #[]) ∧ Has S0 w0 w' (.row p g cap (s.fin b).L :: .blk x (xcells p cap (s.fin b) nv) :: rs) := by
  obtain ⟨n, mode, task, ⟨op, line, fa, fb, st, ⟨on, wc, wi, hit⟩, ret⟩, ⟨ak, ac, ax, ay, ao⟩, notes, L⟩ := s
  simp only [xcells, Rn.fin] at H ⊢
  obtain ⟨x0, x1, x2⟩ := H.blk1.own
  cases b with
  | true =>
    go_enter Try.func70, Try.ntmps70
    go_wp2
    go_end0
    exact ⟨rfl, by first | exact (H.set1 13 _).set1 13 _ | exact H.set1 13 _⟩
  | false =>
    go_enter Try.func70, Try.ntmps70
    go_wp2
    go_end0
    exact ⟨rfl, H.set1 13 _⟩

set_option maxHeartbeats 400000 in
set_option maxRecDepth 100000 in
theorem x_wake {S0 : List Nat} {w0 w : World} {p : Option Addr} {g cap x : Nat} {nv : Value} {rs : List Res} {s : Rn} (H : Has S0 w0 w (.row p g cap (s).L :: .blk x (xcells p cap (s) nv) :: rs)) (c : Int) :
    Calls Try.prog 71 #[.pointer (some ⟨x, 0, none⟩), .int .i64 c] w fun e w' => e = .returned (.tuple #[]) ∧ Has S0 w0 w' (.row p g cap (s.wake c).L :: .blk x (xcells p cap (s.wake c) nv) :: rs) := by
  obtain ⟨n, mode, task, ⟨op, line, fa, fb, st, ⟨on, wc, wi, hit⟩, ret⟩, ⟨ak, ac, ax, ay, ao⟩, notes, L⟩ := s
  simp only [Rn.wake] at H ⊢
  have hb := fun W => rbegin_any mode c W
  generalize beginA mode c = k at hb ⊢
  obtain ⟨ko, kc, ki, kh⟩ := k
  simp only [xcells, Wk.cells] at H hb ⊢
  obtain ⟨x0, x1, x2⟩ := H.blk1.own
  have HB := Lib.hid hb
  have HH := Lib.hid H
  clear hb H
  go_enter Try.func71, Try.ntmps71
  go_wp2_with fail
  refine (HB.out _).mono ?_
  rintro e w1 ⟨rfl, t1⟩
  have H1 := HH.out.grow t1
  obtain ⟨y0, y1, y2⟩ := H1.blk1.own
  go_wp2
  go_end0
  exact ⟨rfl, ((((H1.set1 9 _).set1 10 _).set1 11 _).set1 12 _)⟩

set_option maxHeartbeats 1600000 in
set_option maxRecDepth 100000 in
/-- The document's step of a wake-up, if one is on. -/
theorem x_waking_on {S0 : List Nat} {w0 w : World} {p : Option Addr} {g cap x : Nat} {nv : Value} {rs : List Res} {s : Rn} (H : Has S0 w0 w (.row p g cap (s).L :: .blk x (xcells p cap (s) nv) :: rs)) (hon : s.f.wk.on = true) :
    Calls Try.prog 17 #[.pointer (some ⟨x, 0, none⟩)] w fun e w' => e = .returned (.bool true) ∧ Has S0 w0 w' (.row p g cap (s.woke).L :: .blk x (xcells p cap (s.woke) (.slice none 0 0)) :: rs) := by
  obtain ⟨n, mode, task, ⟨op, line, fa, fb, st, wk, ret⟩, ⟨ak, ac, ax, ay, ao⟩, notes, L⟩ := s
  have hlen := wakeA_len2 L n wk
  have hd := fun W rs (H : Has S0 w0 W (.row p g cap L :: rs)) => rwake_any H n wk
  simp only [xcells, Rn.woke] at *
  generalize wakeA L n wk = R at hd hlen ⊢
  obtain ⟨⟨on', wc', wi', hit'⟩, ⟨rk, rc, rx, ry, ro⟩, L2⟩ := R
  obtain ⟨on, wc, wi, hit⟩ := wk
  simp only at hon
  subst hon
  simp only [Wk.cells, Acc.cells] at *
  rw [hlen]
  obtain ⟨x0, x1, x2⟩ := H.blk1.own
  have HD := Lib.hid hd
  have HH := Lib.hid H
  clear hd H hlen
  go_enter Try.func17, Try.ntmps17
  go_wp2_with fail
  refine region_flat (by kernel_rfl) (by kernel_rfl) ?_
  simp only [probed, probes, List.nil_append]
  go_wp2_with fail
  refine (HD.out _ _ ((((((HH.out.set1 14 _).set1 15 _).set1 16 _).set1 17 _).set1 18 _).set1 19 _).drew).mono ?_
  rintro e w1 ⟨rfl, H1⟩
  clear x0 x1 x2
  obtain ⟨y0, y1, y2⟩ := H1.blk1.own
  go_wp2_with fail
  rw [only_normal]
  rename_i hK
  refine hK _ _ ?_
  clear hK
  have H2 := (((((((((H1.set1 9 (.bool on')).set1 10 (.int .i64 wc')).set1 11 (.int .i64 wi')).set1 12 (.bool hit')).set1 14 (.int .i64 rk)).set1 15 (.int .i64 rc)).set1 16 (.int .u32 rx)).set1 17 (.int .u32 ry)).set1 18 (.int .u32 ro))
  simp only [List.setIfInBounds_toArray, List.set_cons_zero, List.set_cons_succ] at H2
  go_wp2
  go_ret
  exact ⟨rfl, H2⟩

set_option maxHeartbeats 800000 in
set_option maxRecDepth 100000 in
theorem x_waking_off {S0 : List Nat} {w0 w : World} {p : Option Addr} {g cap x : Nat} {nv : Value} {rs : List Res} {s : Rn} (H : Has S0 w0 w (.row p g cap (s).L :: .blk x (xcells p cap (s) nv) :: rs)) (hoff : s.f.wk.on = false) :
    Calls Try.prog 17 #[.pointer (some ⟨x, 0, none⟩)] w fun e w' => e = .returned (.bool false) ∧ Has S0 w0 w' (.row p g cap (s.fresh).L :: .blk x (xcells p cap (s.fresh) (.slice none 0 0)) :: rs) := by
  obtain ⟨n, mode, task, ⟨op, line, fa, fb, st, ⟨on, wc, wi, hit⟩, ret⟩, ⟨ak, ac, ax, ay, ao⟩, notes, L⟩ := s
  simp only at hoff
  subst hoff
  simp only [xcells, Rn.fresh, Acc.zero] at H ⊢
  obtain ⟨x0, x1, x2⟩ := H.blk1.own
  have HH := Lib.hid H
  clear H
  go_enter Try.func17, Try.ntmps17
  go_wp2_with fail
  go_ret
  refine ⟨rfl, ?_⟩
  have H2 := ((((((HH.out.set1 14 (.int .i64 0)).set1 15 (.int .i64 0)).set1 16 (.int .u32 0)).set1 17 (.int .u32 0)).set1 18 (.int .u32 0)).set1 19 (.slice none 0 0))
  simp only [List.setIfInBounds_toArray, List.set_cons_zero, List.set_cons_succ] at H2
  exact H2

set_option maxHeartbeats 800000 in
set_option maxRecDepth 100000 in
theorem x_over {S0 : List Nat} {w0 w : World} {p : Option Addr} {g cap x : Nat} {nv : Value} {rs : List Res} {s : Rn} (H : Has S0 w0 w (.row p g cap (s).L :: .blk x (xcells p cap (s) nv) :: rs)) :
    Calls Try.prog 20 #[.pointer (some ⟨x, 0, none⟩)] w fun e w' => e = .returned (.bool s.over) ∧ w = w' := by
  obtain ⟨n, mode, task, ⟨op, line, fa, fb, st, ⟨on, wc, wi, hit⟩, ret⟩, ⟨ak, ac, ax, ay, ao⟩, notes, L⟩ := s
  simp only [xcells, Rn.over] at H ⊢
  obtain ⟨x0, x1, x2⟩ := H.blk1.own
  have HH := Lib.hid H
  clear H
  by_cases h0 : ret = 0
  · subst h0
    go_enter Try.func20, Try.ntmps20
    go_wp2
    go_ret
    exact ⟨by simp, rfl⟩
  · have h1 : (ret != 0) = true := by simpa using h0
    clear h0
    go_enter Try.func20, Try.ntmps20
    go_wp2
    go_ret
    exact ⟨by simp [h1], rfl⟩

end Go.Proofs.Ytlndihdlodempaa.Z

/- The document's run (stilemanref09): its notes. -/
set_option linter.unusedVariables false
set_option linter.unusedSimpArgs false
namespace Go.Proofs.Ytlndihdlodempaa.Z
open Go.RowKit
attribute [local go_sem ↓] Go.wp_at_zero Go.wp_at_succ

/-- The world holds a document's run, at block x, over the row at p. -/
def XHas (S0 : List Nat) (w0 : World) (p : Option Addr) (g cap x : Nat) (rs : List Res) (s : Rn) (w : World) : Prop :=
  ∃ nv, Has S0 w0 w (.row p g cap s.L :: .blk x (xcells p cap s nv) :: .own 98 4 nv s.notes.length (nts s.notes) :: rs)

theorem Has.grown0 {S0 : List Nat} {w0 w w' : World} {e size n m : Nat} {v v' : Value} {xs ys : List Value} {rs : List Res} (h : Has S0 w0 w (.own e size v n xs :: rs)) (hown : w'.ownsRow 0 e size v' m ys) (hg : w.grownBy w' v.ownBlock)
    (hat : v'.ownBlock = v.ownBlock ∨ v'.ownBlock = some w.heap.size) : Has S0 w0 w' (.own e size v' m ys :: rs) := h.grown hown hg hat

theorem grown_eq {w : World} {e size n m : Nat} {v : Value} {xs ys : List Value} (h : w.ownsRow 0 e size v n xs) (hn : n = m) (hx : xs = ys) : w.ownsRow 0 e size v m ys := by subst hn hx; exact h

set_option maxHeartbeats 6400000 in
set_option maxRecDepth 100000 in
theorem x_note {S0 : List Nat} {w0 w : World} {p : Option Addr} {g cap x : Nat} {rs : List Res} {s : Rn} (H : XHas S0 w0 p g cap x rs s w) (hlen : s.notes.length ≤ 1000) (what arg : Int) :
    Calls Try.prog 69 #[.pointer (some ⟨x, 0, none⟩), .int .i64 what, .int .i64 arg] w fun e w' => e = .returned (.tuple #[]) ∧ XHas S0 w0 p g cap x rs (s.note what arg) w' := by
  obtain ⟨n, mode, task, ⟨op, line, fa, fb, st, ⟨on, wc, wi, hit⟩, ret⟩, ⟨ak, ac, ax, ay, ao⟩, notes, L⟩ := s
  simp only [XHas, Rn.note] at H hlen ⊢
  obtain ⟨nv, H⟩ := H
  simp only [xcells] at H ⊢
  obtain ⟨x0, x1, x2⟩ := H.blk1.own
  obtain ⟨pn, cn, rfl⟩ := owns_slice H.own3
  obtain ⟨i0, hi0, hz0, hz1, hz2⟩ := info_parts note_info
  have HI := Lib.hid (show _ ∧ _ ∧ _ ∧ _ from ⟨hi0, hz0, hz1, hz2⟩)
  have e1 : (notes ++ [(⟨task, what, 0, arg⟩ : Nt)]).length = notes.length + 1 := by simp
  have e2 : nts (notes ++ [(⟨task, what, 0, arg⟩ : Nt)]) = nts notes ++ [.int .i64 task, .int .i64 what, .int .i64 0, .int .i64 arg] := by simp [nts, Nt.cells]
  have HA := Lib.hid (H.ownNew rfl 98 4).drew
  have HB := Lib.hid ((H.ownNew rfl 98 4).new (b := w.heap.size + 1) (by simp) #[.int .i64 task, .int .i64 what, .int .i64 0, .int .i64 arg] 98).swap.drew
  have HC := Lib.hid ((H.new (b := w.heap.size) rfl #[.int .i64 task, .int .i64 what, .int .i64 0, .int .i64 arg] 98).ownNew (b := w.heap.size + 1) (by simp) 98 4).drew
  rw [e1, e2]
  have HL := Lib.hid hlen
  clear hi0 hz0 hz1 hz2 hlen H e1 e2
  go_enter Try.func69, Try.ntmps69
  go_wp2_with fail
  go_region_law (first
    | (refine step_append_rd (P := Try.prog) (by rfl) (.tmp 7) (.tmp 11) 41 (by rfl) 0 98 i0 _ 4 32 Try.underlying41 HI.out.1 HI.out.2.1 HI.out.2.2.1 HI.out.2.2.2 rfl (by omega) _ 0 [] (by rfl) HA.out.own0 pn notes.length cn (nts notes) (by rfl) (Rd.own (HA.out.ownAt 3 rfl)) (nts_one _) (by have := HL.out; simp only [maxLen]; omega) (by have := HL.out; omega) (by omega) ?_; intro v1 w1 hown1 hg1 hat1; have H1 := HA.out.grown0 hown1 hg1 hat1; clear hown1 hg1 hat1; obtain ⟨y0, y1, y2⟩ := (H1.at_ 2 rfl).own; have HD := Lib.hid (H1.new rfl #[.int .i64 task, .int .i64 what, .int .i64 0, .int .i64 arg] 98).swap)
    | (refine step_append_rd (P := Try.prog) (by rfl) (.tmp 7) (.tmp 11) 41 (by rfl) 0 98 i0 _ 4 32 Try.underlying41 HI.out.1 HI.out.2.1 HI.out.2.2.1 HI.out.2.2.2 rfl (by omega) _ 0 [] (by rfl) HB.out.own0 pn notes.length cn (nts notes) (by rfl) (Rd.own (HB.out.ownAt 4 rfl)) (nts_one _) (by have := HL.out; simp only [maxLen]; omega) (by have := HL.out; omega) (by omega) ?_; intro v1 w1 hown1 hg1 hat1; have HD := Lib.hid (HB.out.grown0 hown1 hg1 hat1); clear hown1 hg1 hat1; obtain ⟨y0, y1, y2⟩ := (HD.out.at_ 3 rfl).own)
    | (refine step_append_rd (P := Try.prog) (by rfl) (.tmp 7) (.tmp 11) 41 (by rfl) 0 98 i0 _ 4 32 Try.underlying41 HI.out.1 HI.out.2.1 HI.out.2.2.1 HI.out.2.2.2 rfl (by omega) _ 0 [] (by rfl) HC.out.own0 pn notes.length cn (nts notes) (by rfl) (Rd.own (HC.out.ownAt 4 rfl)) (nts_one _) (by have := HL.out; simp only [maxLen]; omega) (by have := HL.out; omega) (by omega) ?_; intro v1 w1 hown1 hg1 hat1; have HD := Lib.hid (HC.out.grown0 hown1 hg1 hat1); clear hown1 hg1 hat1; obtain ⟨y0, y1, y2⟩ := (HD.out.at_ 3 rfl).own)
    | (refine step_append_rd (P := Try.prog) (by rfl) (.tmp 12) (.tmp 20) 41 (by rfl) 0 98 i0 _ 4 32 Try.underlying41 HI.out.1 HI.out.2.1 HI.out.2.2.1 HI.out.2.2.2 rfl (by omega) v1 (0 + notes.length) ([] ++ nts notes) (by rfl) HD.out.own0 _ 1 1 [.int .i64 task, .int .i64 what, .int .i64 0, .int .i64 arg] (by rfl) (rd_one4 (HD.out.at_ 1 rfl)) (by simp [Value.oneCell']) (by have := HL.out; simp only [maxLen]; omega) (by have := HL.out; omega) (by omega) ?_; intro v2 w2 hown2 hg2 hat2; obtain ⟨p2, c2, rfl⟩ := owns_slice hown2; have H3 := HD.out.grown0 hown2 hg2 hat2; clear hown2 hg2 hat2; obtain ⟨u0, u1, u2⟩ := (H3.at_ 3 rfl).own))
  all_goals
    go_wp2
    go_end0
    refine ⟨rfl, .slice p2 (notes.length + 1) c2, ?_⟩
    have H4 := H3.noteEnd 19 (.slice p2 (notes.length + 1) c2)
    simp only [List.setIfInBounds_toArray, List.set_cons_zero, List.set_cons_succ, Nat.zero_add, List.nil_append] at H4
    exact H4

end Go.Proofs.Ytlndihdlodempaa.Z

/- The document's run (stilemanref09): its waiting. -/
set_option linter.unusedVariables false
set_option linter.unusedSimpArgs false
namespace Go.Proofs.Ytlndihdlodempaa.Z
open Go.RowKit
attribute [local go_sem ↓] Go.wp_at_zero Go.wp_at_succ

theorem rwait_has {S0 : List Nat} {w0 w : World} {p : Option Addr} {g cap : Nat} {L : List Int} {rs : List Res} (H : Has S0 w0 w (.row p g cap L :: rs)) (n mode task stage c : Int) (k mk x : Int) :
    Calls Try.prog 134 #[.slice p L.length cap, .int .i64 n, .int .i64 mode, .int .i64 task, .agg #[.int .i64 stage], .int .i64 c, .agg #[.int .i64 k, .int .u32 mk, .int .u32 x]] w
      fun e w' => e = .returned (waitA L n mode task stage c (untilA k mk x)).value ∧ Has S0 w0 w' (.row p g cap (waitA L n mode task stage c (untilA k mk x)).words :: rs) :=
  (rwait_any H.row H.cap.1 H.cap.2 n mode task stage c k mk x).mono fun e w' h => ⟨h.1, H.wordsRow h.2.1 (waitA_len ..) h.2.2⟩

theorem twoBlks {w : World} {x u : Nat} {cs us : Array Value} (h : Blk w x cs) (k : Blk w u us) : Blk w x cs ∧ Blk w u us ∧ (∀ i, w.cell? ⟨x, i, none⟩ = cs[i]?) ∧ (∀ i, w.cell? ⟨u, i, none⟩ = us[i]?) := ⟨h, k, h.cell, k.cell⟩

set_option maxHeartbeats 3200000 in
set_option maxRecDepth 100000 in
theorem x_wait {S0 : List Nat} {w0 w : World} {p : Option Addr} {g cap x : Nat} {nv : Value} {rs : List Res} {s : Rn} (H : Has S0 w0 w (.row p g cap (s).L :: .blk x (xcells p cap (s) nv) :: rs)) (c k mk u : Int) :
    Calls Try.prog 68 #[.pointer (some ⟨x, 0, none⟩), .int .i64 c, .agg #[.int .i64 k, .int .u32 mk, .int .u32 u]] w
      fun e w' => e = .returned (.tuple #[.bool (waitA s.L s.n s.mode s.task s.f.st c (untilA k mk u)).seen, .bool (waitA s.L s.n s.mode s.task s.f.st c (untilA k mk u)).done]) ∧ Has S0 w0 w' (.row p g cap (s.waited (waitA s.L s.n s.mode s.task s.f.st c (untilA k mk u))).L :: .blk x (xcells p cap (s.waited (waitA s.L s.n s.mode s.task s.f.st c (untilA k mk u))) nv) :: rs) := by
  obtain ⟨n, mode, task, ⟨op, line, fa, fb, st, ⟨on, wc, wi, hit⟩, ret⟩, ⟨ak, ac, ax, ay, ao⟩, notes, L⟩ := s
  have hlen := waitA_len L n mode task st c (untilA k mk u)
  have hw := fun W rs (H : Has S0 w0 W (.row p g cap L :: rs)) => rwait_has H n mode task st c k mk u
  simp only [xcells, Rn.waited] at *
  generalize waitA L n mode task st c (untilA k mk u) = R at hw hlen ⊢
  obtain ⟨rst, ⟨rk, rc, rx, ry, ro⟩, rs', rd, L2⟩ := R
  simp only [WaitR.value, Acc.cells] at hw hlen ⊢
  rw [hlen]
  obtain ⟨x0, x1, x2⟩ := H.blk1.own
  have HW := Lib.hid hw
  have HH := Lib.hid H
  have B1 : Blk (w.alloc (.cells #[.int .i64 k, .int .u32 mk, .int .u32 u] 85)) x _ := H.blk1.alloc _
  have B2 : Blk (w.alloc (.cells #[.int .i64 k, .int .u32 mk, .int .u32 u] 85)) w.heap.size _ := Blk.new _ _ _
  clear hw H hlen
  go_enter Try.func68, Try.ntmps68
  go_wp2_with fail
  go_region_held3 (fun w' => Blk w' x #[.slice p L.length cap, .int .i64 n, .int .i64 mode, .int .i64 task, .int .i64 op, .int .i64 line, .int .u32 fa, .int .u32 fb, .int .i64 st, .bool on, .int .i64 wc, .int .i64 wi, .bool hit, .int .i64 ret, .int .i64 ak, .int .i64 ac, .int .u32 ax, .int .u32 ay, .int .u32 ao, nv] ∧ Blk w' w.heap.size #[.int .i64 k, .int .u32 mk, .int .u32 u] ∧ (∀ i, w'.cell? ⟨x, i, none⟩ = #[Value.slice p L.length cap, .int .i64 n, .int .i64 mode, .int .i64 task, .int .i64 op, .int .i64 line, .int .u32 fa, .int .u32 fb, .int .i64 st, .bool on, .int .i64 wc, .int .i64 wi, .bool hit, .int .i64 ret, .int .i64 ak, .int .i64 ac, .int .u32 ax, .int .u32 ay, .int .u32 ao, nv][i]?) ∧ (∀ i, w'.cell? ⟨w.heap.size, i, none⟩ = #[Value.int .i64 k, .int .u32 mk, .int .u32 u][i]?))
    (first | (go_split_ands; refine twoBlks ?_ ?_ <;> (repeat (first | with_reducible assumption | with_reducible exact B1 | with_reducible exact B2 | with_reducible refine Blk.drew ?_ | with_reducible refine Blk.alloc ?_ _ | (with_reducible refine Blk.setNe2 ?_ ?_; first | omega | (dsimp only; omega))))))
    (first
      | (go_at_call 134; with_reducible refine (HW.out _ _ HH.out.al21.drew).mono ?_; rintro e w1 ⟨rfl, H1⟩; have C1 := H1.blk1; have C2 := H1.at_ 2 rfl; have l1 := C1.lt; have l2 := C2.lt)
      | (go_at_call 134; with_reducible refine (HW.out _ _ HH.out.al22.drew).mono ?_; rintro e w1 ⟨rfl, H1⟩; have C1 := H1.blk1; have C2 := H1.at_ 3 rfl; have l1 := C1.lt; have l2 := C2.lt; obtain ⟨z0, z1, z2⟩ := (H1.at_ 2 rfl).own)
      | (go_at_call 134; with_reducible refine (HW.out _ _ HH.out.al23.drew).mono ?_; rintro e w1 ⟨rfl, H1⟩; have C1 := H1.blk1; have C2 := H1.at_ 4 rfl; have l1 := C1.lt; have l2 := C2.lt; obtain ⟨z0, z1, z2⟩ := (H1.at_ 2 rfl).own; obtain ⟨v0, v1, v2⟩ := (H1.at_ 3 rfl).own))
  all_goals
    obtain ⟨y0, y1, y2⟩ := H1.blk1.own
    go_wp2
    go_ret2
    refine ⟨rfl, ?_⟩
    first
      | refine Has.fin [_] H1 ?_ ?_
      | refine Has.fin [_, _] H1 ?_ ?_
      | refine Has.fin [_, _, _] H1 ?_ ?_
    · repeat (first | with_reducible exact Touch.refl _ _ | with_reducible refine Touch.alloc ?_ _ | with_reducible refine Touch.set ?_ (by simp [foots, Res.foot]) _ | with_reducible refine Touch.setNew ?_ (by simp) _)
    · refine Blk.eq (cs := (Array.setIfInBounds (Array.setIfInBounds (Array.setIfInBounds (Array.setIfInBounds (Array.setIfInBounds (Array.setIfInBounds #[.slice p L.length cap, .int .i64 n, .int .i64 mode, .int .i64 task, .int .i64 op, .int .i64 line, .int .u32 fa, .int .u32 fb, .int .i64 st, .bool on, .int .i64 wc, .int .i64 wi, .bool hit, .int .i64 ret, .int .i64 ak, .int .i64 ac, .int .u32 ax, .int .u32 ay, .int .u32 ao, nv] 8 (.int .i64 rst)) 14 (.int .i64 rk)) 15 (.int .i64 rc)) 16 (.int .u32 rx)) 17 (.int .u32 ry)) 18 (.int .u32 ro))) ?_ (by simp only [List.setIfInBounds_toArray, List.set_cons_zero, List.set_cons_succ])
      repeat (first | with_reducible exact C1 | with_reducible refine Blk.set ?_ _ _ | with_reducible refine Blk.alloc ?_ _ | (with_reducible refine Blk.setNe2 ?_ ?_; first | omega | (dsimp only; omega)))

end Go.Proofs.Ytlndihdlodempaa.Z

/- The document's run (stilemanref09), its calls, said of XHas. Written by genxrun7.py. -/
set_option linter.unusedVariables false
set_option linter.unusedSimpArgs false
namespace Go.Proofs.Ytlndihdlodempaa.Z
open Go.RowKit

theorem xn_load {S0 : List Nat} {w0 w : World} {p : Option Addr} {g cap x : Nat} {rs : List Res} {s : Rn} (H : XHas S0 w0 p g cap x rs s w) (c : Int) :
    Calls Try.prog 63 #[.pointer (some ⟨x, 0, none⟩), .int .i64 c] w fun e w' => e = .returned (.int .u32 (doA s.L ⟨1, c, 0, 0, 0⟩).1.old) ∧ XHas S0 w0 p g cap x rs (s.did (doA s.L ⟨1, c, 0, 0, 0⟩)) w' := by
  obtain ⟨nv, H⟩ := H
  exact (x_load H c).mono fun e w' h => ⟨h.1, nv, h.2⟩

theorem xn_add {S0 : List Nat} {w0 w : World} {p : Option Addr} {g cap x : Nat} {rs : List Res} {s : Rn} (H : XHas S0 w0 p g cap x rs s w) (c u : Int) (hu : 0 ≤ u ∧ u < 4294967296) :
    Calls Try.prog 65 #[.pointer (some ⟨x, 0, none⟩), .int .i64 c, .int .u32 u] w fun e w' => e = .returned (.int .u32 (doA s.L ⟨3, c, u, 0, 0⟩).1.old) ∧ XHas S0 w0 p g cap x rs (s.did (doA s.L ⟨3, c, u, 0, 0⟩)) w' := by
  obtain ⟨nv, H⟩ := H
  exact (x_add H c u hu).mono fun e w' h => ⟨h.1, nv, h.2⟩

theorem xn_cas {S0 : List Nat} {w0 w : World} {p : Option Addr} {g cap x : Nat} {rs : List Res} {s : Rn} (H : XHas S0 w0 p g cap x rs s w) (c u v : Int) (hu : 0 ≤ u ∧ u < 4294967296) (hv : 0 ≤ v ∧ v < 4294967296) :
    Calls Try.prog 67 #[.pointer (some ⟨x, 0, none⟩), .int .i64 c, .int .u32 u, .int .u32 v] w fun e w' => e = .returned (.bool (casB s.L c u v)) ∧ XHas S0 w0 p g cap x rs (s.did (doA s.L ⟨5, c, u, v, 0⟩)) w' := by
  obtain ⟨nv, H⟩ := H
  exact (x_cas H c u v hu hv).mono fun e w' h => ⟨h.1, nv, h.2⟩

theorem xn_end {S0 : List Nat} {w0 w : World} {p : Option Addr} {g cap x : Nat} {rs : List Res} {s : Rn} (H : XHas S0 w0 p g cap x rs s w) (b : Bool) :
    Calls Try.prog 70 #[.pointer (some ⟨x, 0, none⟩), .bool b] w fun e w' => e = .returned (.tuple #[]) ∧ XHas S0 w0 p g cap x rs (s.fin b) w' := by
  obtain ⟨nv, H⟩ := H
  exact (x_end H b).mono fun e w' h => ⟨h.1, nv, h.2⟩

theorem xn_wake {S0 : List Nat} {w0 w : World} {p : Option Addr} {g cap x : Nat} {rs : List Res} {s : Rn} (H : XHas S0 w0 p g cap x rs s w) (c : Int) :
    Calls Try.prog 71 #[.pointer (some ⟨x, 0, none⟩), .int .i64 c] w fun e w' => e = .returned (.tuple #[]) ∧ XHas S0 w0 p g cap x rs (s.wake c) w' := by
  obtain ⟨nv, H⟩ := H
  exact (x_wake H c).mono fun e w' h => ⟨h.1, nv, h.2⟩

theorem xn_wait {S0 : List Nat} {w0 w : World} {p : Option Addr} {g cap x : Nat} {rs : List Res} {s : Rn} (H : XHas S0 w0 p g cap x rs s w) (c k mk u : Int) :
    Calls Try.prog 68 #[.pointer (some ⟨x, 0, none⟩), .int .i64 c, .agg #[.int .i64 k, .int .u32 mk, .int .u32 u]] w
      fun e w' => e = .returned (.tuple #[.bool (waitA s.L s.n s.mode s.task s.f.st c (untilA k mk u)).seen, .bool (waitA s.L s.n s.mode s.task s.f.st c (untilA k mk u)).done]) ∧ XHas S0 w0 p g cap x rs (s.waited (waitA s.L s.n s.mode s.task s.f.st c (untilA k mk u))) w' := by
  obtain ⟨nv, H⟩ := H
  exact (x_wait H c k mk u).mono fun e w' h => ⟨h.1, nv, h.2⟩
theorem XHas.facts {S0 : List Nat} {w0 w : World} {p : Option Addr} {g cap x : Nat} {rs : List Res} {s : Rn} (H : XHas S0 w0 p g cap x rs s w) {o l y z : Int} (ho : s.f.op = o) (hl : s.f.line = l) (hx : s.f.a = y) (hy : s.f.b = z) :
    x < w.heap.size ∧ (∀ i, w.frozen? ⟨x, i, none⟩ = false) ∧ w.cell? ⟨x, 4, none⟩ = some (.int .i64 o) ∧ w.cell? ⟨x, 5, none⟩ = some (.int .i64 l) ∧ w.cell? ⟨x, 6, none⟩ = some (.int .u32 y) ∧ w.cell? ⟨x, 7, none⟩ = some (.int .u32 z) := by
  obtain ⟨nv, H⟩ := H
  subst ho hl hx hy
  obtain ⟨x0, x1, x2⟩ := H.blk1.own
  exact ⟨x0, x2, x1 4, x1 5, x1 6, x1 7⟩
theorem XHas.setA {S0 : List Nat} {w0 w : World} {p : Option Addr} {g cap x : Nat} {rs : List Res} {s : Rn} (H : XHas S0 w0 p g cap x rs s w) (v : Int) : XHas S0 w0 p g cap x rs (s.setA v) (w.setCell ⟨x, 6, none⟩ (.int .u32 v)) := by
  obtain ⟨nv, H⟩ := H
  exact ⟨nv, H.set1 6 (.int .u32 v)⟩
theorem XHas.setB {S0 : List Nat} {w0 w : World} {p : Option Addr} {g cap x : Nat} {rs : List Res} {s : Rn} (H : XHas S0 w0 p g cap x rs s w) (v : Int) : XHas S0 w0 p g cap x rs (s.setB v) (w.setCell ⟨x, 7, none⟩ (.int .u32 v)) := by
  obtain ⟨nv, H⟩ := H
  exact ⟨nv, H.set1 7 (.int .u32 v)⟩
theorem XHas.goto {S0 : List Nat} {w0 w : World} {p : Option Addr} {g cap x : Nat} {rs : List Res} {s : Rn} (H : XHas S0 w0 p g cap x rs s w) (v : Int) : XHas S0 w0 p g cap x rs (s.goto v) (w.setCell ⟨x, 5, none⟩ (.int .i64 v)) := by
  obtain ⟨nv, H⟩ := H
  exact ⟨nv, H.set1 5 (.int .i64 v)⟩
theorem XHas.drew {S0 : List Nat} {w0 w : World} {p : Option Addr} {g cap x : Nat} {rs : List Res} {s : Rn} (H : XHas S0 w0 p g cap x rs s w) : XHas S0 w0 p g cap x rs s w.drew := by
  obtain ⟨nv, H⟩ := H
  exact ⟨nv, H.drew⟩
theorem XHas.drewN {S0 : List Nat} {w0 w : World} {p : Option Addr} {g cap x : Nat} {rs : List Res} {s : Rn} (H : XHas S0 w0 p g cap x rs s w) (k : Nat) : XHas S0 w0 p g cap x rs s (w.drewN k) := by
  obtain ⟨nv, H⟩ := H
  exact ⟨nv, H.drewN k⟩
theorem XHas.grow {w' : World} {S0 : List Nat} {w0 w : World} {p : Option Addr} {g cap x : Nat} {rs : List Res} {s : Rn} (H : XHas S0 w0 p g cap x rs s w) (t : Touch [] w w') : XHas S0 w0 p g cap x rs s w' := by
  obtain ⟨nv, H⟩ := H
  exact ⟨nv, H.grow t⟩
theorem XHas.old {S0 : List Nat} {w0 w : World} {p : Option Addr} {g cap x : Nat} {rs : List Res} {s : Rn} (H : XHas S0 w0 p g cap x rs s w) (b : Acc) : 0 ≤ (doA s.L b).1.old ∧ (doA s.L b).1.old < 4294967296 := by
  obtain ⟨nv, H⟩ := H
  exact doA_old s.L H.row.words b

/-- A step of its wake-up. -/
theorem xn_waking_on {S0 : List Nat} {w0 w : World} {p : Option Addr} {g cap x : Nat} {rs : List Res} {s : Rn} (H : XHas S0 w0 p g cap x rs s w) (hon : s.f.wk.on = true) :
    Calls Try.prog 17 #[.pointer (some ⟨x, 0, none⟩)] w fun e w' => e = .returned (.bool true) ∧ XHas S0 w0 p g cap x rs s.woke w' := by
  obtain ⟨nv, H⟩ := H
  exact (x_waking_on H hon).mono fun e w' h => ⟨h.1, .slice none 0 0, h.2.own_drop.own_nil _ _⟩
theorem xn_waking_off {S0 : List Nat} {w0 w : World} {p : Option Addr} {g cap x : Nat} {rs : List Res} {s : Rn} (H : XHas S0 w0 p g cap x rs s w) (hoff : s.f.wk.on = false) :
    Calls Try.prog 17 #[.pointer (some ⟨x, 0, none⟩)] w fun e w' => e = .returned (.bool false) ∧ XHas S0 w0 p g cap x rs s.fresh w' := by
  obtain ⟨nv, H⟩ := H
  exact (x_waking_off H hoff).mono fun e w' h => ⟨h.1, .slice none 0 0, h.2.own_drop.own_nil _ _⟩
theorem xn_over {S0 : List Nat} {w0 w : World} {p : Option Addr} {g cap x : Nat} {rs : List Res} {s : Rn} (H : XHas S0 w0 p g cap x rs s w) :
    Calls Try.prog 20 #[.pointer (some ⟨x, 0, none⟩)] w fun e w' => e = .returned (.bool s.over) ∧ w = w' := by
  obtain ⟨nv, H⟩ := H
  exact x_over H

end Go.Proofs.Ytlndihdlodempaa.Z

/- Fields of words: what the bit operations come to, in whole numbers. No program is in sight. -/
set_option linter.unusedVariables false
set_option linter.unusedSimpArgs false
namespace Go.Proofs.Ytlndihdlodempaa.ZB
open Go.RowKit

theorem pow_pos (n : Nat) : 0 < 2 ^ n := Nat.pow_pos (by decide)

theorem two_pow_le {a b : Nat} (h : a ≤ b) : 2 ^ a ≤ 2 ^ b := Nat.pow_le_pow_right (by decide) h

theorem and_mask (v s w : Nat) : v &&& ((2 ^ w - 1) * 2 ^ s) = (v / 2 ^ s % 2 ^ w) * 2 ^ s := by
  rw [← Nat.shiftLeft_eq, ← Nat.shiftLeft_eq, ← Nat.shiftRight_eq_div_pow]
  apply Nat.eq_of_testBit_eq
  intro i
  simp only [Nat.testBit_and, Nat.testBit_shiftLeft, Nat.testBit_two_pow_sub_one, Nat.testBit_mod_two_pow, Nat.testBit_shiftRight]
  by_cases h : i ≥ s
  · have e : s + (i - s) = i := by omega
    simp only [h, decide_true, Bool.true_and, e]
    exact Bool.and_comm _ _
  · simp [h]

theorem ofInt_nat (k n : Nat) : BitVec.ofInt k (n : Int) = BitVec.ofNat k n := by simp

theorem bits_and (a b : Nat) (ha : a < 4294967296) (hb : b < 4294967296) : Go.bits .and .u32 (a : Int) (b : Int) = ((a &&& b : Nat) : Int) := by
  unfold Go.bits
  simp only [ofInt_nat, BitVec.toNat_and, BitVec.toNat_ofNat]
  rw [Nat.mod_eq_of_lt (by simpa [IntKind.bits] using ha), Nat.mod_eq_of_lt (by simpa [IntKind.bits] using hb)]
  rw [IntKind.wrap_u32]
  have : a &&& b ≤ a := Nat.and_le_left
  omega

theorem and_split (v m : BitVec 32) : v.toNat = (v &&& m).toNat + (v &&& ~~~m).toNat := by
  have hz : (v &&& m) &&& (v &&& ~~~m) = 0#32 := by ext i; simp only [BitVec.getElem_and, BitVec.getElem_or, BitVec.getElem_not, BitVec.getElem_zero]; cases v[i] <;> cases m[i] <;> rfl
  have hor : (v &&& m) ||| (v &&& ~~~m) = v := by ext i; simp only [BitVec.getElem_and, BitVec.getElem_or, BitVec.getElem_not, BitVec.getElem_zero]; cases v[i] <;> cases m[i] <;> rfl
  have := BitVec.add_eq_or_of_and_eq_zero _ _ hz
  rw [hor] at this
  have h2 := congrArg BitVec.toNat this
  rw [BitVec.toNat_add] at h2
  have h3 : (v &&& ~~~m).toNat ≤ (~~~m).toNat := by rw [BitVec.toNat_and]; exact Nat.and_le_right
  have h4 : (v &&& m).toNat ≤ m.toNat := by rw [BitVec.toNat_and]; exact Nat.and_le_right
  rw [BitVec.toNat_not] at h3
  have := m.isLt
  rw [Nat.mod_eq_of_lt (by omega)] at h2
  exact h2.symm

theorem put_split (v x m : BitVec 32) : ((v &&& ~~~m) ||| (x &&& m)).toNat = (v &&& ~~~m).toNat + (x &&& m).toNat := by
  have hz : (v &&& ~~~m) &&& (x &&& m) = 0#32 := by ext i; simp only [BitVec.getElem_and, BitVec.getElem_not, BitVec.getElem_zero]; cases v[i] <;> cases x[i] <;> cases m[i] <;> rfl
  have := BitVec.add_eq_or_of_and_eq_zero _ _ hz
  rw [← this, BitVec.toNat_add]
  have h3 : (v &&& ~~~m).toNat ≤ (~~~m).toNat := by rw [BitVec.toNat_and]; exact Nat.and_le_right
  have h4 : (x &&& m).toNat ≤ m.toNat := by rw [BitVec.toNat_and]; exact Nat.and_le_right
  rw [BitVec.toNat_not] at h3
  have := m.isLt
  rw [Nat.mod_eq_of_lt (by omega)]

theorem bits_or (a b : Nat) (ha : a < 4294967296) (hb : b < 4294967296) : Go.bits .or .u32 (a : Int) (b : Int) = ((BitVec.ofNat 32 a ||| BitVec.ofNat 32 b).toNat : Int) := by
  show (IntKind.u32.wrap ((BitVec.ofInt 32 (a : Int) ||| BitVec.ofInt 32 (b : Int)).toNat : Int)) = _
  rw [ofInt_nat, ofInt_nat, IntKind.wrap_u32]
  have := (BitVec.ofNat 32 a ||| BitVec.ofNat 32 b).isLt
  omega

theorem bits_andNot (a b : Nat) : Go.bits .andNot .u32 (a : Int) (b : Int) = ((BitVec.ofNat 32 a &&& ~~~ (BitVec.ofNat 32 b)).toNat : Int) := by
  show (IntKind.u32.wrap ((BitVec.ofInt 32 (a : Int) &&& ~~~ (BitVec.ofInt 32 (b : Int))).toNat : Int)) = _
  rw [ofInt_nat, ofInt_nat, IntKind.wrap_u32]
  have := (BitVec.ofNat 32 a &&& ~~~ (BitVec.ofNat 32 b)).isLt
  omega

theorem nat32 (a : Nat) (ha : a < 4294967296) : (BitVec.ofNat 32 a).toNat = a := by
  rw [BitVec.toNat_ofNat]; exact Nat.mod_eq_of_lt (by omega)

theorem bits_put (v x m : Nat) (hv : v < 4294967296) (hx : x < 4294967296) (hm : m < 4294967296) :
    Go.bits .or .u32 (Go.bits .andNot .u32 (v : Int) (m : Int)) (Go.bits .and .u32 (x : Int) (m : Int)) = (v : Int) - ((v &&& m : Nat) : Int) + ((x &&& m : Nat) : Int) := by
  rw [bits_and x m hx hm, bits_andNot]
  have e1 := and_split (BitVec.ofNat 32 v) (BitVec.ofNat 32 m)
  have e2 := put_split (BitVec.ofNat 32 v) (BitVec.ofNat 32 x) (BitVec.ofNat 32 m)
  have ex : (BitVec.ofNat 32 x &&& BitVec.ofNat 32 m).toNat = x &&& m := by rw [BitVec.toNat_and, nat32 x hx, nat32 m hm]
  have ev : (BitVec.ofNat 32 v &&& BitVec.ofNat 32 m).toNat = v &&& m := by rw [BitVec.toNat_and, nat32 v hv, nat32 m hm]
  have e5 : BitVec.ofNat 32 (x &&& m) = (BitVec.ofNat 32 x &&& BitVec.ofNat 32 m) := by
    apply BitVec.eq_of_toNat_eq
    rw [ex, nat32]
    have : x &&& m ≤ x := Nat.and_le_left
    omega
  have hl : x &&& m < 4294967296 := by
    have : x &&& m ≤ x := Nat.and_le_left
    omega
  generalize hA : (BitVec.ofNat 32 v &&& ~~~ (BitVec.ofNat 32 m)) = A at e1 e2 ⊢
  have hlt := A.isLt
  rw [bits_or _ _ (by omega) hl, e5, show BitVec.ofNat 32 A.toNat = A from by simp, e2, ex]
  rw [ev, nat32 v hv] at e1
  omega

end Go.Proofs.Ytlndihdlodempaa.ZB

/- The document's run: a box more; what a wait looks at. -/
set_option linter.unusedVariables false
set_option linter.unusedSimpArgs false
namespace Go.Proofs.Ytlndihdlodempaa.Z
open Go.RowKit

/-- A box more. -/
theorem XHas.box {S0 : List Nat} {w0 w : World} {p : Option Addr} {g cap x : Nat} {rs : List Res} {s : Rn} (H : XHas S0 w0 p g cap x rs s w) {b : Nat} (hb : w.heap.size = b) (cs : Array Value) (T : TypeId) : XHas S0 w0 p g cap x (.blk b cs :: rs) s (w.alloc (.cells cs T)) := by
  obtain ⟨nv, H⟩ := H
  exact ⟨nv, (H.new hb cs T).perm (perm_past3 (Res.row p g cap s.L) (Res.blk x (xcells p cap s nv)) (Res.own 98 4 nv s.notes.length (nts s.notes)) [Res.blk b cs] rs)⟩
theorem XHas.unbox {S0 : List Nat} {w0 w : World} {p : Option Addr} {g cap x : Nat} {y : Res} {rs : List Res} {s : Rn} (H : XHas S0 w0 p g cap x (y :: rs) s w) : XHas S0 w0 p g cap x rs s w := by
  obtain ⟨nv, H⟩ := H
  exact ⟨nv, H.cut31⟩
theorem XHas.first {S0 : List Nat} {w0 w : World} {p : Option Addr} {g cap x b : Nat} {cs : Array Value} {rs : List Res} {s : Rn} (H : XHas S0 w0 p g cap x (.blk b cs :: rs) s w) : Blk w b cs := by
  obtain ⟨nv, H⟩ := H
  exact H.at_ 3 rfl

theorem untilA_all {v : Int} (a : Int) (h : 0 ≤ v ∧ v < 4294967296) : untilA 0 4294967295 a v = (v == a) := by
  obtain ⟨n, rfl⟩ : ∃ n : Nat, v = n := ⟨v.toNat, by omega⟩
  show (bits .and .u32 (n : Int) 4294967295 == a) = _
  have h1 := ZB.bits_and n 4294967295 (by omega) (by decide)
  have h2 : n &&& 4294967295 = n := by
    rw [show (4294967295 : Nat) = 2 ^ 32 - 1 from rfl, Nat.and_two_pow_sub_one_eq_mod]
    omega
  rw [h2] at h1
  rw [show ((4294967295 : Nat) : Int) = 4294967295 from rfl] at h1
  rw [h1]
theorem untilA_some {v : Int} (a : Int) (h : 0 ≤ v ∧ v < 4294967296) : untilA 1 4294967295 a v = (v != a) := by
  have h1 := untilA_all a h
  unfold untilA at h1 ⊢
  simp only [if_true] at h1
  simp only [show ¬ ((1 : Int) = 0) from by decide, if_false, if_true]
  unfold bne
  rw [h1]
/-- A wait looks at a word: what else is so elsewhere doesn't matter. -/
theorem waitA_like {L : List Int} {n mode task st c : Int} {p q : Int → Bool} (hw : Words L) (h : ∀ v, 0 ≤ v ∧ v < 4294967296 → p v = q v) : waitA L n mode task st c p = waitA L n mode task st c q := by
  have h1 := fun b => h _ (doA_old L hw b)
  unfold waitA
  simp only [h1]
theorem XHas.words_ {S0 : List Nat} {w0 w : World} {p : Option Addr} {g cap x : Nat} {rs : List Res} {s : Rn} (H : XHas S0 w0 p g cap x rs s w) : Words s.L := by
  obtain ⟨nv, H⟩ := H
  exact H.row.words
theorem XHas.back_ {S0 : List Nat} {w0 w : World} {p : Option Addr} {g cap x : Nat} {rs : List Res} {s : Rn} {R : Acc × Bool × List Int} {k l : Int} (H : XHas S0 w0 p g cap x rs ((s.goto k).did R) w) (h : s.f.line = l) : XHas S0 w0 p g cap x rs (s.did R) (w.setCell ⟨x, 5, none⟩ (.int .i64 l)) := by
  have e : ((s.goto k).did R).goto l = s.did R := by
    obtain ⟨n, mode, task, ⟨op, line, fa, fb, st, wk, ret⟩, acc, notes, L⟩ := s
    simp only at h
    subst h
    rfl
  rw [← e]
  exact H.goto l

end Go.Proofs.Ytlndihdlodempaa.Z
