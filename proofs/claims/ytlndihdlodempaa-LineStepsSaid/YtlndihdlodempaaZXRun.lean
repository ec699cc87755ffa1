/- The document's run (stilemanref09): the same record. Written by genxrun.py. -/
import Derived.Test.YtlndihdlodempaaZRun6
import Derived.Test.YtlndihdlodempaaZWakeAny
set_option linter.unusedVariables false
set_option linter.unusedSimpArgs false
namespace Go.Proofs.Ytlndihdlodempaa.Z
open Go.RowKit

theorem waitA_len (L : List Int) (n mode task stage c : Int) (p : Int → Bool) : (waitA L n mode task stage c p).words.length = L.length := by
  rcases stageA_is mode stage with e | e | e | e | e
  · rw [waitA0 e]
  · rw [waitA1 e]; exact doA_length _ _
  · rw [waitA2 e]
  · rw [waitA3 e]
    show (takeA L n task).2.2.length = _
    unfold takeA
    split
    · exact doA_length _ _
    · rfl
  · rw [waitA4 e]; exact doA_length _ _

theorem wakeA_len2 (L : List Int) (n : Int) (k : Wk) : (wakeA L n k).2.2.length = L.length := by
  unfold wakeA giveA
  repeat' split
  all_goals first | rfl | exact doA_length _ _

def xcells (p : Option Addr) (cap : Nat) (s : Rn) (nv : Value) : Array Value :=
  #[.slice p s.L.length cap, .int .i64 s.n, .int .i64 s.mode, .int .i64 s.task, .int .i64 s.f.op, .int .i64 s.f.line, .int .u32 s.f.a, .int .u32 s.f.b, .int .i64 s.f.st,
    .bool s.f.wk.on, .int .i64 s.f.wk.cell, .int .i64 s.f.wk.i, .bool s.f.wk.hit, .int .i64 s.f.ret, .int .i64 s.acc.kind, .int .i64 s.acc.cell, .int .u32 s.acc.x, .int .u32 s.acc.y, .int .u32 s.acc.old, nv]

set_option maxHeartbeats 1600000 in
set_option maxRecDepth 100000 in
theorem x_do {S0 : List Nat} {w0 w : World} {p : Option Addr} {g cap x : Nat} {nv : Value} {rs : List Res} {s : Rn} (H : Has S0 w0 w (.row p g cap (s).L :: .blk x (xcells p cap (s) nv) :: rs)) (k c u v : Int) (hu : 0 ≤ u ∧ u < 4294967296) (hv : 0 ≤ v ∧ v < 4294967296) :
    Calls Try.prog 132 #[.pointer (some ⟨x, 0, none⟩), .int .i64 k, .int .i64 c, .int .u32 u, .int .u32 v] w
      fun e w' => e = .returned (.int .u32 (doA s.L ⟨k, c, u, v, 0⟩).1.old) ∧ Has S0 w0 w' (.row p g cap (s.did (doA s.L ⟨k, c, u, v, 0⟩)).L :: .blk x (xcells p cap (s.did (doA s.L ⟨k, c, u, v, 0⟩)) nv) :: rs) := by
  obtain ⟨n, mode, task, ⟨op, line, fa, fb, st, ⟨on, wc, wi, hit⟩, ret⟩, ⟨ak, ac, ax, ay, ao⟩, notes, L⟩ := s
  have hlen := doA_length L ⟨k, c, u, v, 0⟩
  have hd := fun W rs (H : Has S0 w0 W (.row p g cap L :: rs)) => rdo_has H ⟨k, c, u, v, 0⟩ hu hv
  simp only [Rn.did, xcells] at *
  generalize doA L ⟨k, c, u, v, 0⟩ = R at hd hlen ⊢
  obtain ⟨⟨rk, rc, rx, ry, ro⟩, rok, L2⟩ := R
  simp only [Acc.cells] at hd hlen ⊢
  rw [hlen]
  have HD := Lib.hid hd
  clear hd hu hv hlen
  obtain ⟨x0, x1, x2⟩ := H.blk1.own
  have HH := Lib.hid H
  clear H
  go_enter Try.func132, Try.ntmps132
  go_wp2_with fail
  refine (HD.out _ _ HH.out).mono ?_
  rintro e w1 ⟨rfl, H1⟩
  clear x0 x1 x2
  obtain ⟨y0, y1, y2⟩ := H1.blk1.own
  have n1 : x ≠ w1.heap.size := Nat.ne_of_lt y0
  have n2 : w1.heap.size ≠ x := n1.symm
  go_wp2_with fail
  go_ret
  refine ⟨rfl, ?_⟩
  have H2 := ((((H1.set1 14 (.int .i64 rk)).set1 15 (.int .i64 rc)).set1 16 (.int .u32 rx)).set1 17 (.int .u32 ry)).set1 18 (.int .u32 ro)
  simp only [List.setIfInBounds_toArray, List.set_cons_zero, List.set_cons_succ] at H2
  exact H2.grow ((Touch.refl [] _).alloc _)

set_option maxRecDepth 100000 in
theorem x_load {S0 : List Nat} {w0 w : World} {p : Option Addr} {g cap x : Nat} {nv : Value} {rs : List Res} {s : Rn} (H : Has S0 w0 w (.row p g cap (s).L :: .blk x (xcells p cap (s) nv) :: rs)) (c : Int) :
    Calls Try.prog 63 #[.pointer (some ⟨x, 0, none⟩), .int .i64 c] w fun e w' => e = .returned (.int .u32 (doA s.L ⟨1, c, 0, 0, 0⟩).1.old) ∧ Has S0 w0 w' (.row p g cap (s.did (doA s.L ⟨1, c, 0, 0, 0⟩)).L :: .blk x (xcells p cap (s.did (doA s.L ⟨1, c, 0, 0, 0⟩)) nv) :: rs) := by
  have hd := fun W (H : Has S0 w0 W (.row p g cap (s).L :: .blk x (xcells p cap (s) nv) :: rs)) => x_do H 1 c 0 0 (by simp) (by simp)
  generalize (doA s.L ⟨1, c, 0, 0, 0⟩).1.old = o at hd ⊢
  generalize s.did (doA s.L ⟨1, c, 0, 0, 0⟩) = s2 at hd ⊢
  have HD := Lib.hid hd
  have HH := Lib.hid H
  clear hd H
  go_enter Try.func63, Try.ntmps63
  go_wp2_with fail
  refine (HD.out _ HH.out).mono ?_
  rintro e w1 ⟨rfl, H1⟩
  go_wp2_with fail
  go_ret
  exact ⟨rfl, H1⟩

set_option maxRecDepth 100000 in
theorem x_add {S0 : List Nat} {w0 w : World} {p : Option Addr} {g cap x : Nat} {nv : Value} {rs : List Res} {s : Rn} (H : Has S0 w0 w (.row p g cap (s).L :: .blk x (xcells p cap (s) nv) :: rs)) (c : Int) (u : Int) (hu : 0 ≤ u ∧ u < 4294967296) :
    Calls Try.prog 65 #[.pointer (some ⟨x, 0, none⟩), .int .i64 c, .int .u32 u] w fun e w' => e = .returned (.int .u32 (doA s.L ⟨3, c, u, 0, 0⟩).1.old) ∧ Has S0 w0 w' (.row p g cap (s.did (doA s.L ⟨3, c, u, 0, 0⟩)).L :: .blk x (xcells p cap (s.did (doA s.L ⟨3, c, u, 0, 0⟩)) nv) :: rs) := by
  have hd := fun W (H : Has S0 w0 W (.row p g cap (s).L :: .blk x (xcells p cap (s) nv) :: rs)) => x_do H 3 c u 0 hu (by simp)
  generalize (doA s.L ⟨3, c, u, 0, 0⟩).1.old = o at hd ⊢
  generalize s.did (doA s.L ⟨3, c, u, 0, 0⟩) = s2 at hd ⊢
  have HD := Lib.hid hd
  have HH := Lib.hid H
  clear hd H
  go_enter Try.func65, Try.ntmps65
  go_wp2_with fail
  refine (HD.out _ HH.out).mono ?_
  rintro e w1 ⟨rfl, H1⟩
  go_wp2_with fail
  go_ret
  exact ⟨rfl, H1⟩

theorem casB_is (L : List Int) (c u v : Int) : casB L c u v = ((doA L ⟨5, c, u, v, 0⟩).1.old == u && decide (0 ≤ c ∧ c < (L.length : Int))) := by
  unfold casB doA
  by_cases h : 0 ≤ c ∧ c < (L.length : Int)
  · simp [h]
  · simp [h, Acc.zero]

set_option maxHeartbeats 800000 in
set_option maxRecDepth 100000 in
theorem x_cas {S0 : List Nat} {w0 w : World} {p : Option Addr} {g cap x : Nat} {nv : Value} {rs : List Res} {s : Rn} (H : Has S0 w0 w (.row p g cap (s).L :: .blk x (xcells p cap (s) nv) :: rs)) (c u v : Int) (hu : 0 ≤ u ∧ u < 4294967296) (hv : 0 ≤ v ∧ v < 4294967296) :
    Calls Try.prog 67 #[.pointer (some ⟨x, 0, none⟩), .int .i64 c, .int .u32 u, .int .u32 v] w fun e w' => e = .returned (.bool (casB s.L c u v)) ∧ Has S0 w0 w' (.row p g cap (s.did (doA s.L ⟨5, c, u, v, 0⟩)).L :: .blk x (xcells p cap (s.did (doA s.L ⟨5, c, u, v, 0⟩)) nv) :: rs) := by
  have hd := fun W (H : Has S0 w0 W (.row p g cap (s).L :: .blk x (xcells p cap (s) nv) :: rs)) => x_do H 5 c u v hu hv
  rw [casB_is]
  have hlen : (s.did (doA s.L ⟨5, c, u, v, 0⟩)).L.length = s.L.length := doA_length _ _
  generalize (doA s.L ⟨5, c, u, v, 0⟩).1.old = o at hd ⊢
  generalize s.did (doA s.L ⟨5, c, u, v, 0⟩) = s2 at hd hlen ⊢
  rw [← hlen]
  have ht := fun (W : World) => there_any p s2.L.length cap c W
  generalize decide (0 ≤ c ∧ c < (s2.L.length : Int)) = b at ht ⊢
  have HD := Lib.hid hd
  have HH := Lib.hid H
  have HT := Lib.hid ht
  clear hd H ht hlen
  cases hb : (o == u) with
  | true =>
    go_enter Try.func67, Try.ntmps67
    go_wp2_with fail
    refine (HD.out _ HH.out).mono ?_
    rintro e w1 ⟨rfl, H1⟩
    obtain ⟨y0, y1, y2⟩ := H1.blk1.own
    simp only [xcells] at y1
    go_wp2_with fail
    refine (HT.out _).mono ?_
    rintro e w2 ⟨rfl, rfl⟩
    go_wp2_with fail
    go_ret
    exact ⟨by simp, H1⟩
  | false =>
    go_enter Try.func67, Try.ntmps67
    go_wp2_with fail
    refine (HD.out _ HH.out).mono ?_
    rintro e w1 ⟨rfl, H1⟩
    go_wp2_with fail
    go_ret
    exact ⟨by simp, H1⟩

set_option maxRecDepth 100000 in
theorem x_end {S0 : List Nat} {w0 w : World} {p : Option Addr} {g cap x : Nat} {nv : Value} {rs : List Res} {s : Rn} (H : Has S0 w0 w (.row p g cap (s).L :: .blk x (xcells p cap (s) nv) :: rs)) (b : Bool) :
    Calls Try.prog 70 #[.pointer (some ⟨x, 0, none⟩), .bool b] w fun e w' => e = .returned (.tuple #[]) ∧ Has S0 w0 w' (.row p g cap (s.fin b).L :: .blk x (xcells p cap (s.fin b) nv) :: rs) := by
  obtain ⟨n, mode, task, ⟨op, line, fa, fb, st, ⟨on, wc, wi, hit⟩, ret⟩, ⟨ak, ac, ax, ay, ao⟩, notes, L⟩ := s
  simp only [xcells, Rn.fin] at H ⊢
  obtain ⟨x0, x1, x2⟩ := H.blk1.own
  cases b with
  | true =>
    go_enter Try.func70, Try.ntmps70
    go_wp2
    go_end0
    exact ⟨rfl, by first | exact (H.set1 13 _).set1 13 _ | exact H.set1 13 _⟩
  | false =>
    go_enter Try.func70, Try.ntmps70
    go_wp2
    go_end0
    exact ⟨rfl, H.set1 13 _⟩

set_option maxHeartbeats 400000 in
set_option maxRecDepth 100000 in
theorem x_wake {S0 : List Nat} {w0 w : World} {p : Option Addr} {g cap x : Nat} {nv : Value} {rs : List Res} {s : Rn} (H : Has S0 w0 w (.row p g cap (s).L :: .blk x (xcells p cap (s) nv) :: rs)) (c : Int) :
    Calls Try.prog 71 #[.pointer (some ⟨x, 0, none⟩), .int .i64 c] w fun e w' => e = .returned (.tuple #[]) ∧ Has S0 w0 w' (.row p g cap (s.wake c).L :: .blk x (xcells p cap (s.wake c) nv) :: rs) := by
  obtain ⟨n, mode, task, ⟨op, line, fa, fb, st, ⟨on, wc, wi, hit⟩, ret⟩, ⟨ak, ac, ax, ay, ao⟩, notes, L⟩ := s
  simp only [Rn.wake] at H ⊢
  have hb := fun W => rbegin_any mode c W
  generalize beginA mode c = k at hb ⊢
  obtain ⟨ko, kc, ki, kh⟩ := k
  simp only [xcells, Wk.cells] at H hb ⊢
  obtain ⟨x0, x1, x2⟩ := H.blk1.own
  have HB := Lib.hid hb
  have HH := Lib.hid H
  clear hb H
  go_enter Try.func71, Try.ntmps71
  go_wp2_with fail
  refine (HB.out _).mono ?_
  rintro e w1 ⟨rfl, t1⟩
  have H1 := HH.out.grow t1
  obtain ⟨y0, y1, y2⟩ := H1.blk1.own
  go_wp2
  go_end0
  exact ⟨rfl, ((((H1.set1 9 _).set1 10 _).set1 11 _).set1 12 _)⟩

set_option maxHeartbeats 1600000 in
set_option maxRecDepth 100000 in
/-- The document's step of a wake-up, if one is on. -/
theorem x_waking_on {S0 : List Nat} {w0 w : World} {p : Option Addr} {g cap x : Nat} {nv : Value} {rs : List Res} {s : Rn} (H : Has S0 w0 w (.row p g cap (s).L :: .blk x (xcells p cap (s) nv) :: rs)) (hon : s.f.wk.on = true) :
    Calls Try.prog 17 #[.pointer (some ⟨x, 0, none⟩)] w fun e w' => e = .returned (.bool true) ∧ Has S0 w0 w' (.row p g cap (s.woke).L :: .blk x (xcells p cap (s.woke) (.slice none 0 0)) :: rs) := by
  obtain ⟨n, mode, task, ⟨op, line, fa, fb, st, wk, ret⟩, ⟨ak, ac, ax, ay, ao⟩, notes, L⟩ := s
  have hlen := wakeA_len2 L n wk
  have hd := fun W rs (H : Has S0 w0 W (.row p g cap L :: rs)) => rwake_any H n wk
  simp only [xcells, Rn.woke] at *
  generalize wakeA L n wk = R at hd hlen ⊢
  obtain ⟨⟨on', wc', wi', hit'⟩, ⟨rk, rc, rx, ry, ro⟩, L2⟩ := R
  obtain ⟨on, wc, wi, hit⟩ := wk
  simp only at hon
  subst hon
  simp only [Wk.cells, Acc.cells] at *
  rw [hlen]
  obtain ⟨x0, x1, x2⟩ := H.blk1.own
  have HD := Lib.hid hd
  have HH := Lib.hid H
  clear hd H hlen
  go_enter Try.func17, Try.ntmps17
  go_wp2_with fail
  refine region_flat (by kernel_rfl) (by kernel_rfl) ?_
  simp only [probed, probes, List.nil_append]
  go_wp2_with fail
  refine (HD.out _ _ ((((((HH.out.set1 14 _).set1 15 _).set1 16 _).set1 17 _).set1 18 _).set1 19 _).drew).mono ?_
  rintro e w1 ⟨rfl, H1⟩
  clear x0 x1 x2
  obtain ⟨y0, y1, y2⟩ := H1.blk1.own
  go_wp2_with fail
  rw [only_normal]
  rename_i hK
  refine hK _ _ ?_
  clear hK
  have H2 := (((((((((H1.set1 9 (.bool on')).set1 10 (.int .i64 wc')).set1 11 (.int .i64 wi')).set1 12 (.bool hit')).set1 14 (.int .i64 rk)).set1 15 (.int .i64 rc)).set1 16 (.int .u32 rx)).set1 17 (.int .u32 ry)).set1 18 (.int .u32 ro))
  simp only [List.setIfInBounds_toArray, List.set_cons_zero, List.set_cons_succ] at H2
  go_wp2
  go_ret
  exact ⟨rfl, H2⟩

set_option maxHeartbeats 800000 in
set_option maxRecDepth 100000 in
theorem x_waking_off {S0 : List Nat} {w0 w : World} {p : Option Addr} {g cap x : Nat} {nv : Value} {rs : List Res} {s : Rn} (H : Has S0 w0 w (.row p g cap (s).L :: .blk x (xcells p cap (s) nv) :: rs)) (hoff : s.f.wk.on = false) :
    Calls Try.prog 17 #[.pointer (some ⟨x, 0, none⟩)] w fun e w' => e = .returned (.bool false) ∧ Has S0 w0 w' (.row p g cap (s.fresh).L :: .blk x (xcells p cap (s.fresh) (.slice none 0 0)) :: rs) := by
  obtain ⟨n, mode, task, ⟨op, line, fa, fb, st, ⟨on, wc, wi, hit⟩, ret⟩, ⟨ak, ac, ax, ay, ao⟩, notes, L⟩ := s
  simp only at hoff
  subst hoff
  simp only [xcells, Rn.fresh, Acc.zero] at H ⊢
  obtain ⟨x0, x1, x2⟩ := H.blk1.own
  have HH := Lib.hid H
  clear H
  go_enter Try.func17, Try.ntmps17
  go_wp2_with fail
  go_ret
  refine ⟨rfl, ?_⟩
  have H2 := ((((((HH.out.set1 14 (.int .i64 0)).set1 15 (.int .i64 0)).set1 16 (.int .u32 0)).set1 17 (.int .u32 0)).set1 18 (.int .u32 0)).set1 19 (.slice none 0 0))
  simp only [List.setIfInBounds_toArray, List.set_cons_zero, List.set_cons_succ] at H2
  exact H2

set_option maxHeartbeats 800000 in
set_option maxRecDepth 100000 in
theorem x_over {S0 : List Nat} {w0 w : World} {p : Option Addr} {g cap x : Nat} {nv : Value} {rs : List Res} {s : Rn} (H : Has S0 w0 w (.row p g cap (s).L :: .blk x (xcells p cap (s) nv) :: rs)) :
    Calls Try.prog 20 #[.pointer (some ⟨x, 0, none⟩)] w fun e w' => e = .returned (.bool s.over) ∧ w = w' := by
  obtain ⟨n, mode, task, ⟨op, line, fa, fb, st, ⟨on, wc, wi, hit⟩, ret⟩, ⟨ak, ac, ax, ay, ao⟩, notes, L⟩ := s
  simp only [xcells, Rn.over] at H ⊢
  obtain ⟨x0, x1, x2⟩ := H.blk1.own
  have HH := Lib.hid H
  clear H
  by_cases h0 : ret = 0
  · subst h0
    go_enter Try.func20, Try.ntmps20
    go_wp2
    go_ret
    exact ⟨by simp, rfl⟩
  · have h1 : (ret != 0) = true := by simpa using h0
    clear h0
    go_enter Try.func20, Try.ntmps20
    go_wp2
    go_ret
    exact ⟨by simp [h1], rfl⟩

end Go.Proofs.Ytlndihdlodempaa.Z
