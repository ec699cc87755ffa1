/- 6 texts of this claim, joined: what each shows stands at its own head. -/
import Derived.Test.YtbcppehpfckgoaaZM00PqExcludes
import Derived.Test.YtbcppehpfckgoaaZRun7t
import Derived.Test.YtbcppehpfckgoaaZFlat5
import Derived.Deep.RegionHeld3
import Derived.Deep.DrawnRows
import Derived.Test.YtbcppehpfckgoaaZAlone
/- Package mutex: its small functions. -/
set_option linter.unusedVariables false
set_option linter.unusedSimpArgs false
namespace Go.Proofs.Ytbcppehpfckgoaa.Z
open Go.RowKit
attribute [local go_sem ↓] Go.wp_at_zero Go.wp_at_succ

/-- A task's number in the queue. -/
def mxOwn (s : Rn) : Int := (s.task + 1) % 4294967296
theorem mxOwn_word (s : Rn) : 0 ≤ mxOwn s ∧ mxOwn s < 4294967296 := by unfold mxOwn; omega

/-- What the walks of the mutex read. -/
theorem RunHas.sees {S0 : List Nat} {w0 w : World} {m a r : Nat} {rs : List Res} {s : Rn} (H : RunHas S0 w0 m a r rs s w) : w.cell? ⟨r, 1, none⟩ = some (.int .i64 s.n) ∧ w.cell? ⟨r, 3, none⟩ = some (.int .i64 s.task) ∧ w.cell? ⟨r, 6, none⟩ = some (.int .u32 s.f.a) :=
  ⟨(H.whose rfl rfl rfl).1, (H.whose rfl rfl rfl).2.2, (H.facts rfl rfl rfl rfl).2.2.2.2.1⟩
theorem RunHas.sees_did {S0 : List Nat} {w0 w : World} {m a r : Nat} {rs : List Res} {s : Rn} {R : Acc × Bool × List Int} (H : RunHas S0 w0 m a r rs (s.did R) w) : w.cell? ⟨r, 1, none⟩ = some (.int .i64 s.n) ∧ w.cell? ⟨r, 3, none⟩ = some (.int .i64 s.task) ∧ w.cell? ⟨r, 6, none⟩ = some (.int .u32 s.f.a) :=
  ⟨(H.whose rfl rfl rfl).1, (H.whose rfl rfl rfl).2.2, (H.facts rfl rfl rfl rfl).2.2.2.2.1⟩
theorem RunHas.sees_wtd {S0 : List Nat} {w0 w : World} {m a r : Nat} {rs : List Res} {s : Rn} {R : WaitR} (H : RunHas S0 w0 m a r rs (s.waited R) w) : w.cell? ⟨r, 1, none⟩ = some (.int .i64 s.n) ∧ w.cell? ⟨r, 3, none⟩ = some (.int .i64 s.task) ∧ w.cell? ⟨r, 6, none⟩ = some (.int .u32 s.f.a) :=
  ⟨(H.whose rfl rfl rfl).1, (H.whose rfl rfl rfl).2.2, (H.facts rfl rfl rfl rfl).2.2.2.2.1⟩
theorem RunHas.sees_box {S0 : List Nat} {w0 w : World} {m a r : Nat} {rs : List Res} {s : Rn} {b : Nat} (H : RunHas S0 w0 m a r (.blk b #[.pointer (some ⟨r, 4, none⟩)] :: rs) s w) : w.cell? ⟨r, 1, none⟩ = some (.int .i64 s.n) ∧ w.cell? ⟨r, 3, none⟩ = some (.int .i64 s.task) ∧ w.cell? ⟨r, 6, none⟩ = some (.int .u32 s.f.a) ∧ w.cell? ⟨b, 0, none⟩ = some (.pointer (some ⟨r, 4, none⟩)) :=
  ⟨(H.whose rfl rfl rfl).1, (H.whose rfl rfl rfl).2.2, (H.facts rfl rfl rfl rfl).2.2.2.2.1, H.first.own.2.1 0⟩
theorem mx_own {S0 : List Nat} {w0 w : World} {m a r : Nat} {rs : List Res} {s : Rn} (H : RunHas S0 w0 m a r rs s w) :
    Calls Try.prog 110 #[.pointer (some ⟨r, 0, none⟩)] w fun e w' => e = .returned (.int .u32 (mxOwn s)) ∧ w = w' := by
  obtain ⟨y1, y2, y3⟩ := H.whose rfl rfl rfl
  go_enter Try.func110, Try.ntmps110
  go_wp2
  go_ret
  refine ⟨?_, rfl⟩
  show Ending.returned (Value.int .u32 _) = Ending.returned (Value.int .u32 _)
  unfold mxOwn
  have e : wrap64 (s.task + 1) % 4294967296 = (s.task + 1) % 4294967296 := by
    unfold wrap64
    omega
  rw [e]
theorem mx_other (v : Int) (w : World) (hv : 0 ≤ v ∧ v < 4294967296) :
    Calls Try.prog 111 #[.int .u32 v] w fun e w' => e = .returned (.int .i64 (v - 1)) ∧ w = w' := by
  go_enter Try.func111, Try.ntmps111
  go_wp2
  go_ret
  refine ⟨?_, rfl⟩
  go_num
theorem mx_free (v : Int) (w : World) (hv : 0 ≤ v ∧ v < 4294967296) :
    Calls Try.prog 112 #[.int .u32 v] w fun e w' => e = .returned (.bool (v == 0)) ∧ Touch [] w w' := by
  go_enter Try.func112, Try.ntmps112
  go_wp2
  go_ret
  exact ⟨rfl, Touch.refl _ _⟩

theorem RunHas.ne_first {S0 : List Nat} {w0 w : World} {m a r b : Nat} {cs : Array Value} {rs : List Res} {s : Rn} (H : RunHas S0 w0 m a r (.blk b cs :: rs) s w) : r ≠ b := by
  obtain ⟨nv, H⟩ := H
  exact H.ne_at 1 3 rfl rfl (by decide)
theorem RunHas.swap12 {S0 : List Nat} {w0 w : World} {m a r : Nat} {x y : Res} {rs : List Res} {s : Rn} (H : RunHas S0 w0 m a r (x :: y :: rs) s w) : RunHas S0 w0 m a r (y :: x :: rs) s w := by
  obtain ⟨nv, H⟩ := H
  exact ⟨nv, H.perm (((List.Perm.swap y x rs).cons _).cons _ |>.cons _)⟩

set_option maxHeartbeats 800000 in
theorem mx_noted {S0 : List Nat} {w0 w : World} {m a r g n c : Nat} {l : List Int} {rs : List Res} {s : Rn} (H : RunHas S0 w0 m a r (.blk g (i64s l).toArray :: rs) s w) (hn : l.length = n) (hc : s.notes.length + l.length ≤ 1000) :
    Calls Try.prog 116 #[.pointer (some ⟨r, 0, none⟩), .slice (some ⟨g, 0, none⟩) n c] w fun e w' => e = .returned (.tuple #[]) ∧ RunHas S0 w0 m a r (.blk g (i64s l).toArray :: rs) (s.noted l) w' := by
  subst hn
  have hll : l.length ≤ 1000 := by omega
  have HC := Lib.hid hc
  have HH := Lib.hid H
  clear hc H
  go_enter Try.func116, Try.ntmps116
  go_wp2_with fail
  go_loopw [8] (fun i wr => ∃ k : Nat, k ≤ l.length ∧ i = .int .i64 k ∧ RunHas S0 w0 m a r (.blk g (i64s l).toArray :: rs) (s.noted (l.take k)) wr) (fun i _ => l.length - (intOf i).toNat)
  case atStart => exact ⟨0, Nat.zero_le _, rfl, HH.out⟩
  case round =>
    obtain ⟨k, hk, rfl, hH⟩ := hrel
    have HK := Lib.hid hH
    clear hH
    by_cases hlt : k < l.length
    · obtain ⟨b, off, hb, hbl, hcell⟩ := i64s_at (rd_blk HK.out.first) hlt
      simp only [Option.some.injEq, Addr.mk.injEq] at hb
      obtain ⟨rfl, rfl, _⟩ := hb
      obtain ⟨x, hx⟩ : ∃ x, l.getD k 0 = x := ⟨_, rfl⟩
      rw [hx, Nat.zero_add] at hcell
      have HX := Lib.hid hx
      clear hx
      have hi : (k : Int) < (l.length : Int) := by omega
      go_wp2_with fail
      refine (run_note HK.out (by rw [noted_notes]; have := HC.out; simp only [List.length_take]; omega) x 0).mono ?_
      rintro e w1 ⟨rfl, H1⟩
      go_wp2
      go_roundw
      case rel => exact ⟨k + 1, by omega, by go_num, by rw [noted_succ s l k hlt, HX.out]; exact H1⟩
      case measure => simp [intOf]; omega
    · have hkn : k = l.length := by omega
      subst hkn
      have hi : (l.length : Int) ≤ (l.length : Int) := Int.le_refl _
      have H2 := HK.out
      rw [List.take_length] at H2
      clear HK hlt hk
      go_wp2_with fail
      go_end0
      exact ⟨rfl, H2⟩

theorem mx_keeps {m r b : Nat} {nv : Value} {s : Rn} (v : Int) (w : World) (hv : 0 ≤ v ∧ v < 4294967296) (hr : Blk w r (rcells m s nv)) (hb : Blk w b #[.pointer (some ⟨r, 4, none⟩)]) :
    Calls Try.prog 117 #[.int .u32 v, .pointer (some ⟨b, 0, none⟩)] w fun e w' => e = .returned (.bool (v != 0)) ∧ Touch [r] w w' ∧ Blk w' r (rcells m (if v != 0 then s.setA v else s) nv) := by
  obtain ⟨n, mode, task, ⟨op, line, fa, fb, st, ⟨on, wc, wi, hit⟩, ret⟩, ⟨ak, ac, ax, ay, ao⟩, notes, L⟩ := s
  obtain ⟨x0, x1, x2⟩ := hb.own
  cases hcm : v != 0 with
  | true =>
    simp only [rcells, if_true, Rn.setA] at hr ⊢
    obtain ⟨y0, y1, y2⟩ := hr.own
    have HR := Lib.hid hr
    clear hr
    go_enter Try.func117, Try.ntmps117
    go_wp2
    go_ret
    refine ⟨rfl, (Touch.refl _ _).set (by simp) _, ?_⟩
    have := HR.out.set 6 (.int .u32 v)
    simp only [List.setIfInBounds_toArray, List.set_cons_zero, List.set_cons_succ] at this
    exact this
  | false =>
    simp only [rcells, Bool.false_eq_true, if_false] at hr ⊢
    have HR := Lib.hid hr
    clear hr
    go_enter Try.func117, Try.ntmps117
    go_wp2
    go_ret
    exact ⟨rfl, Touch.refl _ _, HR.out⟩

end Go.Proofs.Ytbcppehpfckgoaa.Z

/- Package mutex: the lines of who enters, of who tries. Written by genmx.py. -/
set_option linter.unusedVariables false
set_option linter.unusedSimpArgs false
namespace Go.Proofs.Ytbcppehpfckgoaa.Z
open Go.RowKit

attribute [local go_sem ↓] Go.wp_at_zero Go.wp_at_succ

def mxE0 (s : Rn) : Rn := (s.did (doA s.L ⟨2, cellP s.n 0 s.task, 0, 0, 0⟩)).goto 1
set_option maxHeartbeats 800000 in
theorem mx_e0 {S0 : List Nat} {w0 w : World} {m a r : Nat} {rs : List Res} {s : Rn} (H : RunHas S0 w0 m a r rs s w) (tail cls : Int) (hl : s.f.line = 0) (hn : I64 s.n) :
    Calls Try.prog 73 #[.pointer (some ⟨r, 0, none⟩), .int .i64 tail, .int .i64 cls] w fun e w' => e = .returned (.bool false) ∧ RunHas S0 w0 m a r rs (mxE0 s) w' := by
  obtain ⟨o, hop⟩ : ∃ o, s.f.op = o := ⟨_, rfl⟩
  obtain ⟨z0, z2, z4, z5, z6, z7⟩ := H.facts rfl hl rfl rfl
  obtain ⟨y1, y2, y3⟩ := H.whose rfl rfl rfl
  have HN := Lib.hid hn
  have HH := Lib.hid H
  have HNX := Lib.hid (fun W => mapNext s.n s.task W hn)
  have HST := Lib.hid (fun W (H : RunHas S0 w0 m a r rs s W) => rn_store H (cellP s.n 0 s.task) 0 (by decide))
  clear H hn
  unfold mxE0
  go_enter Try.func73, Try.ntmps73
  go_wp2_with fail
  go_region_held3 (fun w' => w'.cell? ⟨r, 1, none⟩ = some (.int .i64 s.n) ∧ w'.cell? ⟨r, 3, none⟩ = some (.int .i64 s.task) ∧ w'.cell? ⟨r, 6, none⟩ = some (.int .u32 s.f.a))
    (first | with_reducible exact RunHas.sees HH.out | with_reducible exact RunHas.sees HH.out.drew | (refine RunHas.sees (S0 := S0) (w0 := w0) (m := m) (a := a) (rs := rs) (s := s) ?_; with_reducible assumption) | (refine RunHas.sees_did (S0 := S0) (w0 := w0) (m := m) (a := a) (rs := rs) (s := s) (R := doA s.L ⟨2, cellP s.n 0 s.task, 0, 0, 0⟩) ?_; with_reducible assumption) | (refine RunHas.sees_wtd (S0 := S0) (w0 := w0) (m := m) (a := a) (rs := rs) (s := s) (R := doA s.L ⟨2, cellP s.n 0 s.task, 0, 0, 0⟩) ?_; with_reducible assumption))
    (first | (go_at_call 107; refine (HNX.out _).mono ?_; rintro e w1 ⟨rfl, t1⟩; have H1 := RunHas.grow (by first | with_reducible exact HH.out | with_reducible exact HH.out.drew) t1) | (go_at_call 106; (with_reducible refine (HST.out _ H1).mono ?_); rintro e w2 ⟨rfl, H2⟩))
  go_wp2_with fail
  refine (rn_go H2 1).mono ?_
  rintro e w3 ⟨rfl, H3⟩
  go_wp2_with fail
  go_ret
  exact ⟨rfl, H3⟩

def mxE1 (s : Rn) : Rn := (s.did (doA s.L ⟨2, cellP s.n 1 s.task, 1, 0, 0⟩)).goto 2
set_option maxHeartbeats 800000 in
theorem mx_e1 {S0 : List Nat} {w0 w : World} {m a r : Nat} {rs : List Res} {s : Rn} (H : RunHas S0 w0 m a r rs s w) (tail cls : Int) (hl : s.f.line = 1) (hn : I64 s.n) :
    Calls Try.prog 73 #[.pointer (some ⟨r, 0, none⟩), .int .i64 tail, .int .i64 cls] w fun e w' => e = .returned (.bool false) ∧ RunHas S0 w0 m a r rs (mxE1 s) w' := by
  obtain ⟨o, hop⟩ : ∃ o, s.f.op = o := ⟨_, rfl⟩
  obtain ⟨z0, z2, z4, z5, z6, z7⟩ := H.facts rfl hl rfl rfl
  obtain ⟨y1, y2, y3⟩ := H.whose rfl rfl rfl
  have HN := Lib.hid hn
  have HH := Lib.hid H
  have HNX := Lib.hid (fun W => mapBlocked s.n s.task W hn)
  have HST := Lib.hid (fun W (H : RunHas S0 w0 m a r rs s W) => rn_store H (cellP s.n 1 s.task) 1 (by decide))
  clear H hn
  unfold mxE1
  go_enter Try.func73, Try.ntmps73
  go_wp2_with fail
  go_region_held3 (fun w' => w'.cell? ⟨r, 1, none⟩ = some (.int .i64 s.n) ∧ w'.cell? ⟨r, 3, none⟩ = some (.int .i64 s.task) ∧ w'.cell? ⟨r, 6, none⟩ = some (.int .u32 s.f.a))
    (first | with_reducible exact RunHas.sees HH.out | with_reducible exact RunHas.sees HH.out.drew | (refine RunHas.sees (S0 := S0) (w0 := w0) (m := m) (a := a) (rs := rs) (s := s) ?_; with_reducible assumption) | (refine RunHas.sees_did (S0 := S0) (w0 := w0) (m := m) (a := a) (rs := rs) (s := s) (R := doA s.L ⟨2, cellP s.n 1 s.task, 1, 0, 0⟩) ?_; with_reducible assumption) | (refine RunHas.sees_wtd (S0 := S0) (w0 := w0) (m := m) (a := a) (rs := rs) (s := s) (R := doA s.L ⟨2, cellP s.n 1 s.task, 1, 0, 0⟩) ?_; with_reducible assumption))
    (first | (go_at_call 108; refine (HNX.out _).mono ?_; rintro e w1 ⟨rfl, t1⟩; have H1 := RunHas.grow (by first | with_reducible exact HH.out | with_reducible exact HH.out.drew) t1) | (go_at_call 106; (with_reducible refine (HST.out _ H1).mono ?_); rintro e w2 ⟨rfl, H2⟩))
  go_wp2_with fail
  refine (rn_go H2 2).mono ?_
  rintro e w3 ⟨rfl, H3⟩
  go_wp2_with fail
  go_ret
  exact ⟨rfl, H3⟩

def mxE2 (tail cls : Int) (s : Rn) : Bool × Rn :=
  let s1 := ((s.did (doA s.L ⟨4, tail, mxOwn s, 0, 0⟩)).setA (doA s.L ⟨4, tail, mxOwn s, 0, 0⟩).1.old).note 2 cls
  if (doA s.L ⟨4, tail, mxOwn s, 0, 0⟩).1.old = 0 then (true, s1) else (false, s1.goto 3)
set_option maxHeartbeats 800000 in
theorem mx_e2 {S0 : List Nat} {w0 w : World} {m a r : Nat} {rs : List Res} {s : Rn} (H : RunHas S0 w0 m a r rs s w) (tail cls : Int) (hc : s.notes.length ≤ 900) (hl : s.f.line = 2) (hn : I64 s.n) :
    Calls Try.prog 73 #[.pointer (some ⟨r, 0, none⟩), .int .i64 tail, .int .i64 cls] w fun e w' => e = .returned (.bool (mxE2 tail cls s).1) ∧ RunHas S0 w0 m a r rs (mxE2 tail cls s).2 w' := by
  obtain ⟨o, hop⟩ : ∃ o, s.f.op = o := ⟨_, rfl⟩
  obtain ⟨z0, z2, z4, z5, z6, z7⟩ := H.facts rfl hl rfl rfl
  obtain ⟨y1, y2, y3⟩ := H.whose rfl rfl rfl
  have HN := Lib.hid hn
  have HH := Lib.hid H
  have HC := Lib.hid hc
  clear H hn hc
  unfold mxE2
  (try dsimp only)
  by_cases hq : (doA s.L ⟨4, tail, mxOwn s, 0, 0⟩).1.old = 0
  · simp only [if_pos hq]
    have hz : ((doA s.L ⟨4, tail, mxOwn s, 0, 0⟩).1.old == 0) = true := by simpa using hq
    clear hq
    go_enter Try.func73, Try.ntmps73
    go_wp2_with fail
    refine (mx_own HH.out).mono ?_
    rintro e w9 ⟨rfl, rfl⟩
    go_wp2_with fail
    refine (rn_swap HH.out tail (mxOwn s) (mxOwn_word s)).mono ?_
    rintro e w1 ⟨rfl, H1⟩
    obtain ⟨x0, x2, x4, x5, x6, x7⟩ := H1.facts hop hl rfl rfl
    go_wp2_with fail
    refine (run_note (H1.setA (doA s.L ⟨4, tail, mxOwn s, 0, 0⟩).1.old) (by have := HC.out; first | exact Nat.le_trans this (by decide) | (simp [Rn.note, Rn.did, Rn.setA, Rn.setB, Rn.waited, Rn.goto, Rn.noted]; omega)) 2 cls).mono ?_
    rintro e w2 ⟨rfl, H2⟩
    obtain ⟨x0, x2, x4, x5, x6, x7⟩ := H2.facts hop hl (x := (doA s.L ⟨4, tail, mxOwn s, 0, 0⟩).1.old) rfl rfl
    go_wp2_with fail
    go_ret
    exact ⟨rfl, H2⟩
  · simp only [if_neg hq]
    have hz : ((doA s.L ⟨4, tail, mxOwn s, 0, 0⟩).1.old == 0) = false := by simpa using hq
    clear hq
    go_enter Try.func73, Try.ntmps73
    go_wp2_with fail
    refine (mx_own HH.out).mono ?_
    rintro e w9 ⟨rfl, rfl⟩
    go_wp2_with fail
    refine (rn_swap HH.out tail (mxOwn s) (mxOwn_word s)).mono ?_
    rintro e w1 ⟨rfl, H1⟩
    obtain ⟨x0, x2, x4, x5, x6, x7⟩ := H1.facts hop hl rfl rfl
    go_wp2_with fail
    refine (run_note (H1.setA (doA s.L ⟨4, tail, mxOwn s, 0, 0⟩).1.old) (by have := HC.out; first | exact Nat.le_trans this (by decide) | (simp [Rn.note, Rn.did, Rn.setA, Rn.setB, Rn.waited, Rn.goto, Rn.noted]; omega)) 2 cls).mono ?_
    rintro e w2 ⟨rfl, H2⟩
    obtain ⟨x0, x2, x4, x5, x6, x7⟩ := H2.facts hop hl (x := (doA s.L ⟨4, tail, mxOwn s, 0, 0⟩).1.old) rfl rfl
    go_wp2_with fail
    refine (rn_go H2 3).mono ?_
    rintro e w3 ⟨rfl, H3⟩
    go_wp2_with fail
    go_ret
    exact ⟨rfl, H3⟩

def mxE3 (s : Rn) : Rn := ((s.did (doA s.L ⟨2, (cellP s.n 0 (s.f.a - 1)), mxOwn s, 0, 0⟩)).wake (cellP s.n 0 (s.f.a - 1))).goto 4
set_option maxHeartbeats 800000 in
theorem mx_e3 {S0 : List Nat} {w0 w : World} {m a r : Nat} {rs : List Res} {s : Rn} (H : RunHas S0 w0 m a r rs s w) (tail cls : Int) (ha : 0 ≤ s.f.a ∧ s.f.a < 4294967296) (hl : s.f.line = 3) (hn : I64 s.n) :
    Calls Try.prog 73 #[.pointer (some ⟨r, 0, none⟩), .int .i64 tail, .int .i64 cls] w fun e w' => e = .returned (.bool false) ∧ RunHas S0 w0 m a r rs (mxE3 s) w' := by
  obtain ⟨o, hop⟩ : ∃ o, s.f.op = o := ⟨_, rfl⟩
  obtain ⟨z0, z2, z4, z5, z6, z7⟩ := H.facts rfl hl rfl rfl
  obtain ⟨y1, y2, y3⟩ := H.whose rfl rfl rfl
  have HN := Lib.hid hn
  have HH := Lib.hid H
  have HA := Lib.hid ha
  have HNX := Lib.hid (fun W => mapNext s.n (s.f.a - 1) W hn)
  clear H hn ha
  unfold mxE3
  go_enter Try.func73, Try.ntmps73
  go_wp2_with fail
  go_region_held3 (fun w' => w'.cell? ⟨r, 1, none⟩ = some (.int .i64 s.n) ∧ w'.cell? ⟨r, 3, none⟩ = some (.int .i64 s.task) ∧ w'.cell? ⟨r, 6, none⟩ = some (.int .u32 s.f.a))
    (first | with_reducible exact RunHas.sees HH.out | with_reducible exact RunHas.sees HH.out.drew | (refine RunHas.sees (S0 := S0) (w0 := w0) (m := m) (a := a) (rs := rs) (s := s) ?_; with_reducible assumption) | (refine RunHas.sees_did (S0 := S0) (w0 := w0) (m := m) (a := a) (rs := rs) (s := s) (R := X) ?_; with_reducible assumption) | (refine RunHas.sees_wtd (S0 := S0) (w0 := w0) (m := m) (a := a) (rs := rs) (s := s) (R := X) ?_; with_reducible assumption))
    (first | (go_at_call 111; refine (mx_other _ _ HA.out).mono ?_; rintro e w9 ⟨rfl, rfl⟩) | (go_at_call 107; refine (HNX.out _).mono ?_; rintro e w1 ⟨rfl, t1⟩; have H1 := RunHas.grow (by first | with_reducible exact HH.out | with_reducible exact HH.out.drew) t1))
  obtain ⟨x0, x2, x4, x5, x6, x7⟩ := H1.facts hop hl rfl rfl
  obtain ⟨v1, v2, v3⟩ := H1.whose rfl rfl rfl
  go_wp2_with fail
  refine (mx_own H1).mono ?_
  rintro e w9 ⟨rfl, rfl⟩
  go_wp2_with fail
  refine (rn_store H1 (cellP s.n 0 (s.f.a - 1)) (mxOwn s) (mxOwn_word s)).mono ?_
  rintro e w2 ⟨rfl, H2⟩
  go_wp2_with fail
  refine (rn_wake H2 (cellP s.n 0 (s.f.a - 1))).mono ?_
  rintro e w3 ⟨rfl, H3⟩
  go_wp2_with fail
  refine (rn_go H3 4).mono ?_
  rintro e w4 ⟨rfl, H4⟩
  go_wp2_with fail
  go_ret
  exact ⟨rfl, H4⟩

def mxE4 (s : Rn) : Bool × Rn := ((waitA s.L s.n s.mode s.task s.f.st (cellP s.n 1 s.task) (fun v => v == 0)).done, s.waited (waitA s.L s.n s.mode s.task s.f.st (cellP s.n 1 s.task) (fun v => v == 0)))
set_option maxHeartbeats 800000 in
theorem mx_e4 {S0 : List Nat} {w0 w : World} {m a r : Nat} {rs : List Res} {s : Rn} (H : RunHas S0 w0 m a r rs s w) (tail cls : Int) (hl : s.f.line = 4) (hn : I64 s.n) :
    Calls Try.prog 73 #[.pointer (some ⟨r, 0, none⟩), .int .i64 tail, .int .i64 cls] w fun e w' => e = .returned (.bool (mxE4 s).1) ∧ RunHas S0 w0 m a r rs (mxE4 s).2 w' := by
  obtain ⟨o, hop⟩ : ∃ o, s.f.op = o := ⟨_, rfl⟩
  obtain ⟨z0, z2, z4, z5, z6, z7⟩ := H.facts rfl hl rfl rfl
  obtain ⟨y1, y2, y3⟩ := H.whose rfl rfl rfl
  have HN := Lib.hid hn
  have HH := Lib.hid H
  have HNX := Lib.hid (fun W => mapBlocked s.n s.task W hn)
  have HWT := Lib.hid (fun W (H : RunHas S0 w0 m a r rs s W) => rn_wait H hn (cellP s.n 1 s.task) 112 #[] #[] (fun v => v == 0) (enters_of Try.func112 (by kernel_rfl) rfl) (fun W v h0 h1 H => mx_free v W ⟨h0, h1⟩))
  clear H hn
  unfold mxE4
  (try dsimp only)
  go_enter Try.func73, Try.ntmps73
  go_wp2_with fail
  go_region_held3 (fun w' => w'.cell? ⟨r, 1, none⟩ = some (.int .i64 s.n) ∧ w'.cell? ⟨r, 3, none⟩ = some (.int .i64 s.task) ∧ w'.cell? ⟨r, 6, none⟩ = some (.int .u32 s.f.a))
    (first | with_reducible exact RunHas.sees HH.out | with_reducible exact RunHas.sees HH.out.drew | (refine RunHas.sees (S0 := S0) (w0 := w0) (m := m) (a := a) (rs := rs) (s := s) ?_; with_reducible assumption) | (refine RunHas.sees_did (S0 := S0) (w0 := w0) (m := m) (a := a) (rs := rs) (s := s) (R := (waitA s.L s.n s.mode s.task s.f.st (cellP s.n 1 s.task) (fun v => v == 0))) ?_; with_reducible assumption) | (refine RunHas.sees_wtd (S0 := S0) (w0 := w0) (m := m) (a := a) (rs := rs) (s := s) (R := (waitA s.L s.n s.mode s.task s.f.st (cellP s.n 1 s.task) (fun v => v == 0))) ?_; with_reducible assumption))
    (first | (go_at_call 108; refine (HNX.out _).mono ?_; rintro e w1 ⟨rfl, t1⟩; have H1 := RunHas.grow (by first | with_reducible exact HH.out | with_reducible exact HH.out.drew) t1) | (go_at_call 79; (with_reducible refine (HWT.out _ H1).mono ?_); rintro e w2 ⟨rfl, H2⟩))
  go_wp2_with fail
  go_ret
  exact ⟨rfl, H2⟩

theorem mx_enone {S0 : List Nat} {w0 w : World} {m a r : Nat} {rs : List Res} {s : Rn} (H : RunHas S0 w0 m a r rs s w) (tail cls : Int) {l : Int} (hl : s.f.line = l) (h0 : ¬ l = 0) (h1 : ¬ l = 1) (h2 : ¬ l = 2) (h3 : ¬ l = 3) (h4 : ¬ l = 4) :
    Calls Try.prog 73 #[.pointer (some ⟨r, 0, none⟩), .int .i64 tail, .int .i64 cls] w fun e w' => e = .returned (.bool false) ∧ RunHas S0 w0 m a r rs s w' := by
  obtain ⟨z0, z2, z4, z5, z6, z7⟩ := H.facts rfl hl rfl rfl
  have HH := Lib.hid H
  clear H
  go_enter Try.func73, Try.ntmps73
  go_wp2_with fail
  go_ret
  exact ⟨rfl, HH.out⟩

def mxT0 (s : Rn) : Rn := mxE0 s
set_option maxHeartbeats 800000 in
theorem mx_t0 {S0 : List Nat} {w0 w : World} {m a r : Nat} {rs : List Res} {s : Rn} (H : RunHas S0 w0 m a r rs s w) (tail : Int) {l : Int} (hsub : wrap64 l = 0) (hl : s.f.line = l) (hn : I64 s.n) :
    Calls Try.prog 76 #[.pointer (some ⟨r, 0, none⟩), .int .i64 tail, .int .i64 0] w fun e w' => e = .returned (.tuple #[.bool false, .bool false]) ∧ RunHas S0 w0 m a r rs (mxE0 s) w' := by
  obtain ⟨o, hop⟩ : ∃ o, s.f.op = o := ⟨_, rfl⟩
  obtain ⟨z0, z2, z4, z5, z6, z7⟩ := H.facts rfl hl rfl rfl
  obtain ⟨y1, y2, y3⟩ := H.whose rfl rfl rfl
  have HN := Lib.hid hn
  have HH := Lib.hid H
  have HNX := Lib.hid (fun W => mapNext s.n s.task W hn)
  have HST := Lib.hid (fun W (H : RunHas S0 w0 m a r rs s W) => rn_store H (cellP s.n 0 s.task) 0 (by decide))
  clear H hn
  unfold mxE0
  go_enter Try.func76, Try.ntmps76
  go_wp2_with fail
  go_region_held3 (fun w' => w'.cell? ⟨r, 1, none⟩ = some (.int .i64 s.n) ∧ w'.cell? ⟨r, 3, none⟩ = some (.int .i64 s.task) ∧ w'.cell? ⟨r, 6, none⟩ = some (.int .u32 s.f.a))
    (first | with_reducible exact RunHas.sees HH.out | with_reducible exact RunHas.sees HH.out.drew | (refine RunHas.sees (S0 := S0) (w0 := w0) (m := m) (a := a) (rs := rs) (s := s) ?_; with_reducible assumption) | (refine RunHas.sees_did (S0 := S0) (w0 := w0) (m := m) (a := a) (rs := rs) (s := s) (R := doA s.L ⟨2, cellP s.n 0 s.task, 0, 0, 0⟩) ?_; with_reducible assumption) | (refine RunHas.sees_wtd (S0 := S0) (w0 := w0) (m := m) (a := a) (rs := rs) (s := s) (R := doA s.L ⟨2, cellP s.n 0 s.task, 0, 0, 0⟩) ?_; with_reducible assumption))
    (first | (go_at_call 107; refine (HNX.out _).mono ?_; rintro e w1 ⟨rfl, t1⟩; have H1 := RunHas.grow (by first | with_reducible exact HH.out | with_reducible exact HH.out.drew) t1) | (go_at_call 106; (with_reducible refine (HST.out _ H1).mono ?_); rintro e w2 ⟨rfl, H2⟩))
  go_wp2_with fail
  refine (rn_go H2 1).mono ?_
  rintro e w3 ⟨rfl, H3⟩
  go_wp2_with fail
  refine bodyPost_ret (v := .tuple #[.bool false, .bool false]) (by simp [results, Try.results76, go_sem]) rfl ⟨rfl, ?_⟩
  exact H3

def mxT1 (s : Rn) : Rn := s
set_option maxHeartbeats 800000 in
theorem mx_t1 {S0 : List Nat} {w0 w : World} {m a r : Nat} {rs : List Res} {s : Rn} (H : RunHas S0 w0 m a r rs s w) (tail : Int) {l : Int} (hsub : wrap64 l = 1) (hl : s.f.line = l) (hn : I64 s.n) :
    Calls Try.prog 76 #[.pointer (some ⟨r, 0, none⟩), .int .i64 tail, .int .i64 0] w fun e w' => e = .returned (.tuple #[.bool true, .bool (casB s.L tail 0 (mxOwn s))]) ∧ RunHas S0 w0 m a r rs (s.did (doA s.L ⟨5, tail, 0, mxOwn s, 0⟩)) w' := by
  obtain ⟨o, hop⟩ : ∃ o, s.f.op = o := ⟨_, rfl⟩
  obtain ⟨z0, z2, z4, z5, z6, z7⟩ := H.facts rfl hl rfl rfl
  obtain ⟨y1, y2, y3⟩ := H.whose rfl rfl rfl
  have HN := Lib.hid hn
  have HH := Lib.hid H
  clear H hn
  go_enter Try.func76, Try.ntmps76
  go_wp2_with fail
  refine (mx_own HH.out).mono ?_
  rintro e w9 ⟨rfl, rfl⟩
  go_wp2_with fail
  refine (rn_cas HH.out tail 0 (mxOwn s) (by decide) (mxOwn_word s)).mono ?_
  rintro e w1 ⟨rfl, H1⟩
  go_wp2_with fail
  refine bodyPost_ret (v := .tuple #[.bool true, .bool (casB s.L tail 0 (mxOwn s))]) (by simp [results, Try.results76, go_sem]) rfl ⟨rfl, ?_⟩
  exact H1

theorem mx_tnone {S0 : List Nat} {w0 w : World} {m a r : Nat} {rs : List Res} {s : Rn} (H : RunHas S0 w0 m a r rs s w) (tail : Int) {l : Int} (hl : s.f.line = l) (h0 : ¬ wrap64 l = 0) (h1 : ¬ wrap64 l = 1) :
    Calls Try.prog 76 #[.pointer (some ⟨r, 0, none⟩), .int .i64 tail, .int .i64 0] w fun e w' => e = .returned (.tuple #[.bool false, .bool false]) ∧ RunHas S0 w0 m a r rs s w' := by
  obtain ⟨z0, z2, z4, z5, z6, z7⟩ := H.facts rfl hl rfl rfl
  have HH := Lib.hid H
  clear H
  go_enter Try.func76, Try.ntmps76
  go_wp2_with fail
  refine bodyPost_ret (v := .tuple #[.bool false, .bool false]) (by simp [results, Try.results76, go_sem]) rfl ⟨rfl, ?_⟩
  exact HH.out

/-- A line of who enters. -/
def mxEnter (tail cls : Int) (s : Rn) : Bool × Rn :=
  if s.f.line = 0 then (false, mxE0 s) else if s.f.line = 1 then (false, mxE1 s) else if s.f.line = 2 then mxE2 tail cls s else if s.f.line = 3 then (false, mxE3 s) else if s.f.line = 4 then mxE4 s else (false, s)
theorem mx_enter {S0 : List Nat} {w0 w : World} {m a r : Nat} {rs : List Res} {s : Rn} (H : RunHas S0 w0 m a r rs s w) (tail cls : Int) (hn : I64 s.n) (ha : 0 ≤ s.f.a ∧ s.f.a < 4294967296) (hc : s.notes.length ≤ 900) :
    Calls Try.prog 73 #[.pointer (some ⟨r, 0, none⟩), .int .i64 tail, .int .i64 cls] w fun e w' => e = .returned (.bool (mxEnter tail cls s).1) ∧ RunHas S0 w0 m a r rs (mxEnter tail cls s).2 w' := by
  unfold mxEnter
  split
  · exact mx_e0 H tail cls (by assumption) hn
  split
  · exact mx_e1 H tail cls (by assumption) hn
  split
  · exact mx_e2 H tail cls hc (by assumption) hn
  split
  · exact mx_e3 H tail cls ha (by assumption) hn
  split
  · exact mx_e4 H tail cls (by assumption) hn
  · exact mx_enone H tail cls rfl (by assumption) (by assumption) (by assumption) (by assumption) (by assumption)
/-- A line of who tries: done, in. -/
def mxTry (tail : Int) (s : Rn) : Bool × Bool × Rn :=
  if wrap64 s.f.line = 0 then (false, false, mxE0 s) else if wrap64 s.f.line = 1 then (true, casB s.L tail 0 (mxOwn s), s.did (doA s.L ⟨5, tail, 0, mxOwn s, 0⟩)) else (false, false, s)
theorem mx_try {S0 : List Nat} {w0 w : World} {m a r : Nat} {rs : List Res} {s : Rn} (H : RunHas S0 w0 m a r rs s w) (tail : Int) (hn : I64 s.n) :
    Calls Try.prog 76 #[.pointer (some ⟨r, 0, none⟩), .int .i64 tail, .int .i64 0] w fun e w' => e = .returned (.tuple #[.bool (mxTry tail s).1, .bool (mxTry tail s).2.1]) ∧ RunHas S0 w0 m a r rs (mxTry tail s).2.2 w' := by
  unfold mxTry
  split
  · exact mx_t0 H tail (by assumption) rfl hn
  split
  · exact mx_t1 H tail (by assumption) rfl hn
  · exact mx_tnone H tail rfl (by assumption) (by assumption)

end Go.Proofs.Ytbcppehpfckgoaa.Z

/- Package mutex: the lines of who gives the queue on. Written by genmx.py. -/
set_option linter.unusedVariables false
set_option linter.unusedSimpArgs false
namespace Go.Proofs.Ytbcppehpfckgoaa.Z
open Go.RowKit

attribute [local go_sem ↓] Go.wp_at_zero Go.wp_at_succ

def mxG0 (q : Int) (s : Rn) : Rn :=
  let s1 := (s.did (doA s.L ⟨1, (cellP s.n 0 s.task), 0, 0, 0⟩)).setA (doA s.L ⟨1, (cellP s.n 0 s.task), 0, 0, 0⟩).1.old
  if (doA s.L ⟨1, (cellP s.n 0 s.task), 0, 0, 0⟩).1.old = 0 then s1.goto (q + 1) else s1.goto (q + 3)
set_option maxHeartbeats 1600000 in
theorem mx_g0 {S0 : List Nat} {w0 w : World} {m a r : Nat} {rs : List Res} {s : Rn} (tail q : Int) {g nn c : Nat} {nl : List Int} (hnl : nl.length = nn) (hq : 0 ≤ q ∧ q ≤ 100) (hc : s.notes.length + nl.length ≤ 900) (H : RunHas S0 w0 m a r (.blk g (i64s nl).toArray :: rs) s w) {l : Int} (hl : s.f.line = l) (hsub : wrap64 (l - q) = 0) (hn : I64 s.n) (ha : 0 ≤ s.f.a ∧ s.f.a < 4294967296) :
    Calls Try.prog 81 #[.pointer (some ⟨r, 0, none⟩), .int .i64 tail, .int .i64 q, .slice (some ⟨g, 0, none⟩) nn c] w fun e w' => e = .returned (.bool false) ∧ RunHas S0 w0 m a r (.blk g (i64s nl).toArray :: rs) (mxG0 q s) w' := by
  obtain ⟨o, hop⟩ : ∃ o, s.f.op = o := ⟨_, rfl⟩
  have hne := H.ne_first
  obtain ⟨z0, z2, z4, z5, z6, z7⟩ := H.facts hop hl rfl rfl
  have HA := Lib.hid ha
  have HC := Lib.hid hc
  have HQ := Lib.hid hq
  have HNX := Lib.hid (fun W => mapNext s.n s.task W hn)
  have HLD := Lib.hid (fun W rs (H : RunHas S0 w0 m a r rs s W) => rn_load H (cellP s.n 0 s.task))
  have HH := Lib.hid (H.box rfl #[.pointer (some ⟨r, 4, none⟩)] 96)
  clear H ha hc hn
  unfold mxG0
  (try dsimp only)
  by_cases hz : (doA s.L ⟨1, (cellP s.n 0 s.task), 0, 0, 0⟩).1.old = 0
  · simp only [if_pos hz]
    have hzb : ((doA s.L ⟨1, (cellP s.n 0 s.task), 0, 0, 0⟩).1.old != 0) = false := by simpa using hz
    clear hz
    go_enter Try.func81, Try.ntmps81
    go_wp2_with fail
    have HW := HH.out
    generalize w.heap.size = tb at HW ⊢
    generalize w.alloc _ = W at HW ⊢
    obtain ⟨z0, z2, z4, z5, z6, z7⟩ := HW.facts hop hl rfl rfl
    obtain ⟨y1, y2, y3⟩ := HW.whose rfl rfl rfl
    obtain ⟨u0, u1, u2⟩ := HW.first.own
    go_region_held3 (fun w' => w'.cell? ⟨r, 1, none⟩ = some (.int .i64 s.n) ∧ w'.cell? ⟨r, 3, none⟩ = some (.int .i64 s.task) ∧ w'.cell? ⟨r, 6, none⟩ = some (.int .u32 s.f.a) ∧ w'.cell? ⟨tb, 0, none⟩ = some (.pointer (some ⟨r, 4, none⟩)))
      (first | (refine RunHas.sees_box (S0 := S0) (w0 := w0) (m := m) (a := a) (rs := .blk g (i64s nl).toArray :: rs) (s := s) ?_; first | with_reducible assumption | with_reducible exact HW.drew))
      (first | (go_at_call 107; refine (HNX.out _).mono ?_; rintro e w1 ⟨rfl, t1⟩; have H1 := RunHas.grow HW.drew t1))
    clear u0 u1 u2 z0 z2 z4 z5 z6 z7 y1 y2 y3
    obtain ⟨x0, x2, x4, x5, x6, x7⟩ := H1.facts hop hl rfl rfl
    obtain ⟨v1, v2, v3⟩ := H1.whose rfl rfl rfl
    obtain ⟨u0, u1, u2⟩ := H1.first.own
    go_wp2_with fail
    have hne2 := H1.ne_first
    go_region_held3 (fun w' => ∀ i, w'.cell? ⟨tb, i, none⟩ = (#[.pointer (some ⟨r, 4, none⟩)] : Array Value)[i]?)
      (first | assumption | (intro i; rw [World.cell?_setCell_far _ _ _ _ (by exact hne2)]; apply_assumption) | (intro i; apply_assumption))
      (first | (go_at_call 82; (with_reducible refine (HLD.out _ _ H1.drew).mono ?_); rintro e w2 ⟨rfl, H2⟩; obtain ⟨v0, v1, v2⟩ := H2.first.own; obtain ⟨x0, x2, x4, x5, x6, x7⟩ := H2.facts hop hl rfl rfl))
    have H3 := H2.setA (doA s.L ⟨1, (cellP s.n 0 s.task), 0, 0, 0⟩).1.old
    go_wp2_with fail
    refine (rn_go H3 (q + 1)).mono ?_
    rintro e w4 ⟨rfl, H4⟩
    go_wp2_with fail
    go_ret
    exact ⟨rfl, H4.unbox⟩
  · simp only [if_neg hz]
    have hzb : ((doA s.L ⟨1, (cellP s.n 0 s.task), 0, 0, 0⟩).1.old != 0) = true := by simpa using hz
    clear hz
    go_enter Try.func81, Try.ntmps81
    go_wp2_with fail
    have HW := HH.out
    generalize w.heap.size = tb at HW ⊢
    generalize w.alloc _ = W at HW ⊢
    obtain ⟨z0, z2, z4, z5, z6, z7⟩ := HW.facts hop hl rfl rfl
    obtain ⟨y1, y2, y3⟩ := HW.whose rfl rfl rfl
    obtain ⟨u0, u1, u2⟩ := HW.first.own
    go_region_held3 (fun w' => w'.cell? ⟨r, 1, none⟩ = some (.int .i64 s.n) ∧ w'.cell? ⟨r, 3, none⟩ = some (.int .i64 s.task) ∧ w'.cell? ⟨r, 6, none⟩ = some (.int .u32 s.f.a) ∧ w'.cell? ⟨tb, 0, none⟩ = some (.pointer (some ⟨r, 4, none⟩)))
      (first | (refine RunHas.sees_box (S0 := S0) (w0 := w0) (m := m) (a := a) (rs := .blk g (i64s nl).toArray :: rs) (s := s) ?_; first | with_reducible assumption | with_reducible exact HW.drew))
      (first | (go_at_call 107; refine (HNX.out _).mono ?_; rintro e w1 ⟨rfl, t1⟩; have H1 := RunHas.grow HW.drew t1))
    clear u0 u1 u2 z0 z2 z4 z5 z6 z7 y1 y2 y3
    obtain ⟨x0, x2, x4, x5, x6, x7⟩ := H1.facts hop hl rfl rfl
    obtain ⟨v1, v2, v3⟩ := H1.whose rfl rfl rfl
    obtain ⟨u0, u1, u2⟩ := H1.first.own
    go_wp2_with fail
    have hne2 := H1.ne_first
    go_region_held3 (fun w' => ∀ i, w'.cell? ⟨tb, i, none⟩ = (#[.pointer (some ⟨r, 4, none⟩)] : Array Value)[i]?)
      (first | assumption | (intro i; rw [World.cell?_setCell_far _ _ _ _ (by exact hne2)]; apply_assumption) | (intro i; apply_assumption))
      (first | (go_at_call 82; (with_reducible refine (HLD.out _ _ H1.drew).mono ?_); rintro e w2 ⟨rfl, H2⟩; obtain ⟨v0, v1, v2⟩ := H2.first.own; obtain ⟨x0, x2, x4, x5, x6, x7⟩ := H2.facts hop hl rfl rfl))
    have H3 := H2.setA (doA s.L ⟨1, (cellP s.n 0 s.task), 0, 0, 0⟩).1.old
    go_wp2_with fail
    refine (rn_go H3 (q + 3)).mono ?_
    rintro e w4 ⟨rfl, H4⟩
    go_wp2_with fail
    go_ret
    exact ⟨rfl, H4.unbox⟩

def mxG1 (tail q : Int) (nl : List Int) (s : Rn) : Bool × Rn :=
  if casB s.L tail (mxOwn s) 0 then (true, (s.did (doA s.L ⟨5, tail, mxOwn s, 0, 0⟩)).noted nl) else (false, (s.did (doA s.L ⟨5, tail, mxOwn s, 0, 0⟩)).goto (q + 2))
set_option maxHeartbeats 1600000 in
theorem mx_g1 {S0 : List Nat} {w0 w : World} {m a r : Nat} {rs : List Res} {s : Rn} (tail q : Int) {g nn c : Nat} {nl : List Int} (hnl : nl.length = nn) (hq : 0 ≤ q ∧ q ≤ 100) (hc : s.notes.length + nl.length ≤ 900) (H : RunHas S0 w0 m a r (.blk g (i64s nl).toArray :: rs) s w) {l : Int} (hl : s.f.line = l) (hsub : wrap64 (l - q) = 1) (hn : I64 s.n) (ha : 0 ≤ s.f.a ∧ s.f.a < 4294967296) :
    Calls Try.prog 81 #[.pointer (some ⟨r, 0, none⟩), .int .i64 tail, .int .i64 q, .slice (some ⟨g, 0, none⟩) nn c] w fun e w' => e = .returned (.bool (mxG1 tail q nl s).1) ∧ RunHas S0 w0 m a r (.blk g (i64s nl).toArray :: rs) (mxG1 tail q nl s).2 w' := by
  obtain ⟨o, hop⟩ : ∃ o, s.f.op = o := ⟨_, rfl⟩
  have hne := H.ne_first
  obtain ⟨z0, z2, z4, z5, z6, z7⟩ := H.facts hop hl rfl rfl
  have HA := Lib.hid ha
  have HC := Lib.hid hc
  have HQ := Lib.hid hq
  have HNX := Lib.hid (fun W => mapNext s.n s.task W hn)
  have hcas := fun W rs (H : RunHas S0 w0 m a r rs s W) => rn_cas H tail (mxOwn s) 0 (mxOwn_word s) (by decide)
  have HH := Lib.hid (H.box rfl #[.pointer (some ⟨r, 4, none⟩)] 96)
  clear H ha hc hn
  unfold mxG1
  cases hb : casB s.L tail (mxOwn s) 0 with
  | true =>
    rw [hb] at hcas
    simp only [if_true]
    have HCAS := Lib.hid hcas
    clear hcas hb
    go_enter Try.func81, Try.ntmps81
    go_wp2_with fail
    have HW := HH.out
    generalize w.heap.size = tb at HW ⊢
    generalize w.alloc _ = W at HW ⊢
    obtain ⟨z0, z2, z4, z5, z6, z7⟩ := HW.facts hop hl rfl rfl
    obtain ⟨y1, y2, y3⟩ := HW.whose rfl rfl rfl
    obtain ⟨u0, u1, u2⟩ := HW.first.own
    go_region_held3 (fun w' => w'.cell? ⟨r, 1, none⟩ = some (.int .i64 s.n) ∧ w'.cell? ⟨r, 3, none⟩ = some (.int .i64 s.task) ∧ w'.cell? ⟨r, 6, none⟩ = some (.int .u32 s.f.a) ∧ w'.cell? ⟨tb, 0, none⟩ = some (.pointer (some ⟨r, 4, none⟩)))
      (first | (refine RunHas.sees_box (S0 := S0) (w0 := w0) (m := m) (a := a) (rs := .blk g (i64s nl).toArray :: rs) (s := s) ?_; first | with_reducible assumption | with_reducible exact HW.drew))
      (first | (go_at_call 107; refine (HNX.out _).mono ?_; rintro e w1 ⟨rfl, t1⟩; have H1 := RunHas.grow HW.drew t1))
    clear u0 u1 u2 z0 z2 z4 z5 z6 z7 y1 y2 y3
    obtain ⟨x0, x2, x4, x5, x6, x7⟩ := H1.facts hop hl rfl rfl
    obtain ⟨v1, v2, v3⟩ := H1.whose rfl rfl rfl
    obtain ⟨u0, u1, u2⟩ := H1.first.own
    go_wp2_with fail
    refine (mx_own H1).mono ?_
    rintro e w9 ⟨rfl, rfl⟩
    go_wp2_with fail
    refine (HCAS.out _ _ H1).mono ?_
    rintro e w2 ⟨rfl, H2⟩
    go_wp2_with fail
    refine (mx_noted H2.swap12 hnl (by have := HC.out; simp [Rn.did]; omega)).mono ?_
    rintro e w3 ⟨rfl, H3⟩
    go_wp2_with fail
    go_ret
    exact ⟨rfl, H3.swap12.unbox⟩
  | false =>
    rw [hb] at hcas
    simp only [Bool.false_eq_true, if_false]
    have HCAS := Lib.hid hcas
    clear hcas hb
    go_enter Try.func81, Try.ntmps81
    go_wp2_with fail
    have HW := HH.out
    generalize w.heap.size = tb at HW ⊢
    generalize w.alloc _ = W at HW ⊢
    obtain ⟨z0, z2, z4, z5, z6, z7⟩ := HW.facts hop hl rfl rfl
    obtain ⟨y1, y2, y3⟩ := HW.whose rfl rfl rfl
    obtain ⟨u0, u1, u2⟩ := HW.first.own
    go_region_held3 (fun w' => w'.cell? ⟨r, 1, none⟩ = some (.int .i64 s.n) ∧ w'.cell? ⟨r, 3, none⟩ = some (.int .i64 s.task) ∧ w'.cell? ⟨r, 6, none⟩ = some (.int .u32 s.f.a) ∧ w'.cell? ⟨tb, 0, none⟩ = some (.pointer (some ⟨r, 4, none⟩)))
      (first | (refine RunHas.sees_box (S0 := S0) (w0 := w0) (m := m) (a := a) (rs := .blk g (i64s nl).toArray :: rs) (s := s) ?_; first | with_reducible assumption | with_reducible exact HW.drew))
      (first | (go_at_call 107; refine (HNX.out _).mono ?_; rintro e w1 ⟨rfl, t1⟩; have H1 := RunHas.grow HW.drew t1))
    clear u0 u1 u2 z0 z2 z4 z5 z6 z7 y1 y2 y3
    obtain ⟨x0, x2, x4, x5, x6, x7⟩ := H1.facts hop hl rfl rfl
    obtain ⟨v1, v2, v3⟩ := H1.whose rfl rfl rfl
    obtain ⟨u0, u1, u2⟩ := H1.first.own
    go_wp2_with fail
    refine (mx_own H1).mono ?_
    rintro e w9 ⟨rfl, rfl⟩
    go_wp2_with fail
    refine (HCAS.out _ _ H1).mono ?_
    rintro e w2 ⟨rfl, H2⟩
    go_wp2_with fail
    refine (rn_go H2 (q + 2)).mono ?_
    rintro e w3 ⟨rfl, H3⟩
    go_wp2_with fail
    go_ret
    exact ⟨rfl, H3.unbox⟩

def mxG2 (q : Int) (s : Rn) : Rn :=
  let s1 := (s.keep (waitA s.L s.n s.mode s.task s.f.st (cellP s.n 0 s.task) (fun v => v != 0))).waited (waitA s.L s.n s.mode s.task s.f.st (cellP s.n 0 s.task) (fun v => v != 0))
  if (waitA s.L s.n s.mode s.task s.f.st (cellP s.n 0 s.task) (fun v => v != 0)).done then s1.goto (q + 3) else s1
set_option maxHeartbeats 1600000 in
theorem mx_g2 {S0 : List Nat} {w0 w : World} {m a r : Nat} {rs : List Res} {s : Rn} (tail q : Int) {g nn c : Nat} {nl : List Int} (hnl : nl.length = nn) (hq : 0 ≤ q ∧ q ≤ 100) (hc : s.notes.length + nl.length ≤ 900) (H : RunHas S0 w0 m a r (.blk g (i64s nl).toArray :: rs) s w) {l : Int} (hl : s.f.line = l) (hsub : wrap64 (l - q) = 2) (hn : I64 s.n) (ha : 0 ≤ s.f.a ∧ s.f.a < 4294967296) :
    Calls Try.prog 81 #[.pointer (some ⟨r, 0, none⟩), .int .i64 tail, .int .i64 q, .slice (some ⟨g, 0, none⟩) nn c] w fun e w' => e = .returned (.bool false) ∧ RunHas S0 w0 m a r (.blk g (i64s nl).toArray :: rs) (mxG2 q s) w' := by
  obtain ⟨o, hop⟩ : ∃ o, s.f.op = o := ⟨_, rfl⟩
  have hne := H.ne_first
  obtain ⟨z0, z2, z4, z5, z6, z7⟩ := H.facts hop hl rfl rfl
  have HA := Lib.hid ha
  have HC := Lib.hid hc
  have HQ := Lib.hid hq
  have HNX := Lib.hid (fun W => mapNext s.n s.task W hn)
  have hwt := fun (tb : Nat) W (H : RunHas S0 w0 m a r (.blk tb #[.pointer (some ⟨r, 4, none⟩)] :: .blk g (i64s nl).toArray :: rs) s W) => rn_wait_keep H hn (cellP s.n 0 s.task) 117 #[] #[.pointer (some ⟨tb, 0, none⟩)] (fun v => v != 0) (enters_of Try.func117 (by kernel_rfl) rfl) (fun W nv v h0 h1 HX => mx_keeps v W ⟨h0, h1⟩ HX.blk1 (HX.at_ 3 rfl))
  have HH := Lib.hid (H.box rfl #[.pointer (some ⟨r, 4, none⟩)] 96)
  clear H ha hc hn
  unfold mxG2
  (try dsimp only)
  generalize (waitA s.L s.n s.mode s.task s.f.st (cellP s.n 0 s.task) (fun v => v != 0)).seen = sn at hwt
  cases hd : (waitA s.L s.n s.mode s.task s.f.st (cellP s.n 0 s.task) (fun v => v != 0)).done <;> rw [hd] at hwt <;> simp only [if_true, Bool.false_eq_true, if_false] <;> (have HWT := Lib.hid hwt) <;> clear hwt hd
  · go_enter Try.func81, Try.ntmps81
    go_wp2_with fail
    have HW := HH.out
    generalize w.heap.size = tb at HW ⊢
    generalize w.alloc _ = W at HW ⊢
    obtain ⟨z0, z2, z4, z5, z6, z7⟩ := HW.facts hop hl rfl rfl
    obtain ⟨y1, y2, y3⟩ := HW.whose rfl rfl rfl
    obtain ⟨u0, u1, u2⟩ := HW.first.own
    go_region_held3 (fun w' => w'.cell? ⟨r, 1, none⟩ = some (.int .i64 s.n) ∧ w'.cell? ⟨r, 3, none⟩ = some (.int .i64 s.task) ∧ w'.cell? ⟨r, 6, none⟩ = some (.int .u32 s.f.a) ∧ w'.cell? ⟨tb, 0, none⟩ = some (.pointer (some ⟨r, 4, none⟩)))
      (first | (refine RunHas.sees_box (S0 := S0) (w0 := w0) (m := m) (a := a) (rs := .blk g (i64s nl).toArray :: rs) (s := s) ?_; first | with_reducible assumption | with_reducible exact HW.drew))
      (first | (go_at_call 107; refine (HNX.out _).mono ?_; rintro e w1 ⟨rfl, t1⟩; have H1 := RunHas.grow HW.drew t1))
    clear u0 u1 u2 z0 z2 z4 z5 z6 z7 y1 y2 y3
    obtain ⟨x0, x2, x4, x5, x6, x7⟩ := H1.facts hop hl rfl rfl
    obtain ⟨v1, v2, v3⟩ := H1.whose rfl rfl rfl
    obtain ⟨u0, u1, u2⟩ := H1.first.own
    go_wp2_with fail
    refine (HWT.out _ _ H1).mono ?_
    rintro e w2 ⟨rfl, H2⟩
    go_wp2_with fail
    go_ret
    exact ⟨rfl, H2.unbox⟩
  · go_enter Try.func81, Try.ntmps81
    go_wp2_with fail
    have HW := HH.out
    generalize w.heap.size = tb at HW ⊢
    generalize w.alloc _ = W at HW ⊢
    obtain ⟨z0, z2, z4, z5, z6, z7⟩ := HW.facts hop hl rfl rfl
    obtain ⟨y1, y2, y3⟩ := HW.whose rfl rfl rfl
    obtain ⟨u0, u1, u2⟩ := HW.first.own
    go_region_held3 (fun w' => w'.cell? ⟨r, 1, none⟩ = some (.int .i64 s.n) ∧ w'.cell? ⟨r, 3, none⟩ = some (.int .i64 s.task) ∧ w'.cell? ⟨r, 6, none⟩ = some (.int .u32 s.f.a) ∧ w'.cell? ⟨tb, 0, none⟩ = some (.pointer (some ⟨r, 4, none⟩)))
      (first | (refine RunHas.sees_box (S0 := S0) (w0 := w0) (m := m) (a := a) (rs := .blk g (i64s nl).toArray :: rs) (s := s) ?_; first | with_reducible assumption | with_reducible exact HW.drew))
      (first | (go_at_call 107; refine (HNX.out _).mono ?_; rintro e w1 ⟨rfl, t1⟩; have H1 := RunHas.grow HW.drew t1))
    clear u0 u1 u2 z0 z2 z4 z5 z6 z7 y1 y2 y3
    obtain ⟨x0, x2, x4, x5, x6, x7⟩ := H1.facts hop hl rfl rfl
    obtain ⟨v1, v2, v3⟩ := H1.whose rfl rfl rfl
    obtain ⟨u0, u1, u2⟩ := H1.first.own
    go_wp2_with fail
    refine (HWT.out _ _ H1).mono ?_
    rintro e w2 ⟨rfl, H2⟩
    go_wp2_with fail
    refine (rn_go H2 (q + 3)).mono ?_
    rintro e w3 ⟨rfl, H3⟩
    go_wp2_with fail
    go_ret
    exact ⟨rfl, H3.unbox⟩

def mxG3 (nl : List Int) (s : Rn) : Rn := ((s.did (doA s.L ⟨2, (cellP s.n 1 (s.f.a - 1)), 0, 0, 0⟩)).noted nl).wake (cellP s.n 1 (s.f.a - 1))
set_option maxHeartbeats 1600000 in
theorem mx_g3 {S0 : List Nat} {w0 w : World} {m a r : Nat} {rs : List Res} {s : Rn} (tail q : Int) {g nn c : Nat} {nl : List Int} (hnl : nl.length = nn) (hq : 0 ≤ q ∧ q ≤ 100) (hc : s.notes.length + nl.length ≤ 900) (H : RunHas S0 w0 m a r (.blk g (i64s nl).toArray :: rs) s w) {l : Int} (hl : s.f.line = l) (hsub : wrap64 (l - q) = 3) (hn : I64 s.n) (ha : 0 ≤ s.f.a ∧ s.f.a < 4294967296) :
    Calls Try.prog 81 #[.pointer (some ⟨r, 0, none⟩), .int .i64 tail, .int .i64 q, .slice (some ⟨g, 0, none⟩) nn c] w fun e w' => e = .returned (.bool true) ∧ RunHas S0 w0 m a r (.blk g (i64s nl).toArray :: rs) (mxG3 nl s) w' := by
  obtain ⟨o, hop⟩ : ∃ o, s.f.op = o := ⟨_, rfl⟩
  have hne := H.ne_first
  obtain ⟨z0, z2, z4, z5, z6, z7⟩ := H.facts hop hl rfl rfl
  have HA := Lib.hid ha
  have HC := Lib.hid hc
  have HQ := Lib.hid hq
  have HNX := Lib.hid (fun W => mapNext s.n s.task W hn)
  have HBL := Lib.hid (fun W => mapBlocked s.n (s.f.a - 1) W hn)
  have HH := Lib.hid (H.box rfl #[.pointer (some ⟨r, 4, none⟩)] 96)
  clear H ha hc hn
  unfold mxG3
  go_enter Try.func81, Try.ntmps81
  go_wp2_with fail
  have HW := HH.out
  generalize w.heap.size = tb at HW ⊢
  generalize w.alloc _ = W at HW ⊢
  obtain ⟨z0, z2, z4, z5, z6, z7⟩ := HW.facts hop hl rfl rfl
  obtain ⟨y1, y2, y3⟩ := HW.whose rfl rfl rfl
  obtain ⟨u0, u1, u2⟩ := HW.first.own
  go_region_held3 (fun w' => w'.cell? ⟨r, 1, none⟩ = some (.int .i64 s.n) ∧ w'.cell? ⟨r, 3, none⟩ = some (.int .i64 s.task) ∧ w'.cell? ⟨r, 6, none⟩ = some (.int .u32 s.f.a) ∧ w'.cell? ⟨tb, 0, none⟩ = some (.pointer (some ⟨r, 4, none⟩)))
    (first | (refine RunHas.sees_box (S0 := S0) (w0 := w0) (m := m) (a := a) (rs := .blk g (i64s nl).toArray :: rs) (s := s) ?_; first | with_reducible assumption | with_reducible exact HW.drew | with_reducible exact H1.drew))
    (first | (go_at_call 107; refine (HNX.out _).mono ?_; rintro e w1 ⟨rfl, t1⟩; have H1 := RunHas.grow HW.drew t1))
  clear u0 u1 u2 z0 z2 z4 z5 z6 z7 y1 y2 y3
  obtain ⟨x0, x2, x4, x5, x6, x7⟩ := H1.facts hop hl rfl rfl
  obtain ⟨v1, v2, v3⟩ := H1.whose rfl rfl rfl
  obtain ⟨u0, u1, u2⟩ := H1.first.own
  go_wp2_with fail
  go_region_held3 (fun w' => w'.cell? ⟨r, 1, none⟩ = some (.int .i64 s.n) ∧ w'.cell? ⟨r, 3, none⟩ = some (.int .i64 s.task) ∧ w'.cell? ⟨r, 6, none⟩ = some (.int .u32 s.f.a) ∧ w'.cell? ⟨tb, 0, none⟩ = some (.pointer (some ⟨r, 4, none⟩)))
    (first | (refine RunHas.sees_box (S0 := S0) (w0 := w0) (m := m) (a := a) (rs := .blk g (i64s nl).toArray :: rs) (s := s) ?_; first | with_reducible assumption | with_reducible exact HW.drew | with_reducible exact H1.drew))
    (first | (go_at_call 111; refine (mx_other _ _ HA.out).mono ?_; rintro e w9 ⟨rfl, rfl⟩) | (go_at_call 108; refine (HBL.out _).mono ?_; rintro e w2 ⟨rfl, t2⟩; have H2 := RunHas.grow H1.drew t2))
  obtain ⟨p0, p2, p4, p5, p6, p7⟩ := H2.facts hop hl rfl rfl
  go_wp2_with fail
  refine (rn_store H2 (cellP s.n 1 (s.f.a - 1)) 0 (by decide)).mono ?_
  rintro e w3 ⟨rfl, H3⟩
  go_wp2_with fail
  refine (mx_noted H3.swap12 hnl (by have := HC.out; simp [Rn.did]; omega)).mono ?_
  rintro e w4 ⟨rfl, H4⟩
  go_wp2_with fail
  refine (rn_wake H4.swap12 (cellP s.n 1 (s.f.a - 1))).mono ?_
  rintro e w5 ⟨rfl, H5⟩
  go_wp2_with fail
  go_ret
  exact ⟨rfl, H5.unbox⟩

def mxGnone (s : Rn) : Rn := s
set_option maxHeartbeats 1600000 in
theorem mx_gnone {S0 : List Nat} {w0 w : World} {m a r : Nat} {rs : List Res} {s : Rn} (tail q : Int) {g nn c : Nat} {nl : List Int} (hnl : nl.length = nn) (hq : 0 ≤ q ∧ q ≤ 100) (hc : s.notes.length + nl.length ≤ 900) (H : RunHas S0 w0 m a r (.blk g (i64s nl).toArray :: rs) s w) {l : Int} (hl : s.f.line = l) (k0 : ¬ wrap64 (l - q) = 0) (k1 : ¬ wrap64 (l - q) = 1) (k2 : ¬ wrap64 (l - q) = 2) (k3 : ¬ wrap64 (l - q) = 3) (hn : I64 s.n) (ha : 0 ≤ s.f.a ∧ s.f.a < 4294967296) :
    Calls Try.prog 81 #[.pointer (some ⟨r, 0, none⟩), .int .i64 tail, .int .i64 q, .slice (some ⟨g, 0, none⟩) nn c] w fun e w' => e = .returned (.bool false) ∧ RunHas S0 w0 m a r (.blk g (i64s nl).toArray :: rs) s w' := by
  obtain ⟨o, hop⟩ : ∃ o, s.f.op = o := ⟨_, rfl⟩
  have hne := H.ne_first
  obtain ⟨z0, z2, z4, z5, z6, z7⟩ := H.facts hop hl rfl rfl
  have HA := Lib.hid ha
  have HC := Lib.hid hc
  have HQ := Lib.hid hq
  have HNX := Lib.hid (fun W => mapNext s.n s.task W hn)
  have HH := Lib.hid (H.box rfl #[.pointer (some ⟨r, 4, none⟩)] 96)
  clear H ha hc hn
  go_enter Try.func81, Try.ntmps81
  go_wp2_with fail
  have HW := HH.out
  generalize w.heap.size = tb at HW ⊢
  generalize w.alloc _ = W at HW ⊢
  obtain ⟨z0, z2, z4, z5, z6, z7⟩ := HW.facts hop hl rfl rfl
  obtain ⟨y1, y2, y3⟩ := HW.whose rfl rfl rfl
  obtain ⟨u0, u1, u2⟩ := HW.first.own
  go_region_held3 (fun w' => w'.cell? ⟨r, 1, none⟩ = some (.int .i64 s.n) ∧ w'.cell? ⟨r, 3, none⟩ = some (.int .i64 s.task) ∧ w'.cell? ⟨r, 6, none⟩ = some (.int .u32 s.f.a) ∧ w'.cell? ⟨tb, 0, none⟩ = some (.pointer (some ⟨r, 4, none⟩)))
    (first | (refine RunHas.sees_box (S0 := S0) (w0 := w0) (m := m) (a := a) (rs := .blk g (i64s nl).toArray :: rs) (s := s) ?_; first | with_reducible assumption | with_reducible exact HW.drew))
    (first | (go_at_call 107; refine (HNX.out _).mono ?_; rintro e w1 ⟨rfl, t1⟩; have H1 := RunHas.grow HW.drew t1))
  clear u0 u1 u2 z0 z2 z4 z5 z6 z7 y1 y2 y3
  obtain ⟨x0, x2, x4, x5, x6, x7⟩ := H1.facts hop hl rfl rfl
  obtain ⟨v1, v2, v3⟩ := H1.whose rfl rfl rfl
  obtain ⟨u0, u1, u2⟩ := H1.first.own
  go_wp2_with fail
  go_ret
  exact ⟨rfl, H1.unbox⟩

/-- A line of who gives the queue on. -/
def mxGive (tail q : Int) (nl : List Int) (s : Rn) : Bool × Rn :=
  if wrap64 (s.f.line - q) = 0 then (false, mxG0 q s) else if wrap64 (s.f.line - q) = 1 then mxG1 tail q nl s else if wrap64 (s.f.line - q) = 2 then (false, mxG2 q s) else if wrap64 (s.f.line - q) = 3 then (true, mxG3 nl s) else (false, s)
theorem mx_give {S0 : List Nat} {w0 w : World} {m a r : Nat} {rs : List Res} {s : Rn} (tail q : Int) {g nn c : Nat} {nl : List Int} (hnl : nl.length = nn) (hq : 0 ≤ q ∧ q ≤ 100) (hc : s.notes.length + nl.length ≤ 900) (H : RunHas S0 w0 m a r (.blk g (i64s nl).toArray :: rs) s w) (hn : I64 s.n) (ha : 0 ≤ s.f.a ∧ s.f.a < 4294967296) :
    Calls Try.prog 81 #[.pointer (some ⟨r, 0, none⟩), .int .i64 tail, .int .i64 q, .slice (some ⟨g, 0, none⟩) nn c] w fun e w' => e = .returned (.bool (mxGive tail q nl s).1) ∧ RunHas S0 w0 m a r (.blk g (i64s nl).toArray :: rs) (mxGive tail q nl s).2 w' := by
  unfold mxGive
  split
  · exact mx_g0 tail q hnl hq hc H rfl (by assumption) hn ha
  split
  · exact mx_g1 tail q hnl hq hc H rfl (by assumption) hn ha
  split
  · exact mx_g2 tail q hnl hq hc H rfl (by assumption) hn ha
  split
  · exact mx_g3 tail q hnl hq hc H rfl (by assumption) hn ha
  · exact mx_gnone tail q hnl hq hc H rfl (by assumption) (by assumption) (by assumption) (by assumption) hn ha

end Go.Proofs.Ytbcppehpfckgoaa.Z

/- Package pq: its functions. Written by genpq.py. -/
set_option linter.unusedVariables false
set_option linter.unusedSimpArgs false
namespace Go.Proofs.Ytbcppehpfckgoaa.Z
open Go.RowKit

attribute [local go_sem ↓] Go.wp_at_zero Go.wp_at_succ

theorem mxTry_notes (tail : Int) (s : Rn) : (mxTry tail s).2.2.notes = s.notes := by
  unfold mxTry
  split
  · rfl
  split <;> rfl
/-- The end of who gives the queue on. -/
def pqGive (q : Int) (ok : Bool) (s : Rn) : Rn := if (mxGive 2 q [8] s).1 then (mxGive 2 q [8] s).2.fin ok else (mxGive 2 q [8] s).2

set_option maxHeartbeats 1600000 in
theorem pq_lock5 {S0 : List Nat} {w0 w : World} {m a r : Nat} {rs : List Res} {s : Rn} (H : RunHas S0 w0 m a r rs s w) {o l : Int} (hop : s.f.op = o) (hl : s.f.line = l) (h5 : l = 5) (hn : I64 s.n) (ha : 0 ≤ s.f.a ∧ s.f.a < 4294967296) (hb : 0 ≤ s.f.b ∧ s.f.b < 4294967296) (hc : s.notes.length ≤ 800) :
    Calls Try.prog 99 #[.pointer (some ⟨r, 0, none⟩)] w fun e w' => e = .returned (.tuple #[]) ∧ RunHas S0 w0 m a r rs (((s.did (doA s.L ⟨1, 3, 0, 0, 0⟩)).setB (doA s.L ⟨1, 3, 0, 0, 0⟩).1.old).goto 6) w' := by
  obtain ⟨z0, z2, z4, z5, z6, z7⟩ := H.facts hop hl rfl rfl
  have HC := Lib.hid hc
  have HA := Lib.hid ha
  have HBB := Lib.hid hb
  have HN := Lib.hid hn
  have HH := Lib.hid H
  clear hc H hn ha hb
  subst h5
  go_enter Try.func99, Try.ntmps99
  go_wp2_with fail
  refine calls_from (Facts := fun V => RunHas S0 w0 m a r (.blk w.heap.size #[.int .u32 s.f.a] :: rs) s V) ?_ (by first | exact HH.out.box rfl _ _ | exact (HH.out.box rfl _ _).drew | exact HH.out.drew.box rfl _ _)
  clear z0 z2 z4 z5 z6 z7
  intro W HW
  generalize w.heap.size = tb at HW ⊢
  obtain ⟨z0, z2, z4, z5, z6, z7⟩ := HW.facts hop hl rfl rfl
  refine (rn_load HW 3).mono ?_
  rintro e w1 ⟨rfl, H1⟩
  obtain ⟨x0, x2, x4, x5, x6, x7⟩ := H1.facts hop hl rfl rfl
  go_wp2_with fail
  refine (rn_go (H1.setB (doA s.L ⟨1, 3, 0, 0, 0⟩).1.old) 6).mono ?_
  rintro e w2 ⟨rfl, H2⟩
  go_wp2_with fail
  go_end0
  exact ⟨rfl, H2.unbox⟩

set_option maxHeartbeats 1600000 in
theorem pq_lock6 {S0 : List Nat} {w0 w : World} {m a r : Nat} {rs : List Res} {s : Rn} (H : RunHas S0 w0 m a r rs s w) {o l : Int} (hop : s.f.op = o) (hl : s.f.line = l) (h5 : l = 6) (hn : I64 s.n) (ha : 0 ≤ s.f.a ∧ s.f.a < 4294967296) (hb : 0 ≤ s.f.b ∧ s.f.b < 4294967296) (hc : s.notes.length ≤ 800) :
    Calls Try.prog 99 #[.pointer (some ⟨r, 0, none⟩)] w fun e w' => e = .returned (.tuple #[]) ∧ RunHas S0 w0 m a r rs ((((s.did (doA s.L ⟨3, 0, pfP s.f.b, 0, 0⟩)).setA (doA s.L ⟨3, 0, pfP s.f.b, 0, 0⟩).1.old).note 3 0).goto 7) w' := by
  obtain ⟨z0, z2, z4, z5, z6, z7⟩ := H.facts hop hl rfl rfl
  have HC := Lib.hid hc
  have HA := Lib.hid ha
  have HBB := Lib.hid hb
  have HN := Lib.hid hn
  have HH := Lib.hid H
  clear hc H hn ha hb
  subst h5
  go_enter Try.func99, Try.ntmps99
  go_wp2_with fail
  refine calls_from (Facts := fun V => RunHas S0 w0 m a r (.blk w.heap.size #[.int .u32 s.f.a] :: rs) s V) ?_ (by first | exact HH.out.box rfl _ _ | exact (HH.out.box rfl _ _).drew | exact HH.out.drew.box rfl _ _)
  clear z0 z2 z4 z5 z6 z7
  intro W HW
  generalize w.heap.size = tb at HW ⊢
  obtain ⟨z0, z2, z4, z5, z6, z7⟩ := HW.facts hop hl rfl rfl
  refine (pf_presence _ _ HBB.out).mono ?_
  rintro e w9 ⟨rfl, rfl⟩
  go_wp2_with fail
  refine (rn_add HW 0 (pfP s.f.b) (by have : 0 ≤ pfP s.f.b ∧ pfP s.f.b < 4294967296 := (by unfold pfP; omega); omega)).mono ?_
  rintro e w1 ⟨rfl, H1⟩
  obtain ⟨x0, x2, x4, x5, x6, x7⟩ := H1.facts hop hl rfl rfl
  go_wp2_with fail
  refine (run_note (H1.setA (doA s.L ⟨3, 0, pfP s.f.b, 0, 0⟩).1.old) (by have := HC.out; first | exact Nat.le_trans this (by decide) | (simp [Rn.note, Rn.did, Rn.setA, Rn.setB, Rn.waited, Rn.goto, Rn.noted]; omega)) 3 0).mono ?_
  rintro e w2 ⟨rfl, H2⟩
  go_wp2_with fail
  refine (rn_go H2 7).mono ?_
  rintro e w3 ⟨rfl, H3⟩
  go_wp2_with fail
  go_end0
  exact ⟨rfl, H3.unbox⟩

set_option maxHeartbeats 1600000 in
theorem pq_lock7 {S0 : List Nat} {w0 w : World} {m a r : Nat} {rs : List Res} {s : Rn} (H : RunHas S0 w0 m a r rs s w) {o l : Int} (hop : s.f.op = o) (hl : s.f.line = l) (h5 : l = 7) (hn : I64 s.n) (ha : 0 ≤ s.f.a ∧ s.f.a < 4294967296) (hb : 0 ≤ s.f.b ∧ s.f.b < 4294967296) (hc : s.notes.length ≤ 800) :
    Calls Try.prog 99 #[.pointer (some ⟨r, 0, none⟩)] w fun e w' => e = .returned (.tuple #[]) ∧ RunHas S0 w0 m a r rs (let s1 := s.waited (waitA s.L s.n s.mode s.task s.f.st 1 (fun v => v == s.f.a)); let s2 := if (waitA s.L s.n s.mode s.task s.f.st 1 (fun v => v == s.f.a)).seen then s1.note 4 0 else s1; if (waitA s.L s.n s.mode s.task s.f.st 1 (fun v => v == s.f.a)).done then s2.fin true else s2) w' := by
  obtain ⟨z0, z2, z4, z5, z6, z7⟩ := H.facts hop hl rfl rfl
  have HC := Lib.hid hc
  have HA := Lib.hid ha
  have HBB := Lib.hid hb
  have HN := Lib.hid hn
  have HH := Lib.hid H
  clear hc H hn ha hb
  subst h5
  have hwt := fun (t2 : Nat) W (H : RunHas S0 w0 m a r (.blk t2 #[.int .u32 s.f.a] :: rs) s W) => rn_wait H HN.out 1 128 #[] #[.pointer (some ⟨t2, 0, none⟩)] (fun v => v == s.f.a) (enters_of Try.func128 (by kernel_rfl) rfl) (fun W v h0 h1 H => pf_mine s.f.a v W H.first)
  cases hs : (waitA s.L s.n s.mode s.task s.f.st 1 (fun v => v == s.f.a)).seen <;> cases hd : (waitA s.L s.n s.mode s.task s.f.st 1 (fun v => v == s.f.a)).done <;> rw [hs, hd] at hwt <;> simp only [if_true, Bool.false_eq_true, if_false] <;> (have HWT := Lib.hid hwt) <;> clear hwt hs hd
  · go_enter Try.func99, Try.ntmps99
    go_wp2_with fail
    refine calls_from (Facts := fun V => RunHas S0 w0 m a r (.blk w.heap.size #[.int .u32 s.f.a] :: rs) s V) ?_ (by first | exact HH.out.box rfl _ _ | exact (HH.out.box rfl _ _).drew | exact HH.out.drew.box rfl _ _)
    clear z0 z2 z4 z5 z6 z7
    intro W HW
    generalize w.heap.size = tb at HW ⊢
    obtain ⟨z0, z2, z4, z5, z6, z7⟩ := HW.facts hop hl rfl rfl
    refine (HWT.out _ _ HW).mono ?_
    rintro e w1 ⟨rfl, H1⟩
    go_wp2_with fail
    go_end0
    exact ⟨rfl, H1.unbox⟩
  · go_enter Try.func99, Try.ntmps99
    go_wp2_with fail
    refine calls_from (Facts := fun V => RunHas S0 w0 m a r (.blk w.heap.size #[.int .u32 s.f.a] :: rs) s V) ?_ (by first | exact HH.out.box rfl _ _ | exact (HH.out.box rfl _ _).drew | exact HH.out.drew.box rfl _ _)
    clear z0 z2 z4 z5 z6 z7
    intro W HW
    generalize w.heap.size = tb at HW ⊢
    obtain ⟨z0, z2, z4, z5, z6, z7⟩ := HW.facts hop hl rfl rfl
    refine (HWT.out _ _ HW).mono ?_
    rintro e w1 ⟨rfl, H1⟩
    go_wp2_with fail
    refine (rn_end H1 true).mono ?_
    rintro e w2 ⟨rfl, H2⟩
    go_wp2_with fail
    go_end0
    exact ⟨rfl, H2.unbox⟩
  · go_enter Try.func99, Try.ntmps99
    go_wp2_with fail
    refine calls_from (Facts := fun V => RunHas S0 w0 m a r (.blk w.heap.size #[.int .u32 s.f.a] :: rs) s V) ?_ (by first | exact HH.out.box rfl _ _ | exact (HH.out.box rfl _ _).drew | exact HH.out.drew.box rfl _ _)
    clear z0 z2 z4 z5 z6 z7
    intro W HW
    generalize w.heap.size = tb at HW ⊢
    obtain ⟨z0, z2, z4, z5, z6, z7⟩ := HW.facts hop hl rfl rfl
    refine (HWT.out _ _ HW).mono ?_
    rintro e w1 ⟨rfl, H1⟩
    go_wp2_with fail
    refine (run_note H1 (by have := HC.out; first | exact Nat.le_trans this (by decide) | (simp [Rn.note, Rn.did, Rn.setA, Rn.setB, Rn.waited, Rn.goto, Rn.noted]; omega)) 4 0).mono ?_
    rintro e w2 ⟨rfl, H2⟩
    go_wp2_with fail
    go_end0
    exact ⟨rfl, H2.unbox⟩
  · go_enter Try.func99, Try.ntmps99
    go_wp2_with fail
    refine calls_from (Facts := fun V => RunHas S0 w0 m a r (.blk w.heap.size #[.int .u32 s.f.a] :: rs) s V) ?_ (by first | exact HH.out.box rfl _ _ | exact (HH.out.box rfl _ _).drew | exact HH.out.drew.box rfl _ _)
    clear z0 z2 z4 z5 z6 z7
    intro W HW
    generalize w.heap.size = tb at HW ⊢
    obtain ⟨z0, z2, z4, z5, z6, z7⟩ := HW.facts hop hl rfl rfl
    refine (HWT.out _ _ HW).mono ?_
    rintro e w1 ⟨rfl, H1⟩
    go_wp2_with fail
    refine (run_note H1 (by have := HC.out; first | exact Nat.le_trans this (by decide) | (simp [Rn.note, Rn.did, Rn.setA, Rn.setB, Rn.waited, Rn.goto, Rn.noted]; omega)) 4 0).mono ?_
    rintro e w2 ⟨rfl, H2⟩
    go_wp2_with fail
    refine (rn_end H2 true).mono ?_
    rintro e w3 ⟨rfl, H3⟩
    go_wp2_with fail
    go_end0
    exact ⟨rfl, H3.unbox⟩

def pqEnter (s : Rn) : Rn := if (mxEnter 2 2 s).1 then (mxEnter 2 2 s).2.goto 5 else (mxEnter 2 2 s).2

set_option maxHeartbeats 1600000 in
theorem pq_lockE {S0 : List Nat} {w0 w : World} {m a r : Nat} {rs : List Res} {s : Rn} (H : RunHas S0 w0 m a r rs s w) {o l : Int} (hop : s.f.op = o) (hl : s.f.line = l) (h5 : ¬ l = 5) (h6 : ¬ l = 6) (h7 : ¬ l = 7) (hn : I64 s.n) (ha : 0 ≤ s.f.a ∧ s.f.a < 4294967296) (hb : 0 ≤ s.f.b ∧ s.f.b < 4294967296) (hc : s.notes.length ≤ 800) :
    Calls Try.prog 99 #[.pointer (some ⟨r, 0, none⟩)] w fun e w' => e = .returned (.tuple #[]) ∧ RunHas S0 w0 m a r rs (pqEnter s) w' := by
  obtain ⟨z0, z2, z4, z5, z6, z7⟩ := H.facts hop hl rfl rfl
  have HC := Lib.hid hc
  have HA := Lib.hid ha
  have HBB := Lib.hid hb
  have HN := Lib.hid hn
  have HH := Lib.hid H
  clear hc H hn ha hb
  have he := fun (tb : Nat) W (HX : RunHas S0 w0 m a r (.blk tb #[.int .u32 s.f.a] :: rs) s W) => mx_enter HX 2 2 HN.out HA.out (by have := HC.out; omega)
  unfold pqEnter
  generalize mxEnter 2 2 s = R at he ⊢
  obtain ⟨b, s1⟩ := R
  have HE := Lib.hid he
  clear he
  cases b with
  | true =>
    go_enter Try.func99, Try.ntmps99
    go_wp2_with fail
    refine calls_from (Facts := fun V => RunHas S0 w0 m a r (.blk w.heap.size #[.int .u32 s.f.a] :: rs) s V) ?_ (by first | exact HH.out.box rfl _ _ | exact (HH.out.box rfl _ _).drew | exact HH.out.drew.box rfl _ _)
    clear z0 z2 z4 z5 z6 z7
    intro W HW
    generalize w.heap.size = tb at HW ⊢
    obtain ⟨z0, z2, z4, z5, z6, z7⟩ := HW.facts hop hl rfl rfl
    refine (HE.out _ _ HW).mono ?_
    rintro e w1 ⟨rfl, H1⟩
    go_wp2_with fail
    refine (rn_go H1 5).mono ?_
    rintro e w2 ⟨rfl, H2⟩
    go_wp2_with fail
    go_end0
    exact ⟨rfl, H2.unbox⟩
  | false =>
    go_enter Try.func99, Try.ntmps99
    go_wp2_with fail
    refine calls_from (Facts := fun V => RunHas S0 w0 m a r (.blk w.heap.size #[.int .u32 s.f.a] :: rs) s V) ?_ (by first | exact HH.out.box rfl _ _ | exact (HH.out.box rfl _ _).drew | exact HH.out.drew.box rfl _ _)
    clear z0 z2 z4 z5 z6 z7
    intro W HW
    generalize w.heap.size = tb at HW ⊢
    obtain ⟨z0, z2, z4, z5, z6, z7⟩ := HW.facts hop hl rfl rfl
    refine (HE.out _ _ HW).mono ?_
    rintro e w1 ⟨rfl, H1⟩
    go_wp2_with fail
    go_end0
    exact ⟨rfl, H1.unbox⟩

def pqLock (s : Rn) : Rn :=
  if s.f.line = 5 then (((s.did (doA s.L ⟨1, 3, 0, 0, 0⟩)).setB (doA s.L ⟨1, 3, 0, 0, 0⟩).1.old).goto 6)
  else if s.f.line = 6 then ((((s.did (doA s.L ⟨3, 0, pfP s.f.b, 0, 0⟩)).setA (doA s.L ⟨3, 0, pfP s.f.b, 0, 0⟩).1.old).note 3 0).goto 7)
  else if s.f.line = 7 then (let s1 := s.waited (waitA s.L s.n s.mode s.task s.f.st 1 (fun v => v == s.f.a)); let s2 := if (waitA s.L s.n s.mode s.task s.f.st 1 (fun v => v == s.f.a)).seen then s1.note 4 0 else s1; if (waitA s.L s.n s.mode s.task s.f.st 1 (fun v => v == s.f.a)).done then s2.fin true else s2)
  else pqEnter s
theorem pq_lock {S0 : List Nat} {w0 w : World} {m a r : Nat} {rs : List Res} {s : Rn} (H : RunHas S0 w0 m a r rs s w) (hn : I64 s.n) (ha : 0 ≤ s.f.a ∧ s.f.a < 4294967296) (hb : 0 ≤ s.f.b ∧ s.f.b < 4294967296) (hc : s.notes.length ≤ 800) : Calls Try.prog 99 #[.pointer (some ⟨r, 0, none⟩)] w fun e w' => e = .returned (.tuple #[]) ∧ RunHas S0 w0 m a r rs (pqLock s) w' := by
  unfold pqLock
  split
  · exact pq_lock5 H rfl rfl (by assumption) hn ha hb hc
  split
  · exact pq_lock6 H rfl rfl (by assumption) hn ha hb hc
  split
  · exact pq_lock7 H rfl rfl (by assumption) hn ha hb hc
  · exact pq_lockE H rfl rfl (by assumption) (by assumption) (by assumption) hn ha hb hc

set_option maxHeartbeats 1600000 in
theorem pq_leave40 {S0 : List Nat} {w0 w : World} {m a r : Nat} {rs : List Res} {s : Rn} (H : RunHas S0 w0 m a r rs s w) {o l : Int} (hop : s.f.op = o) (hl : s.f.line = l) (ho : o = 4) (h0 : l = 0) (hn : I64 s.n) (ha : 0 ≤ s.f.a ∧ s.f.a < 4294967296) (hb : 0 ≤ s.f.b ∧ s.f.b < 4294967296) (hc : s.notes.length ≤ 800) :
    Calls Try.prog 100 #[.pointer (some ⟨r, 0, none⟩)] w fun e w' => e = .returned (.tuple #[]) ∧ RunHas S0 w0 m a r rs (((s.did (doA s.L ⟨1, 3, 0, 0, 0⟩)).setB (doA s.L ⟨1, 3, 0, 0, 0⟩).1.old).goto 1) w' := by
  obtain ⟨z0, z2, z4, z5, z6, z7⟩ := H.facts hop hl rfl rfl
  have HC := Lib.hid hc
  have HA := Lib.hid ha
  have HBB := Lib.hid hb
  have HN := Lib.hid hn
  have HH := Lib.hid H
  clear hc H hn ha hb
  subst ho h0
  go_enter Try.func100, Try.ntmps100
  go_wp2_with fail
  refine (pf_presence _ _ HBB.out).mono ?_
  rintro e w1 ⟨rfl, rfl⟩
  go_wp2_with fail
  go_quiet (fail)
  have HW := HH.out.drewN nq
  clear z0 z2 z4 z5 z6 z7
  generalize w.drewN nq = W at HW ⊢
  obtain ⟨z0, z2, z4, z5, z6, z7⟩ := HW.facts hop hl rfl rfl
  go_wp2_with fail
  refine (rn_load HW 3).mono ?_
  rintro e w1 ⟨rfl, H1⟩
  obtain ⟨x0, x2, x4, x5, x6, x7⟩ := H1.facts hop hl rfl rfl
  go_wp2_with fail
  refine (rn_go (H1.setB (doA s.L ⟨1, 3, 0, 0, 0⟩).1.old) 1).mono ?_
  rintro e w2 ⟨rfl, H2⟩
  go_wp2_with fail
  go_end0
  exact ⟨rfl, H2⟩

set_option maxHeartbeats 1600000 in
theorem pq_leave41 {S0 : List Nat} {w0 w : World} {m a r : Nat} {rs : List Res} {s : Rn} (H : RunHas S0 w0 m a r rs s w) {o l : Int} (hop : s.f.op = o) (hl : s.f.line = l) (ho : o = 4) (h0 : l = 1) (hn : I64 s.n) (ha : 0 ≤ s.f.a ∧ s.f.a < 4294967296) (hb : 0 ≤ s.f.b ∧ s.f.b < 4294967296) (hc : s.notes.length ≤ 800) :
    Calls Try.prog 100 #[.pointer (some ⟨r, 0, none⟩)] w fun e w' => e = .returned (.tuple #[]) ∧ RunHas S0 w0 m a r rs ((((s.did (doA s.L ⟨3, 0, (-pfP s.f.b % 4294967296), 0, 0⟩)).note 7 0).wake 0).goto 2) w' := by
  obtain ⟨z0, z2, z4, z5, z6, z7⟩ := H.facts hop hl rfl rfl
  have HC := Lib.hid hc
  have HA := Lib.hid ha
  have HBB := Lib.hid hb
  have HN := Lib.hid hn
  have HH := Lib.hid H
  clear hc H hn ha hb
  subst ho h0
  go_enter Try.func100, Try.ntmps100
  go_wp2_with fail
  refine (pf_presence _ _ HBB.out).mono ?_
  rintro e w1 ⟨rfl, rfl⟩
  go_wp2_with fail
  go_quiet (fail)
  have HW := HH.out.drewN nq
  clear z0 z2 z4 z5 z6 z7
  generalize w.drewN nq = W at HW ⊢
  obtain ⟨z0, z2, z4, z5, z6, z7⟩ := HW.facts hop hl rfl rfl
  go_wp2_with fail
  refine (rn_add HW 0 (-pfP s.f.b % 4294967296) (by omega)).mono ?_
  rintro e w1 ⟨rfl, H1⟩
  go_wp2_with fail
  refine (run_note H1 (by have := HC.out; first | exact Nat.le_trans this (by decide) | (simp [Rn.note, Rn.did, Rn.setA, Rn.setB, Rn.waited, Rn.goto, Rn.noted]; omega)) 7 0).mono ?_
  rintro e w2 ⟨rfl, H2⟩
  go_wp2_with fail
  refine (rn_wake H2 0).mono ?_
  rintro e w3 ⟨rfl, H3⟩
  go_wp2_with fail
  refine (rn_go H3 2).mono ?_
  rintro e w4 ⟨rfl, H4⟩
  go_wp2_with fail
  go_end0
  exact ⟨rfl, H4⟩

set_option maxHeartbeats 1600000 in
theorem pq_leave42 {S0 : List Nat} {w0 w : World} {m a r : Nat} {rs : List Res} {s : Rn} (H : RunHas S0 w0 m a r rs s w) {o l : Int} (hop : s.f.op = o) (hl : s.f.line = l) (ho : o = 4) (h0 : l = 2) (hn : I64 s.n) (ha : 0 ≤ s.f.a ∧ s.f.a < 4294967296) (hb : 0 ≤ s.f.b ∧ s.f.b < 4294967296) (hc : s.notes.length ≤ 800) :
    Calls Try.prog 100 #[.pointer (some ⟨r, 0, none⟩)] w fun e w' => e = .returned (.tuple #[]) ∧ RunHas S0 w0 m a r rs ((s.did (doA s.L ⟨2, 3, (s.f.b + 1) % 4294967296, 0, 0⟩)).goto 3) w' := by
  obtain ⟨z0, z2, z4, z5, z6, z7⟩ := H.facts hop hl rfl rfl
  have HC := Lib.hid hc
  have HA := Lib.hid ha
  have HBB := Lib.hid hb
  have HN := Lib.hid hn
  have HH := Lib.hid H
  clear hc H hn ha hb
  subst ho h0
  go_enter Try.func100, Try.ntmps100
  go_wp2_with fail
  refine (pf_presence _ _ HBB.out).mono ?_
  rintro e w1 ⟨rfl, rfl⟩
  go_wp2_with fail
  go_quiet (fail)
  have HW := HH.out.drewN nq
  clear z0 z2 z4 z5 z6 z7
  generalize w.drewN nq = W at HW ⊢
  obtain ⟨z0, z2, z4, z5, z6, z7⟩ := HW.facts hop hl rfl rfl
  go_wp2_with fail
  refine (rn_store HW 3 ((s.f.b + 1) % 4294967296) (by omega)).mono ?_
  rintro e w1 ⟨rfl, H1⟩
  go_wp2_with fail
  refine (rn_go H1 3).mono ?_
  rintro e w2 ⟨rfl, H2⟩
  go_wp2_with fail
  go_end0
  exact ⟨rfl, H2⟩

set_option maxHeartbeats 1600000 in
theorem pq_leave80 {S0 : List Nat} {w0 w : World} {m a r : Nat} {rs : List Res} {s : Rn} (H : RunHas S0 w0 m a r rs s w) {o l : Int} (hop : s.f.op = o) (hl : s.f.line = l) (ho : o = 8) (h0 : l = 0) (hn : I64 s.n) (ha : 0 ≤ s.f.a ∧ s.f.a < 4294967296) (hb : 0 ≤ s.f.b ∧ s.f.b < 4294967296) (hc : s.notes.length ≤ 800) :
    Calls Try.prog 100 #[.pointer (some ⟨r, 0, none⟩)] w fun e w' => e = .returned (.tuple #[]) ∧ RunHas S0 w0 m a r rs (((s.did (doA s.L ⟨1, 3, 0, 0, 0⟩)).setB (doA s.L ⟨1, 3, 0, 0, 0⟩).1.old).goto 1) w' := by
  obtain ⟨z0, z2, z4, z5, z6, z7⟩ := H.facts hop hl rfl rfl
  have HC := Lib.hid hc
  have HA := Lib.hid ha
  have HBB := Lib.hid hb
  have HN := Lib.hid hn
  have HH := Lib.hid H
  clear hc H hn ha hb
  subst ho h0
  go_enter Try.func100, Try.ntmps100
  go_wp2_with fail
  refine (pf_presence _ _ HBB.out).mono ?_
  rintro e w1 ⟨rfl, rfl⟩
  go_wp2_with fail
  go_quiet (fail)
  have HW := HH.out.drewN nq
  clear z0 z2 z4 z5 z6 z7
  generalize w.drewN nq = W at HW ⊢
  obtain ⟨z0, z2, z4, z5, z6, z7⟩ := HW.facts hop hl rfl rfl
  go_wp2_with fail
  refine (rn_load HW 3).mono ?_
  rintro e w1 ⟨rfl, H1⟩
  obtain ⟨x0, x2, x4, x5, x6, x7⟩ := H1.facts hop hl rfl rfl
  go_wp2_with fail
  refine (rn_go (H1.setB (doA s.L ⟨1, 3, 0, 0, 0⟩).1.old) 1).mono ?_
  rintro e w2 ⟨rfl, H2⟩
  go_wp2_with fail
  go_end0
  exact ⟨rfl, H2⟩

set_option maxHeartbeats 1600000 in
theorem pq_leave81 {S0 : List Nat} {w0 w : World} {m a r : Nat} {rs : List Res} {s : Rn} (H : RunHas S0 w0 m a r rs s w) {o l : Int} (hop : s.f.op = o) (hl : s.f.line = l) (ho : o = 8) (h0 : l = 1) (hn : I64 s.n) (ha : 0 ≤ s.f.a ∧ s.f.a < 4294967296) (hb : 0 ≤ s.f.b ∧ s.f.b < 4294967296) (hc : s.notes.length ≤ 800) :
    Calls Try.prog 100 #[.pointer (some ⟨r, 0, none⟩)] w fun e w' => e = .returned (.tuple #[]) ∧ RunHas S0 w0 m a r rs ((((s.did (doA s.L ⟨3, 0, ((256 - pfP s.f.b) % 4294967296), 0, 0⟩)).note 10 0).wake 0).goto 2) w' := by
  obtain ⟨z0, z2, z4, z5, z6, z7⟩ := H.facts hop hl rfl rfl
  have HC := Lib.hid hc
  have HA := Lib.hid ha
  have HBB := Lib.hid hb
  have HN := Lib.hid hn
  have HH := Lib.hid H
  clear hc H hn ha hb
  subst ho h0
  go_enter Try.func100, Try.ntmps100
  go_wp2_with fail
  refine (pf_presence _ _ HBB.out).mono ?_
  rintro e w1 ⟨rfl, rfl⟩
  go_wp2_with fail
  go_quiet (fail)
  have HW := HH.out.drewN nq
  clear z0 z2 z4 z5 z6 z7
  generalize w.drewN nq = W at HW ⊢
  obtain ⟨z0, z2, z4, z5, z6, z7⟩ := HW.facts hop hl rfl rfl
  go_wp2_with fail
  refine (rn_add HW 0 ((256 - pfP s.f.b) % 4294967296) (by omega)).mono ?_
  rintro e w1 ⟨rfl, H1⟩
  go_wp2_with fail
  refine (run_note H1 (by have := HC.out; first | exact Nat.le_trans this (by decide) | (simp [Rn.note, Rn.did, Rn.setA, Rn.setB, Rn.waited, Rn.goto, Rn.noted]; omega)) 10 0).mono ?_
  rintro e w2 ⟨rfl, H2⟩
  go_wp2_with fail
  refine (rn_wake H2 0).mono ?_
  rintro e w3 ⟨rfl, H3⟩
  go_wp2_with fail
  refine (rn_go H3 2).mono ?_
  rintro e w4 ⟨rfl, H4⟩
  go_wp2_with fail
  go_end0
  exact ⟨rfl, H4⟩

set_option maxHeartbeats 1600000 in
theorem pq_leave82 {S0 : List Nat} {w0 w : World} {m a r : Nat} {rs : List Res} {s : Rn} (H : RunHas S0 w0 m a r rs s w) {o l : Int} (hop : s.f.op = o) (hl : s.f.line = l) (ho : o = 8) (h0 : l = 2) (hn : I64 s.n) (ha : 0 ≤ s.f.a ∧ s.f.a < 4294967296) (hb : 0 ≤ s.f.b ∧ s.f.b < 4294967296) (hc : s.notes.length ≤ 800) :
    Calls Try.prog 100 #[.pointer (some ⟨r, 0, none⟩)] w fun e w' => e = .returned (.tuple #[]) ∧ RunHas S0 w0 m a r rs ((s.did (doA s.L ⟨2, 3, (s.f.b + 1) % 4294967296, 0, 0⟩)).goto 3) w' := by
  obtain ⟨z0, z2, z4, z5, z6, z7⟩ := H.facts hop hl rfl rfl
  have HC := Lib.hid hc
  have HA := Lib.hid ha
  have HBB := Lib.hid hb
  have HN := Lib.hid hn
  have HH := Lib.hid H
  clear hc H hn ha hb
  subst ho h0
  go_enter Try.func100, Try.ntmps100
  go_wp2_with fail
  refine (pf_presence _ _ HBB.out).mono ?_
  rintro e w1 ⟨rfl, rfl⟩
  go_wp2_with fail
  go_quiet (fail)
  have HW := HH.out.drewN nq
  clear z0 z2 z4 z5 z6 z7
  generalize w.drewN nq = W at HW ⊢
  obtain ⟨z0, z2, z4, z5, z6, z7⟩ := HW.facts hop hl rfl rfl
  go_wp2_with fail
  refine (rn_store HW 3 ((s.f.b + 1) % 4294967296) (by omega)).mono ?_
  rintro e w1 ⟨rfl, H1⟩
  go_wp2_with fail
  refine (rn_go H1 3).mono ?_
  rintro e w2 ⟨rfl, H2⟩
  go_wp2_with fail
  go_end0
  exact ⟨rfl, H2⟩

set_option maxHeartbeats 1600000 in
theorem pq_leaveG {S0 : List Nat} {w0 w : World} {m a r : Nat} {rs : List Res} {s : Rn} (H : RunHas S0 w0 m a r rs s w) {o l : Int} (hop : s.f.op = o) (hl : s.f.line = l) (h0 : ¬ (o = 4 ∧ l = 0)) (h1 : ¬ (o = 8 ∧ l = 0)) (h2 : ¬ (o = 4 ∧ l = 1)) (h3 : ¬ (o = 8 ∧ l = 1)) (h4 : ¬ (o = 4 ∧ l = 2)) (h5 : ¬ (o = 8 ∧ l = 2)) (hn : I64 s.n) (ha : 0 ≤ s.f.a ∧ s.f.a < 4294967296) (hb : 0 ≤ s.f.b ∧ s.f.b < 4294967296) (hc : s.notes.length ≤ 800) :
    Calls Try.prog 100 #[.pointer (some ⟨r, 0, none⟩)] w fun e w' => e = .returned (.tuple #[]) ∧ RunHas S0 w0 m a r rs (pqGive 3 true s) w' := by
  obtain ⟨z0, z2, z4, z5, z6, z7⟩ := H.facts hop hl rfl rfl
  have HC := Lib.hid hc
  have HA := Lib.hid ha
  have HBB := Lib.hid hb
  have HN := Lib.hid hn
  have HH := Lib.hid H
  clear hc H hn ha hb
  have he := fun (g : Nat) W (HX : RunHas S0 w0 m a r (.blk g (i64s [8]).toArray :: rs) s W) => mx_give (c := 1) 2 3 (nl := [8]) (nn := 1) rfl (by decide) (by have := HC.out; simp; omega) HX HN.out HA.out
  unfold pqGive
  generalize mxGive 2 3 [8] s = R at he ⊢
  obtain ⟨b, s1⟩ := R
  have HE := Lib.hid he
  clear he
  cases b with
  | true =>
    go_enter Try.func100, Try.ntmps100
    go_wp2_with fail
    refine (pf_presence _ _ HBB.out).mono ?_
    rintro e w1 ⟨rfl, rfl⟩
    go_wp2_with fail
    go_quiet (fail)
    have HW := HH.out.drewN nq
    clear z0 z2 z4 z5 z6 z7
    generalize w.drewN nq = W at HW ⊢
    obtain ⟨z0, z2, z4, z5, z6, z7⟩ := HW.facts hop hl rfl rfl
    go_wp2_with fail
    all_goals
      refine (HE.out _ _ (HW.box rfl _ _)).mono ?_
      rintro e w7 ⟨rfl, H7⟩
      go_wp2_with fail
      refine (rn_end H7 true).mono ?_
      rintro e w8 ⟨rfl, H8⟩
      go_wp2_with fail
      go_end0
      exact ⟨rfl, H8.unbox⟩
  | false =>
    go_enter Try.func100, Try.ntmps100
    go_wp2_with fail
    refine (pf_presence _ _ HBB.out).mono ?_
    rintro e w1 ⟨rfl, rfl⟩
    go_wp2_with fail
    go_quiet (fail)
    have HW := HH.out.drewN nq
    clear z0 z2 z4 z5 z6 z7
    generalize w.drewN nq = W at HW ⊢
    obtain ⟨z0, z2, z4, z5, z6, z7⟩ := HW.facts hop hl rfl rfl
    go_wp2_with fail
    all_goals
      refine (HE.out _ _ (HW.box rfl _ _)).mono ?_
      rintro e w7 ⟨rfl, H7⟩
      go_wp2_with fail
      go_end0
      exact ⟨rfl, H7.unbox⟩

def pqLeave (s : Rn) : Rn :=
  if s.f.op = 4 ∧ s.f.line = 0 then (((s.did (doA s.L ⟨1, 3, 0, 0, 0⟩)).setB (doA s.L ⟨1, 3, 0, 0, 0⟩).1.old).goto 1)
  else if s.f.op = 8 ∧ s.f.line = 0 then (((s.did (doA s.L ⟨1, 3, 0, 0, 0⟩)).setB (doA s.L ⟨1, 3, 0, 0, 0⟩).1.old).goto 1)
  else if s.f.op = 4 ∧ s.f.line = 1 then ((((s.did (doA s.L ⟨3, 0, (-pfP s.f.b % 4294967296), 0, 0⟩)).note 7 0).wake 0).goto 2)
  else if s.f.op = 8 ∧ s.f.line = 1 then ((((s.did (doA s.L ⟨3, 0, ((256 - pfP s.f.b) % 4294967296), 0, 0⟩)).note 10 0).wake 0).goto 2)
  else if s.f.op = 4 ∧ s.f.line = 2 then ((s.did (doA s.L ⟨2, 3, (s.f.b + 1) % 4294967296, 0, 0⟩)).goto 3)
  else if s.f.op = 8 ∧ s.f.line = 2 then ((s.did (doA s.L ⟨2, 3, (s.f.b + 1) % 4294967296, 0, 0⟩)).goto 3)
  else pqGive 3 true s
theorem pq_leave {S0 : List Nat} {w0 w : World} {m a r : Nat} {rs : List Res} {s : Rn} (H : RunHas S0 w0 m a r rs s w) (hn : I64 s.n) (ha : 0 ≤ s.f.a ∧ s.f.a < 4294967296) (hb : 0 ≤ s.f.b ∧ s.f.b < 4294967296) (hc : s.notes.length ≤ 800) : Calls Try.prog 100 #[.pointer (some ⟨r, 0, none⟩)] w fun e w' => e = .returned (.tuple #[]) ∧ RunHas S0 w0 m a r rs (pqLeave s) w' := by
  unfold pqLeave
  split
  · exact pq_leave40 H rfl rfl (by omega) (by omega) hn ha hb hc
  split
  · exact pq_leave80 H rfl rfl (by omega) (by omega) hn ha hb hc
  split
  · exact pq_leave41 H rfl rfl (by omega) (by omega) hn ha hb hc
  split
  · exact pq_leave81 H rfl rfl (by omega) (by omega) hn ha hb hc
  split
  · exact pq_leave42 H rfl rfl (by omega) (by omega) hn ha hb hc
  split
  · exact pq_leave82 H rfl rfl (by omega) (by omega) hn ha hb hc
  · exact pq_leaveG H rfl rfl (by assumption) (by assumption) (by assumption) (by assumption) (by assumption) (by assumption) hn ha hb hc

def pqTry (s : Rn) : Rn :=
  if (mxTry 2 s).1 then (if (mxTry 2 s).2.1 then ((mxTry 2 s).2.2.note 2 2).goto 2 else ((mxTry 2 s).2.2.note 5 0).fin false) else (mxTry 2 s).2.2
theorem pq_try {S0 : List Nat} {w0 w : World} {m a r : Nat} {rs : List Res} {s : Rn} (H : RunHas S0 w0 m a r rs s w) (hn : I64 s.n) (ha : 0 ≤ s.f.a ∧ s.f.a < 4294967296) (hb : 0 ≤ s.f.b ∧ s.f.b < 4294967296) (hc : s.notes.length ≤ 800) :
    Calls Try.prog 101 #[.pointer (some ⟨r, 0, none⟩)] w fun e w' => e = .returned (.tuple #[]) ∧ RunHas S0 w0 m a r rs (pqTry s) w' := by
  have he := mx_try H 2 hn
  have hnt := mxTry_notes 2 s
  unfold pqTry
  generalize mxTry 2 s = R at he hnt ⊢
  obtain ⟨d, i, s1⟩ := R
  have hc1 : s1.notes.length ≤ 800 := by rw [show s1.notes = s.notes from hnt]; exact hc
  have HC := Lib.hid hc1
  have HE := Lib.hid he
  clear he H hn ha hb hc hnt hc1
  cases d with
  | true =>
    cases i with
    | true =>
      go_enter Try.func101, Try.ntmps101
      go_wp2_with fail
      refine HE.out.mono ?_
      rintro e w1 ⟨rfl, H1⟩
      go_wp2_with fail
      refine (run_note H1 (by have := HC.out; first | exact Nat.le_trans this (by decide) | (simp [Rn.note, Rn.did, Rn.setA, Rn.setB, Rn.waited, Rn.goto, Rn.noted]; omega)) 2 2).mono ?_
      rintro e w2 ⟨rfl, H2⟩
      go_wp2_with fail
      refine (rn_go H2 2).mono ?_
      rintro e w3 ⟨rfl, H3⟩
      go_wp2_with fail
      go_end0
      exact ⟨rfl, H3⟩
    | false =>
      go_enter Try.func101, Try.ntmps101
      go_wp2_with fail
      refine HE.out.mono ?_
      rintro e w1 ⟨rfl, H1⟩
      go_wp2_with fail
      refine (run_note H1 (by have := HC.out; first | exact Nat.le_trans this (by decide) | (simp [Rn.note, Rn.did, Rn.setA, Rn.setB, Rn.waited, Rn.goto, Rn.noted]; omega)) 5 0).mono ?_
      rintro e w2 ⟨rfl, H2⟩
      go_wp2_with fail
      refine (rn_end H2 false).mono ?_
      rintro e w3 ⟨rfl, H3⟩
      go_wp2_with fail
      go_end0
      exact ⟨rfl, H3⟩
  | false =>
    go_enter Try.func101, Try.ntmps101
    go_wp2_with fail
    refine HE.out.mono ?_
    rintro e w1 ⟨rfl, H1⟩
    go_wp2_with fail
    go_end0
    exact ⟨rfl, H1⟩

end Go.Proofs.Ytbcppehpfckgoaa.Z

/- Package pq: the lines of a try. Written by genpq.py. -/
set_option linter.unusedVariables false
set_option linter.unusedSimpArgs false
namespace Go.Proofs.Ytbcppehpfckgoaa.Z
open Go.RowKit

attribute [local go_sem ↓] Go.wp_at_zero Go.wp_at_succ

set_option maxHeartbeats 1600000 in
theorem pq_decide2 {S0 : List Nat} {w0 w : World} {m a r : Nat} {rs : List Res} {s : Rn} (H : RunHas S0 w0 m a r rs s w) {o l : Int} (hop : s.f.op = o) (hl : s.f.line = l) (h0 : l = 2) (hn : I64 s.n) (ha : 0 ≤ s.f.a ∧ s.f.a < 4294967296) (hb : 0 ≤ s.f.b ∧ s.f.b < 4294967296) (hc : s.notes.length ≤ 800) :
    Calls Try.prog 102 #[.pointer (some ⟨r, 0, none⟩)] w fun e w' => e = .returned (.tuple #[]) ∧ RunHas S0 w0 m a r rs (((s.did (doA s.L ⟨1, 0, 0, 0, 0⟩)).setA (doA s.L ⟨1, 0, 0, 0, 0⟩).1.old).goto 3) w' := by
  obtain ⟨z0, z2, z4, z5, z6, z7⟩ := H.facts hop hl rfl rfl
  have HC := Lib.hid hc
  have HA := Lib.hid ha
  have HBB := Lib.hid hb
  have HN := Lib.hid hn
  have HH := Lib.hid H
  clear hc H hn ha hb
  subst h0
  go_enter Try.func102, Try.ntmps102
  go_wp2_with fail
  refine (rn_load HH.out 0).mono ?_
  rintro e w1 ⟨rfl, H1⟩
  obtain ⟨x0, x2, x4, x5, x6, x7⟩ := H1.facts hop hl rfl rfl
  go_wp2_with fail
  refine (rn_go (H1.setA (doA s.L ⟨1, 0, 0, 0, 0⟩).1.old) 3).mono ?_
  rintro e w2 ⟨rfl, H2⟩
  go_wp2_with fail
  go_end0
  exact ⟨rfl, H2⟩

set_option maxHeartbeats 1600000 in
theorem pq_decide4 {S0 : List Nat} {w0 w : World} {m a r : Nat} {rs : List Res} {s : Rn} (H : RunHas S0 w0 m a r rs s w) {o l : Int} (hop : s.f.op = o) (hl : s.f.line = l) (h0 : l = 4) (hn : I64 s.n) (ha : 0 ≤ s.f.a ∧ s.f.a < 4294967296) (hb : 0 ≤ s.f.b ∧ s.f.b < 4294967296) (hc : s.notes.length ≤ 800) :
    Calls Try.prog 102 #[.pointer (some ⟨r, 0, none⟩)] w fun e w' => e = .returned (.tuple #[]) ∧ RunHas S0 w0 m a r rs (((s.did (doA s.L ⟨1, 3, 0, 0, 0⟩)).setB (doA s.L ⟨1, 3, 0, 0, 0⟩).1.old).goto 5) w' := by
  obtain ⟨z0, z2, z4, z5, z6, z7⟩ := H.facts hop hl rfl rfl
  have HC := Lib.hid hc
  have HA := Lib.hid ha
  have HBB := Lib.hid hb
  have HN := Lib.hid hn
  have HH := Lib.hid H
  clear hc H hn ha hb
  subst h0
  go_enter Try.func102, Try.ntmps102
  go_wp2_with fail
  refine (rn_load HH.out 3).mono ?_
  rintro e w1 ⟨rfl, H1⟩
  obtain ⟨x0, x2, x4, x5, x6, x7⟩ := H1.facts hop hl rfl rfl
  go_wp2_with fail
  refine (rn_go (H1.setB (doA s.L ⟨1, 3, 0, 0, 0⟩).1.old) 5).mono ?_
  rintro e w2 ⟨rfl, H2⟩
  go_wp2_with fail
  go_end0
  exact ⟨rfl, H2⟩

set_option maxHeartbeats 1600000 in
theorem pq_decide5 {S0 : List Nat} {w0 w : World} {m a r : Nat} {rs : List Res} {s : Rn} (H : RunHas S0 w0 m a r rs s w) {o l : Int} (hop : s.f.op = o) (hl : s.f.line = l) (h0 : l = 5) (hn : I64 s.n) (ha : 0 ≤ s.f.a ∧ s.f.a < 4294967296) (hb : 0 ≤ s.f.b ∧ s.f.b < 4294967296) (hc : s.notes.length ≤ 800) :
    Calls Try.prog 102 #[.pointer (some ⟨r, 0, none⟩)] w fun e w' => e = .returned (.tuple #[]) ∧ RunHas S0 w0 m a r rs ((((s.did (doA s.L ⟨3, 0, pfP s.f.b, 0, 0⟩)).setA (doA s.L ⟨3, 0, pfP s.f.b, 0, 0⟩).1.old).note 3 0).goto 6) w' := by
  obtain ⟨z0, z2, z4, z5, z6, z7⟩ := H.facts hop hl rfl rfl
  have HC := Lib.hid hc
  have HA := Lib.hid ha
  have HBB := Lib.hid hb
  have HN := Lib.hid hn
  have HH := Lib.hid H
  clear hc H hn ha hb
  subst h0
  go_enter Try.func102, Try.ntmps102
  go_wp2_with fail
  refine (pf_presence _ _ HBB.out).mono ?_
  rintro e w9 ⟨rfl, rfl⟩
  go_wp2_with fail
  refine (rn_add HH.out 0 (pfP s.f.b) (by have : 0 ≤ pfP s.f.b ∧ pfP s.f.b < 4294967296 := (by unfold pfP; omega); omega)).mono ?_
  rintro e w1 ⟨rfl, H1⟩
  obtain ⟨x0, x2, x4, x5, x6, x7⟩ := H1.facts hop hl rfl rfl
  go_wp2_with fail
  refine (run_note (H1.setA (doA s.L ⟨3, 0, pfP s.f.b, 0, 0⟩).1.old) (by have := HC.out; first | exact Nat.le_trans this (by decide) | (simp [Rn.note, Rn.did, Rn.setA, Rn.setB, Rn.waited, Rn.goto, Rn.noted]; omega)) 3 0).mono ?_
  rintro e w2 ⟨rfl, H2⟩
  go_wp2_with fail
  refine (rn_go H2 6).mono ?_
  rintro e w3 ⟨rfl, H3⟩
  go_wp2_with fail
  go_end0
  exact ⟨rfl, H3⟩

def pqIn6 (s : Rn) : Rn :=
  let s1 := (s.did (doA s.L ⟨1, 1, 0, 0, 0⟩)).setB (doA s.L ⟨1, 1, 0, 0, 0⟩).1.old
  if 0 < aheadA s.f.a (doA s.L ⟨1, 1, 0, 0, 0⟩).1.old then (s1.note 5 0).goto 8 else s1.goto 4

set_option maxHeartbeats 1600000 in
theorem pq_inside6 {S0 : List Nat} {w0 w : World} {m a r : Nat} {rs : List Res} {s : Rn} (H : RunHas S0 w0 m a r rs s w) {l : Int} (hop : s.f.op = 6) (hl : s.f.line = l) (ha : 0 ≤ s.f.a ∧ s.f.a < 4294967296) (hc : s.notes.length ≤ 800) :
    Calls Try.prog 129 #[.pointer (some ⟨r, 0, none⟩)] w fun e w' => e = .returned (.tuple #[]) ∧ RunHas S0 w0 m a r rs (pqIn6 s) w' := by
  have hv := H.old ⟨1, 1, 0, 0, 0⟩
  have hah := fun W => ahead_any s.f.a (doA s.L ⟨1, 1, 0, 0, 0⟩).1.old W ha hv
  have HC := Lib.hid hc
  have HAH := Lib.hid hah
  have HH := Lib.hid H
  clear hv hah hc H ha
  unfold pqIn6
  dsimp only
  generalize aheadA s.f.a (doA s.L ⟨1, 1, 0, 0, 0⟩).1.old = n at HAH ⊢
  have hw0 : IntKind.i64.wrap 0 = 0 := by decide
  by_cases c1 : 0 < n
  · rw [if_pos c1]
    have d1 : decide (0 < n) = true := by simpa using c1
    have HD1 := Lib.hid c1
    clear c1
    go_enter Try.func129, Try.ntmps129
    go_wp2_with fail
    refine (rn_load HH.out 1).mono ?_
    rintro e w1 ⟨rfl, H1⟩
    obtain ⟨x0, x2, x4, x5, x6, x7⟩ := H1.facts hop hl rfl rfl
    go_wp2_with fail
    have H2 := (H1.setB (doA s.L ⟨1, 1, 0, 0, 0⟩).1.old).drew
    have hd6 : ((w1.setCell ⟨r, 7, none⟩ (.int .u32 (doA s.L ⟨1, 1, 0, 0, 0⟩).1.old)).drew).cell? ⟨r, 6, none⟩ = some (.int .u32 s.f.a) := (H2.facts hop hl rfl rfl).2.2.2.2.1
    have hd7 : ((w1.setCell ⟨r, 7, none⟩ (.int .u32 (doA s.L ⟨1, 1, 0, 0, 0⟩).1.old)).drew).cell? ⟨r, 7, none⟩ = some (.int .u32 (doA s.L ⟨1, 1, 0, 0, 0⟩).1.old) := (H2.facts hop hl rfl rfl).2.2.2.2.2
    go_region_held3 (fun w' => w'.cell? ⟨r, 6, none⟩ = some (.int .u32 s.f.a) ∧ w'.cell? ⟨r, 7, none⟩ = some (.int .u32 (doA s.L ⟨1, 1, 0, 0, 0⟩).1.old) ∧ RunHas S0 w0 m a r rs ((s.did (doA s.L ⟨1, 1, 0, 0, 0⟩)).setB (doA s.L ⟨1, 1, 0, 0, 0⟩).1.old) w')
      (first | (go_split_ands; refine ⟨?_, ?_, ?_⟩ <;> assumption))
      (first | (go_at_call 134; (with_reducible refine (HAH.out _).mono ?_); rintro e w4 ⟨rfl, rfl⟩) | (go_at_call 135; refine (pf_own_no H2 hop hl).mono ?_; rintro e w5 ⟨rfl, rfl⟩))
    all_goals
      go_wp2_with fail
      refine (run_note H2 (by have := HC.out; first | exact Nat.le_trans this (by decide) | (simp [Rn.note, Rn.did, Rn.setA, Rn.setB, Rn.waited, Rn.goto, Rn.noted]; omega)) 5 0).mono ?_
      rintro e w3 ⟨rfl, H3⟩
      go_wp2_with fail
      refine (rn_go H3 8).mono ?_
      rintro e w4 ⟨rfl, H4⟩
      go_wp2_with fail
      (try simp only [Exit.inBlock, Exit.then]); refine bodyPost_ret (results_none rfl _ _ _) rfl ?_
      exact ⟨rfl, H4⟩
  · rw [if_neg c1]
    have d1 : decide (0 < n) = false := by simpa using c1
    clear c1
    go_enter Try.func129, Try.ntmps129
    go_wp2_with fail
    refine (rn_load HH.out 1).mono ?_
    rintro e w1 ⟨rfl, H1⟩
    obtain ⟨x0, x2, x4, x5, x6, x7⟩ := H1.facts hop hl rfl rfl
    go_wp2_with fail
    have H2 := (H1.setB (doA s.L ⟨1, 1, 0, 0, 0⟩).1.old).drew
    have hd6 : ((w1.setCell ⟨r, 7, none⟩ (.int .u32 (doA s.L ⟨1, 1, 0, 0, 0⟩).1.old)).drew).cell? ⟨r, 6, none⟩ = some (.int .u32 s.f.a) := (H2.facts hop hl rfl rfl).2.2.2.2.1
    have hd7 : ((w1.setCell ⟨r, 7, none⟩ (.int .u32 (doA s.L ⟨1, 1, 0, 0, 0⟩).1.old)).drew).cell? ⟨r, 7, none⟩ = some (.int .u32 (doA s.L ⟨1, 1, 0, 0, 0⟩).1.old) := (H2.facts hop hl rfl rfl).2.2.2.2.2
    go_region_held3 (fun w' => w'.cell? ⟨r, 6, none⟩ = some (.int .u32 s.f.a) ∧ w'.cell? ⟨r, 7, none⟩ = some (.int .u32 (doA s.L ⟨1, 1, 0, 0, 0⟩).1.old) ∧ RunHas S0 w0 m a r rs ((s.did (doA s.L ⟨1, 1, 0, 0, 0⟩)).setB (doA s.L ⟨1, 1, 0, 0, 0⟩).1.old) w')
      (first | (go_split_ands; refine ⟨?_, ?_, ?_⟩ <;> assumption))
      (first | (go_at_call 134; (with_reducible refine (HAH.out _).mono ?_); rintro e w4 ⟨rfl, rfl⟩) | (go_at_call 135; refine (pf_own_no H2 hop hl).mono ?_; rintro e w5 ⟨rfl, rfl⟩))
    all_goals
      go_wp2_with fail
      refine (rn_go H2 4).mono ?_
      rintro e w3 ⟨rfl, H3⟩
      go_wp2_with fail
      go_end0
      exact ⟨rfl, H3⟩

set_option maxHeartbeats 1600000 in
theorem pq_decide36 {S0 : List Nat} {w0 w : World} {m a r : Nat} {rs : List Res} {s : Rn} (H : RunHas S0 w0 m a r rs s w) {o l : Int} (hop : s.f.op = o) (hl : s.f.line = l) (ho : o = 6) (h0 : l = 3) (hn : I64 s.n) (ha : 0 ≤ s.f.a ∧ s.f.a < 4294967296) (hb : 0 ≤ s.f.b ∧ s.f.b < 4294967296) (hc : s.notes.length ≤ 800) :
    Calls Try.prog 102 #[.pointer (some ⟨r, 0, none⟩)] w fun e w' => e = .returned (.tuple #[]) ∧ RunHas S0 w0 m a r rs (pqIn6 s) w' := by
  obtain ⟨z0, z2, z4, z5, z6, z7⟩ := H.facts hop hl rfl rfl
  have HC := Lib.hid hc
  have HA := Lib.hid ha
  have HBB := Lib.hid hb
  have HN := Lib.hid hn
  have HH := Lib.hid H
  clear hc H hn ha hb
  subst ho h0
  go_enter Try.func102, Try.ntmps102
  go_wp2_with fail
  refine (pq_inside6 HH.out hop hl HA.out HC.out).mono ?_
  rintro e w1 ⟨rfl, H1⟩
  go_wp2_with fail
  go_end0
  exact ⟨rfl, H1⟩

def pqIn7 (s : Rn) : Rn :=
  let s1 := (s.did (doA s.L ⟨1, 1, 0, 0, 0⟩)).setB (doA s.L ⟨1, 1, 0, 0, 0⟩).1.old
  if 256 < aheadA s.f.a (doA s.L ⟨1, 1, 0, 0, 0⟩).1.old then (s1.note 5 0).goto 8 else s1.goto 4

set_option maxHeartbeats 1600000 in
theorem pq_inside7 {S0 : List Nat} {w0 w : World} {m a r : Nat} {rs : List Res} {s : Rn} (H : RunHas S0 w0 m a r rs s w) {l : Int} (hop : s.f.op = 7) (hl : s.f.line = l) (ha : 0 ≤ s.f.a ∧ s.f.a < 4294967296) (hc : s.notes.length ≤ 800) :
    Calls Try.prog 129 #[.pointer (some ⟨r, 0, none⟩)] w fun e w' => e = .returned (.tuple #[]) ∧ RunHas S0 w0 m a r rs (pqIn7 s) w' := by
  have hv := H.old ⟨1, 1, 0, 0, 0⟩
  have hah := fun W => ahead_any s.f.a (doA s.L ⟨1, 1, 0, 0, 0⟩).1.old W ha hv
  have HC := Lib.hid hc
  have HAH := Lib.hid hah
  have HH := Lib.hid H
  clear hv hah hc H ha
  unfold pqIn7
  dsimp only
  generalize aheadA s.f.a (doA s.L ⟨1, 1, 0, 0, 0⟩).1.old = n at HAH ⊢
  have hw0 : IntKind.i64.wrap 256 = 256 := by decide
  by_cases c1 : 256 < n
  · rw [if_pos c1]
    have d1 : decide (256 < n) = true := by simpa using c1
    have HD1 := Lib.hid c1
    clear c1
    go_enter Try.func129, Try.ntmps129
    go_wp2_with fail
    refine (rn_load HH.out 1).mono ?_
    rintro e w1 ⟨rfl, H1⟩
    obtain ⟨x0, x2, x4, x5, x6, x7⟩ := H1.facts hop hl rfl rfl
    go_wp2_with fail
    have H2 := (H1.setB (doA s.L ⟨1, 1, 0, 0, 0⟩).1.old).drew
    have hd6 : ((w1.setCell ⟨r, 7, none⟩ (.int .u32 (doA s.L ⟨1, 1, 0, 0, 0⟩).1.old)).drew).cell? ⟨r, 6, none⟩ = some (.int .u32 s.f.a) := (H2.facts hop hl rfl rfl).2.2.2.2.1
    have hd7 : ((w1.setCell ⟨r, 7, none⟩ (.int .u32 (doA s.L ⟨1, 1, 0, 0, 0⟩).1.old)).drew).cell? ⟨r, 7, none⟩ = some (.int .u32 (doA s.L ⟨1, 1, 0, 0, 0⟩).1.old) := (H2.facts hop hl rfl rfl).2.2.2.2.2
    go_region_held3 (fun w' => w'.cell? ⟨r, 6, none⟩ = some (.int .u32 s.f.a) ∧ w'.cell? ⟨r, 7, none⟩ = some (.int .u32 (doA s.L ⟨1, 1, 0, 0, 0⟩).1.old) ∧ RunHas S0 w0 m a r rs ((s.did (doA s.L ⟨1, 1, 0, 0, 0⟩)).setB (doA s.L ⟨1, 1, 0, 0, 0⟩).1.old) w')
      (first | (go_split_ands; refine ⟨?_, ?_, ?_⟩ <;> assumption))
      (first | (go_at_call 134; (with_reducible refine (HAH.out _).mono ?_); rintro e w4 ⟨rfl, rfl⟩) | (go_at_call 135; refine (pf_own_up H2 hop hl).mono ?_; rintro e w5 ⟨rfl, rfl⟩))
    all_goals
      go_wp2_with fail
      refine (run_note H2 (by have := HC.out; first | exact Nat.le_trans this (by decide) | (simp [Rn.note, Rn.did, Rn.setA, Rn.setB, Rn.waited, Rn.goto, Rn.noted]; omega)) 5 0).mono ?_
      rintro e w3 ⟨rfl, H3⟩
      go_wp2_with fail
      refine (rn_go H3 8).mono ?_
      rintro e w4 ⟨rfl, H4⟩
      go_wp2_with fail
      (try simp only [Exit.inBlock, Exit.then]); refine bodyPost_ret (results_none rfl _ _ _) rfl ?_
      exact ⟨rfl, H4⟩
  · rw [if_neg c1]
    have d1 : decide (256 < n) = false := by simpa using c1
    clear c1
    go_enter Try.func129, Try.ntmps129
    go_wp2_with fail
    refine (rn_load HH.out 1).mono ?_
    rintro e w1 ⟨rfl, H1⟩
    obtain ⟨x0, x2, x4, x5, x6, x7⟩ := H1.facts hop hl rfl rfl
    go_wp2_with fail
    have H2 := (H1.setB (doA s.L ⟨1, 1, 0, 0, 0⟩).1.old).drew
    have hd6 : ((w1.setCell ⟨r, 7, none⟩ (.int .u32 (doA s.L ⟨1, 1, 0, 0, 0⟩).1.old)).drew).cell? ⟨r, 6, none⟩ = some (.int .u32 s.f.a) := (H2.facts hop hl rfl rfl).2.2.2.2.1
    have hd7 : ((w1.setCell ⟨r, 7, none⟩ (.int .u32 (doA s.L ⟨1, 1, 0, 0, 0⟩).1.old)).drew).cell? ⟨r, 7, none⟩ = some (.int .u32 (doA s.L ⟨1, 1, 0, 0, 0⟩).1.old) := (H2.facts hop hl rfl rfl).2.2.2.2.2
    go_region_held3 (fun w' => w'.cell? ⟨r, 6, none⟩ = some (.int .u32 s.f.a) ∧ w'.cell? ⟨r, 7, none⟩ = some (.int .u32 (doA s.L ⟨1, 1, 0, 0, 0⟩).1.old) ∧ RunHas S0 w0 m a r rs ((s.did (doA s.L ⟨1, 1, 0, 0, 0⟩)).setB (doA s.L ⟨1, 1, 0, 0, 0⟩).1.old) w')
      (first | (go_split_ands; refine ⟨?_, ?_, ?_⟩ <;> assumption))
      (first | (go_at_call 134; (with_reducible refine (HAH.out _).mono ?_); rintro e w4 ⟨rfl, rfl⟩) | (go_at_call 135; refine (pf_own_up H2 hop hl).mono ?_; rintro e w5 ⟨rfl, rfl⟩))
    all_goals
      go_wp2_with fail
      refine (rn_go H2 4).mono ?_
      rintro e w3 ⟨rfl, H3⟩
      go_wp2_with fail
      go_end0
      exact ⟨rfl, H3⟩

set_option maxHeartbeats 1600000 in
theorem pq_decide37 {S0 : List Nat} {w0 w : World} {m a r : Nat} {rs : List Res} {s : Rn} (H : RunHas S0 w0 m a r rs s w) {o l : Int} (hop : s.f.op = o) (hl : s.f.line = l) (ho : o = 7) (h0 : l = 3) (hn : I64 s.n) (ha : 0 ≤ s.f.a ∧ s.f.a < 4294967296) (hb : 0 ≤ s.f.b ∧ s.f.b < 4294967296) (hc : s.notes.length ≤ 800) :
    Calls Try.prog 102 #[.pointer (some ⟨r, 0, none⟩)] w fun e w' => e = .returned (.tuple #[]) ∧ RunHas S0 w0 m a r rs (pqIn7 s) w' := by
  obtain ⟨z0, z2, z4, z5, z6, z7⟩ := H.facts hop hl rfl rfl
  have HC := Lib.hid hc
  have HA := Lib.hid ha
  have HBB := Lib.hid hb
  have HN := Lib.hid hn
  have HH := Lib.hid H
  clear hc H hn ha hb
  subst ho h0
  go_enter Try.func102, Try.ntmps102
  go_wp2_with fail
  refine (pq_inside7 HH.out hop hl HA.out HC.out).mono ?_
  rintro e w1 ⟨rfl, H1⟩
  go_wp2_with fail
  go_end0
  exact ⟨rfl, H1⟩

def pqLast6 (s : Rn) : Rn :=
  let s1 := s.waited (waitA s.L s.n s.mode s.task s.f.st 1 (fun v => v == s.f.a))
  let s2 := if (waitA s.L s.n s.mode s.task s.f.st 1 (fun v => v == s.f.a)).seen then s1.note 4 0 else s1
  if (waitA s.L s.n s.mode s.task s.f.st 1 (fun v => v == s.f.a)).done then s2.fin true else s2

set_option maxHeartbeats 1600000 in
theorem pq_last6 {S0 : List Nat} {w0 w : World} {m a r : Nat} {rs : List Res} {s : Rn} (H : RunHas S0 w0 m a r rs s w) {l : Int} (hop : s.f.op = 6) (hl : s.f.line = l) (hn : I64 s.n) (ha : 0 ≤ s.f.a ∧ s.f.a < 4294967296) (hc : s.notes.length ≤ 800) :
    Calls Try.prog 130 #[.pointer (some ⟨r, 0, none⟩)] w fun e w' => e = .returned (.tuple #[]) ∧ RunHas S0 w0 m a r rs (pqLast6 s) w' := by
  obtain ⟨z0, z2, z4, z5, z6, z7⟩ := H.facts hop hl rfl rfl
  have HC := Lib.hid hc
  have HN := Lib.hid hn
  have HH := Lib.hid H
  clear hc H hn
  unfold pqLast6
  dsimp only
  have hwt := fun (t2 : Nat) W (H : RunHas S0 w0 m a r (.blk t2 #[.int .u32 s.f.a] :: rs) s W) => rn_wait H HN.out 1 136 #[] #[.pointer (some ⟨t2, 0, none⟩)] (fun v => v == s.f.a) (enters_of Try.func136 (by kernel_rfl) rfl) (fun W v h0 h1 H => pf_mine2 s.f.a v W H.first)
  cases hs : (waitA s.L s.n s.mode s.task s.f.st 1 (fun v => v == s.f.a)).seen <;> cases hd : (waitA s.L s.n s.mode s.task s.f.st 1 (fun v => v == s.f.a)).done <;> rw [hs, hd] at hwt <;> simp only [if_true, Bool.false_eq_true, if_false] <;> (have HWT := Lib.hid hwt) <;> clear hwt hs hd
  · go_enter Try.func130, Try.ntmps130
    go_wp2_with fail
    refine region_flat_call 5 rfl (by kernel_rfl) (by kernel_rfl) ?_
    simp only [List.take_succ_cons, List.take_zero, List.drop_succ_cons, List.drop_zero, probed, probes, List.nil_append, List.cons_append, probe]
    go_wp2_with fail
    rw [only_normal]
    refine half_static (.int .u32 0) rfl rfl (enters_of Try.func135 (by kernel_rfl) rfl) (by simp [Act.eval]) (fun W t => pf_own_no (HH.out.drew.grow t) hop hl) ?_
    simp only [probed, probes, List.nil_append, List.cons_append, probe]
    go_wp2_with fail
    rw [only_normal]
    rename_i hK
    refine hK _ _ ?_
    clear hK
    refine wp_from (Facts := fun V => RunHas S0 w0 m a r (.blk w.heap.size #[.int .u32 s.f.a] :: rs) s V) ?_ (by first | exact HH.out.drew.box rfl _ _ | exact (HH.out.box rfl _ _).drew)
    clear z0 z2 z4 z5 z6 z7
    intro W HW2
    generalize w.heap.size = tb at HW2 ⊢
    obtain ⟨z0, z2, z4, z5, z6, z7⟩ := HW2.facts hop hl rfl rfl
    go_wp2_with fail
    refine (HWT.out _ _ HW2).mono ?_
    rintro e w1 ⟨rfl, H1⟩
    go_wp2_with fail
    go_end0
    exact ⟨rfl, H1.unbox⟩
  · go_enter Try.func130, Try.ntmps130
    go_wp2_with fail
    refine region_flat_call 5 rfl (by kernel_rfl) (by kernel_rfl) ?_
    simp only [List.take_succ_cons, List.take_zero, List.drop_succ_cons, List.drop_zero, probed, probes, List.nil_append, List.cons_append, probe]
    go_wp2_with fail
    rw [only_normal]
    refine half_static (.int .u32 0) rfl rfl (enters_of Try.func135 (by kernel_rfl) rfl) (by simp [Act.eval]) (fun W t => pf_own_no (HH.out.drew.grow t) hop hl) ?_
    simp only [probed, probes, List.nil_append, List.cons_append, probe]
    go_wp2_with fail
    rw [only_normal]
    rename_i hK
    refine hK _ _ ?_
    clear hK
    refine wp_from (Facts := fun V => RunHas S0 w0 m a r (.blk w.heap.size #[.int .u32 s.f.a] :: rs) s V) ?_ (by first | exact HH.out.drew.box rfl _ _ | exact (HH.out.box rfl _ _).drew)
    clear z0 z2 z4 z5 z6 z7
    intro W HW2
    generalize w.heap.size = tb at HW2 ⊢
    obtain ⟨z0, z2, z4, z5, z6, z7⟩ := HW2.facts hop hl rfl rfl
    go_wp2_with fail
    refine (HWT.out _ _ HW2).mono ?_
    rintro e w1 ⟨rfl, H1⟩
    go_wp2_with fail
    refine (rn_end H1 true).mono ?_
    rintro e w2 ⟨rfl, H2⟩
    go_wp2_with fail
    go_end0
    exact ⟨rfl, H2.unbox⟩
  · go_enter Try.func130, Try.ntmps130
    go_wp2_with fail
    refine region_flat_call 5 rfl (by kernel_rfl) (by kernel_rfl) ?_
    simp only [List.take_succ_cons, List.take_zero, List.drop_succ_cons, List.drop_zero, probed, probes, List.nil_append, List.cons_append, probe]
    go_wp2_with fail
    rw [only_normal]
    refine half_static (.int .u32 0) rfl rfl (enters_of Try.func135 (by kernel_rfl) rfl) (by simp [Act.eval]) (fun W t => pf_own_no (HH.out.drew.grow t) hop hl) ?_
    simp only [probed, probes, List.nil_append, List.cons_append, probe]
    go_wp2_with fail
    rw [only_normal]
    rename_i hK
    refine hK _ _ ?_
    clear hK
    refine wp_from (Facts := fun V => RunHas S0 w0 m a r (.blk w.heap.size #[.int .u32 s.f.a] :: rs) s V) ?_ (by first | exact HH.out.drew.box rfl _ _ | exact (HH.out.box rfl _ _).drew)
    clear z0 z2 z4 z5 z6 z7
    intro W HW2
    generalize w.heap.size = tb at HW2 ⊢
    obtain ⟨z0, z2, z4, z5, z6, z7⟩ := HW2.facts hop hl rfl rfl
    go_wp2_with fail
    refine (HWT.out _ _ HW2).mono ?_
    rintro e w1 ⟨rfl, H1⟩
    go_wp2_with fail
    refine (run_note H1 (by have := HC.out; first | exact Nat.le_trans this (by decide) | (simp [Rn.note, Rn.did, Rn.setA, Rn.setB, Rn.waited, Rn.goto, Rn.noted]; omega)) 4 0).mono ?_
    rintro e w2 ⟨rfl, H2⟩
    go_wp2_with fail
    go_end0
    exact ⟨rfl, H2.unbox⟩
  · go_enter Try.func130, Try.ntmps130
    go_wp2_with fail
    refine region_flat_call 5 rfl (by kernel_rfl) (by kernel_rfl) ?_
    simp only [List.take_succ_cons, List.take_zero, List.drop_succ_cons, List.drop_zero, probed, probes, List.nil_append, List.cons_append, probe]
    go_wp2_with fail
    rw [only_normal]
    refine half_static (.int .u32 0) rfl rfl (enters_of Try.func135 (by kernel_rfl) rfl) (by simp [Act.eval]) (fun W t => pf_own_no (HH.out.drew.grow t) hop hl) ?_
    simp only [probed, probes, List.nil_append, List.cons_append, probe]
    go_wp2_with fail
    rw [only_normal]
    rename_i hK
    refine hK _ _ ?_
    clear hK
    refine wp_from (Facts := fun V => RunHas S0 w0 m a r (.blk w.heap.size #[.int .u32 s.f.a] :: rs) s V) ?_ (by first | exact HH.out.drew.box rfl _ _ | exact (HH.out.box rfl _ _).drew)
    clear z0 z2 z4 z5 z6 z7
    intro W HW2
    generalize w.heap.size = tb at HW2 ⊢
    obtain ⟨z0, z2, z4, z5, z6, z7⟩ := HW2.facts hop hl rfl rfl
    go_wp2_with fail
    refine (HWT.out _ _ HW2).mono ?_
    rintro e w1 ⟨rfl, H1⟩
    go_wp2_with fail
    refine (run_note H1 (by have := HC.out; first | exact Nat.le_trans this (by decide) | (simp [Rn.note, Rn.did, Rn.setA, Rn.setB, Rn.waited, Rn.goto, Rn.noted]; omega)) 4 0).mono ?_
    rintro e w2 ⟨rfl, H2⟩
    go_wp2_with fail
    refine (rn_end H2 true).mono ?_
    rintro e w3 ⟨rfl, H3⟩
    go_wp2_with fail
    go_end0
    exact ⟨rfl, H3.unbox⟩

set_option maxHeartbeats 1600000 in
theorem pq_decide66 {S0 : List Nat} {w0 w : World} {m a r : Nat} {rs : List Res} {s : Rn} (H : RunHas S0 w0 m a r rs s w) {o l : Int} (hop : s.f.op = o) (hl : s.f.line = l) (ho : o = 6) (h0 : l = 6) (hn : I64 s.n) (ha : 0 ≤ s.f.a ∧ s.f.a < 4294967296) (hb : 0 ≤ s.f.b ∧ s.f.b < 4294967296) (hc : s.notes.length ≤ 800) :
    Calls Try.prog 102 #[.pointer (some ⟨r, 0, none⟩)] w fun e w' => e = .returned (.tuple #[]) ∧ RunHas S0 w0 m a r rs (pqLast6 s) w' := by
  obtain ⟨z0, z2, z4, z5, z6, z7⟩ := H.facts hop hl rfl rfl
  have HC := Lib.hid hc
  have HA := Lib.hid ha
  have HBB := Lib.hid hb
  have HN := Lib.hid hn
  have HH := Lib.hid H
  clear hc H hn ha hb
  subst ho h0
  go_enter Try.func102, Try.ntmps102
  go_wp2_with fail
  refine (pq_last6 HH.out hop hl HN.out HA.out HC.out).mono ?_
  rintro e w1 ⟨rfl, H1⟩
  go_wp2_with fail
  go_end0
  exact ⟨rfl, H1⟩

def pqLast7 (s : Rn) : Rn :=
  let s1 := s.waited (waitA s.L s.n s.mode s.task s.f.st 1 (fun v => v == ((s.f.a - 256) % 4294967296)))
  let s2 := if (waitA s.L s.n s.mode s.task s.f.st 1 (fun v => v == ((s.f.a - 256) % 4294967296))).seen then s1.note 9 0 else s1
  if (waitA s.L s.n s.mode s.task s.f.st 1 (fun v => v == ((s.f.a - 256) % 4294967296))).done then s2.goto 7 else s2

set_option maxHeartbeats 1600000 in
theorem pq_last7 {S0 : List Nat} {w0 w : World} {m a r : Nat} {rs : List Res} {s : Rn} (H : RunHas S0 w0 m a r rs s w) {l : Int} (hop : s.f.op = 7) (hl : s.f.line = l) (hn : I64 s.n) (ha : 0 ≤ s.f.a ∧ s.f.a < 4294967296) (hc : s.notes.length ≤ 800) :
    Calls Try.prog 130 #[.pointer (some ⟨r, 0, none⟩)] w fun e w' => e = .returned (.tuple #[]) ∧ RunHas S0 w0 m a r rs (pqLast7 s) w' := by
  obtain ⟨z0, z2, z4, z5, z6, z7⟩ := H.facts hop hl rfl rfl
  have HC := Lib.hid hc
  have HN := Lib.hid hn
  have HH := Lib.hid H
  clear hc H hn
  unfold pqLast7
  dsimp only
  have hwt := fun (t2 : Nat) W (H : RunHas S0 w0 m a r (.blk t2 #[.int .u32 ((s.f.a - 256) % 4294967296)] :: rs) s W) => rn_wait H HN.out 1 136 #[] #[.pointer (some ⟨t2, 0, none⟩)] (fun v => v == ((s.f.a - 256) % 4294967296)) (enters_of Try.func136 (by kernel_rfl) rfl) (fun W v h0 h1 H => pf_mine2 ((s.f.a - 256) % 4294967296) v W H.first)
  cases hs : (waitA s.L s.n s.mode s.task s.f.st 1 (fun v => v == ((s.f.a - 256) % 4294967296))).seen <;> cases hd : (waitA s.L s.n s.mode s.task s.f.st 1 (fun v => v == ((s.f.a - 256) % 4294967296))).done <;> rw [hs, hd] at hwt <;> simp only [if_true, Bool.false_eq_true, if_false] <;> (have HWT := Lib.hid hwt) <;> clear hwt hs hd
  · go_enter Try.func130, Try.ntmps130
    go_wp2_with fail
    refine region_flat_call 5 rfl (by kernel_rfl) (by kernel_rfl) ?_
    simp only [List.take_succ_cons, List.take_zero, List.drop_succ_cons, List.drop_zero, probed, probes, List.nil_append, List.cons_append, probe]
    go_wp2_with fail
    rw [only_normal]
    refine half_static (.int .u32 256) rfl rfl (enters_of Try.func135 (by kernel_rfl) rfl) (by simp [Act.eval]) (fun W t => pf_own_up (HH.out.drew.grow t) hop hl) ?_
    simp only [probed, probes, List.nil_append, List.cons_append, probe]
    go_wp2_with fail
    rw [only_normal]
    rename_i hK
    refine hK _ _ ?_
    clear hK
    refine wp_from (Facts := fun V => RunHas S0 w0 m a r (.blk w.heap.size #[.int .u32 ((s.f.a - 256) % 4294967296)] :: rs) s V) ?_ (by first | exact HH.out.drew.box rfl _ _ | exact (HH.out.box rfl _ _).drew)
    clear z0 z2 z4 z5 z6 z7
    intro W HW2
    generalize w.heap.size = tb at HW2 ⊢
    obtain ⟨z0, z2, z4, z5, z6, z7⟩ := HW2.facts hop hl rfl rfl
    go_wp2_with fail
    refine (HWT.out _ _ HW2).mono ?_
    rintro e w1 ⟨rfl, H1⟩
    go_wp2_with fail
    go_end0
    exact ⟨rfl, H1.unbox⟩
  · go_enter Try.func130, Try.ntmps130
    go_wp2_with fail
    refine region_flat_call 5 rfl (by kernel_rfl) (by kernel_rfl) ?_
    simp only [List.take_succ_cons, List.take_zero, List.drop_succ_cons, List.drop_zero, probed, probes, List.nil_append, List.cons_append, probe]
    go_wp2_with fail
    rw [only_normal]
    refine half_static (.int .u32 256) rfl rfl (enters_of Try.func135 (by kernel_rfl) rfl) (by simp [Act.eval]) (fun W t => pf_own_up (HH.out.drew.grow t) hop hl) ?_
    simp only [probed, probes, List.nil_append, List.cons_append, probe]
    go_wp2_with fail
    rw [only_normal]
    rename_i hK
    refine hK _ _ ?_
    clear hK
    refine wp_from (Facts := fun V => RunHas S0 w0 m a r (.blk w.heap.size #[.int .u32 ((s.f.a - 256) % 4294967296)] :: rs) s V) ?_ (by first | exact HH.out.drew.box rfl _ _ | exact (HH.out.box rfl _ _).drew)
    clear z0 z2 z4 z5 z6 z7
    intro W HW2
    generalize w.heap.size = tb at HW2 ⊢
    obtain ⟨z0, z2, z4, z5, z6, z7⟩ := HW2.facts hop hl rfl rfl
    go_wp2_with fail
    refine (HWT.out _ _ HW2).mono ?_
    rintro e w1 ⟨rfl, H1⟩
    go_wp2_with fail
    refine (rn_go H1 7).mono ?_
    rintro e w2 ⟨rfl, H2⟩
    go_wp2_with fail
    go_end0
    exact ⟨rfl, H2.unbox⟩
  · go_enter Try.func130, Try.ntmps130
    go_wp2_with fail
    refine region_flat_call 5 rfl (by kernel_rfl) (by kernel_rfl) ?_
    simp only [List.take_succ_cons, List.take_zero, List.drop_succ_cons, List.drop_zero, probed, probes, List.nil_append, List.cons_append, probe]
    go_wp2_with fail
    rw [only_normal]
    refine half_static (.int .u32 256) rfl rfl (enters_of Try.func135 (by kernel_rfl) rfl) (by simp [Act.eval]) (fun W t => pf_own_up (HH.out.drew.grow t) hop hl) ?_
    simp only [probed, probes, List.nil_append, List.cons_append, probe]
    go_wp2_with fail
    rw [only_normal]
    rename_i hK
    refine hK _ _ ?_
    clear hK
    refine wp_from (Facts := fun V => RunHas S0 w0 m a r (.blk w.heap.size #[.int .u32 ((s.f.a - 256) % 4294967296)] :: rs) s V) ?_ (by first | exact HH.out.drew.box rfl _ _ | exact (HH.out.box rfl _ _).drew)
    clear z0 z2 z4 z5 z6 z7
    intro W HW2
    generalize w.heap.size = tb at HW2 ⊢
    obtain ⟨z0, z2, z4, z5, z6, z7⟩ := HW2.facts hop hl rfl rfl
    go_wp2_with fail
    refine (HWT.out _ _ HW2).mono ?_
    rintro e w1 ⟨rfl, H1⟩
    go_wp2_with fail
    refine (run_note H1 (by have := HC.out; first | exact Nat.le_trans this (by decide) | (simp [Rn.note, Rn.did, Rn.setA, Rn.setB, Rn.waited, Rn.goto, Rn.noted]; omega)) 9 0).mono ?_
    rintro e w2 ⟨rfl, H2⟩
    go_wp2_with fail
    go_end0
    exact ⟨rfl, H2.unbox⟩
  · go_enter Try.func130, Try.ntmps130
    go_wp2_with fail
    refine region_flat_call 5 rfl (by kernel_rfl) (by kernel_rfl) ?_
    simp only [List.take_succ_cons, List.take_zero, List.drop_succ_cons, List.drop_zero, probed, probes, List.nil_append, List.cons_append, probe]
    go_wp2_with fail
    rw [only_normal]
    refine half_static (.int .u32 256) rfl rfl (enters_of Try.func135 (by kernel_rfl) rfl) (by simp [Act.eval]) (fun W t => pf_own_up (HH.out.drew.grow t) hop hl) ?_
    simp only [probed, probes, List.nil_append, List.cons_append, probe]
    go_wp2_with fail
    rw [only_normal]
    rename_i hK
    refine hK _ _ ?_
    clear hK
    refine wp_from (Facts := fun V => RunHas S0 w0 m a r (.blk w.heap.size #[.int .u32 ((s.f.a - 256) % 4294967296)] :: rs) s V) ?_ (by first | exact HH.out.drew.box rfl _ _ | exact (HH.out.box rfl _ _).drew)
    clear z0 z2 z4 z5 z6 z7
    intro W HW2
    generalize w.heap.size = tb at HW2 ⊢
    obtain ⟨z0, z2, z4, z5, z6, z7⟩ := HW2.facts hop hl rfl rfl
    go_wp2_with fail
    refine (HWT.out _ _ HW2).mono ?_
    rintro e w1 ⟨rfl, H1⟩
    go_wp2_with fail
    refine (run_note H1 (by have := HC.out; first | exact Nat.le_trans this (by decide) | (simp [Rn.note, Rn.did, Rn.setA, Rn.setB, Rn.waited, Rn.goto, Rn.noted]; omega)) 9 0).mono ?_
    rintro e w2 ⟨rfl, H2⟩
    go_wp2_with fail
    refine (rn_go H2 7).mono ?_
    rintro e w3 ⟨rfl, H3⟩
    go_wp2_with fail
    go_end0
    exact ⟨rfl, H3.unbox⟩

set_option maxHeartbeats 1600000 in
theorem pq_decide67 {S0 : List Nat} {w0 w : World} {m a r : Nat} {rs : List Res} {s : Rn} (H : RunHas S0 w0 m a r rs s w) {o l : Int} (hop : s.f.op = o) (hl : s.f.line = l) (ho : o = 7) (h0 : l = 6) (hn : I64 s.n) (ha : 0 ≤ s.f.a ∧ s.f.a < 4294967296) (hb : 0 ≤ s.f.b ∧ s.f.b < 4294967296) (hc : s.notes.length ≤ 800) :
    Calls Try.prog 102 #[.pointer (some ⟨r, 0, none⟩)] w fun e w' => e = .returned (.tuple #[]) ∧ RunHas S0 w0 m a r rs (pqLast7 s) w' := by
  obtain ⟨z0, z2, z4, z5, z6, z7⟩ := H.facts hop hl rfl rfl
  have HC := Lib.hid hc
  have HA := Lib.hid ha
  have HBB := Lib.hid hb
  have HN := Lib.hid hn
  have HH := Lib.hid H
  clear hc H hn ha hb
  subst ho h0
  go_enter Try.func102, Try.ntmps102
  go_wp2_with fail
  refine (pq_last7 HH.out hop hl HN.out HA.out HC.out).mono ?_
  rintro e w1 ⟨rfl, H1⟩
  go_wp2_with fail
  go_end0
  exact ⟨rfl, H1⟩

set_option maxHeartbeats 1600000 in
theorem pq_decide77 {S0 : List Nat} {w0 w : World} {m a r : Nat} {rs : List Res} {s : Rn} (H : RunHas S0 w0 m a r rs s w) {o l : Int} (hop : s.f.op = o) (hl : s.f.line = l) (ho : o = 7) (h0 : l = 7) (hn : I64 s.n) (ha : 0 ≤ s.f.a ∧ s.f.a < 4294967296) (hb : 0 ≤ s.f.b ∧ s.f.b < 4294967296) (hc : s.notes.length ≤ 800) :
    Calls Try.prog 102 #[.pointer (some ⟨r, 0, none⟩)] w fun e w' => e = .returned (.tuple #[]) ∧ RunHas S0 w0 m a r rs ((s.did (doA s.L ⟨3, 1, 256, 0, 0⟩)).fin true) w' := by
  obtain ⟨z0, z2, z4, z5, z6, z7⟩ := H.facts hop hl rfl rfl
  have HC := Lib.hid hc
  have HA := Lib.hid ha
  have HBB := Lib.hid hb
  have HN := Lib.hid hn
  have HH := Lib.hid H
  clear hc H hn ha hb
  subst ho h0
  go_enter Try.func102, Try.ntmps102
  go_wp2_with fail
  refine (rn_add HH.out 1 256 (by decide)).mono ?_
  rintro e w1 ⟨rfl, H1⟩
  go_wp2_with fail
  refine (rn_end H1 true).mono ?_
  rintro e w2 ⟨rfl, H2⟩
  go_wp2_with fail
  go_end0
  exact ⟨rfl, H2⟩

set_option maxHeartbeats 1600000 in
theorem pq_decide76 {S0 : List Nat} {w0 w : World} {m a r : Nat} {rs : List Res} {s : Rn} (H : RunHas S0 w0 m a r rs s w) {o l : Int} (hop : s.f.op = o) (hl : s.f.line = l) (ho : o = 6) (h0 : l = 7) (hn : I64 s.n) (ha : 0 ≤ s.f.a ∧ s.f.a < 4294967296) (hb : 0 ≤ s.f.b ∧ s.f.b < 4294967296) (hc : s.notes.length ≤ 800) :
    Calls Try.prog 102 #[.pointer (some ⟨r, 0, none⟩)] w fun e w' => e = .returned (.tuple #[]) ∧ RunHas S0 w0 m a r rs s w' := by
  obtain ⟨z0, z2, z4, z5, z6, z7⟩ := H.facts hop hl rfl rfl
  have HC := Lib.hid hc
  have HA := Lib.hid ha
  have HBB := Lib.hid hb
  have HN := Lib.hid hn
  have HH := Lib.hid H
  clear hc H hn ha hb
  subst ho h0
  go_enter Try.func102, Try.ntmps102
  go_wp2_with fail
  go_end0
  exact ⟨rfl, HH.out⟩

set_option maxHeartbeats 1600000 in
theorem pq_decideG {S0 : List Nat} {w0 w : World} {m a r : Nat} {rs : List Res} {s : Rn} (H : RunHas S0 w0 m a r rs s w) {o l : Int} (hop : s.f.op = o) (hl : s.f.line = l) (h2 : ¬ l = 2) (h3 : ¬ l = 3) (h4 : ¬ l = 4) (h5 : ¬ l = 5) (h6 : ¬ l = 6) (h7 : ¬ l = 7) (hn : I64 s.n) (ha : 0 ≤ s.f.a ∧ s.f.a < 4294967296) (hb : 0 ≤ s.f.b ∧ s.f.b < 4294967296) (hc : s.notes.length ≤ 800) :
    Calls Try.prog 102 #[.pointer (some ⟨r, 0, none⟩)] w fun e w' => e = .returned (.tuple #[]) ∧ RunHas S0 w0 m a r rs (pqGive 8 false s) w' := by
  obtain ⟨z0, z2, z4, z5, z6, z7⟩ := H.facts hop hl rfl rfl
  have HC := Lib.hid hc
  have HA := Lib.hid ha
  have HBB := Lib.hid hb
  have HN := Lib.hid hn
  have HH := Lib.hid H
  clear hc H hn ha hb
  have j2 : (l == 2) = false := by simpa using h2
  have j3 : (l == 3) = false := by simpa using h3
  have j4 : (l == 4) = false := by simpa using h4
  have j5 : (l == 5) = false := by simpa using h5
  have j6 : (l == 6) = false := by simpa using h6
  have j7 : (l == 7) = false := by simpa using h7
  have he := fun (g : Nat) W (HX : RunHas S0 w0 m a r (.blk g (i64s [8]).toArray :: rs) s W) => mx_give (c := 1) 2 8 (nl := [8]) (nn := 1) rfl (by decide) (by have := HC.out; simp; omega) HX HN.out HA.out
  unfold pqGive
  generalize mxGive 2 8 [8] s = R at he ⊢
  obtain ⟨b, s1⟩ := R
  have HE := Lib.hid he
  clear he
  cases b with
  | true =>
    go_enter Try.func102, Try.ntmps102
    go_wp2_with fail
    refine (HE.out _ _ (HH.out.box rfl _ _)).mono ?_
    rintro e w7 ⟨rfl, H7⟩
    go_wp2_with fail
    refine (rn_end H7 false).mono ?_
    rintro e w8 ⟨rfl, H8⟩
    go_wp2_with fail
    go_end0
    exact ⟨rfl, H8.unbox⟩
  | false =>
    go_enter Try.func102, Try.ntmps102
    go_wp2_with fail
    refine (HE.out _ _ (HH.out.box rfl _ _)).mono ?_
    rintro e w7 ⟨rfl, H7⟩
    go_wp2_with fail
    go_end0
    exact ⟨rfl, H7.unbox⟩

def pqDecide (s : Rn) : Rn :=
  if s.f.line = 2 then (((s.did (doA s.L ⟨1, 0, 0, 0, 0⟩)).setA (doA s.L ⟨1, 0, 0, 0, 0⟩).1.old).goto 3)
  else if s.f.line = 3 then (if s.f.op = 7 then pqIn7 s else pqIn6 s)
  else if s.f.line = 4 then (((s.did (doA s.L ⟨1, 3, 0, 0, 0⟩)).setB (doA s.L ⟨1, 3, 0, 0, 0⟩).1.old).goto 5)
  else if s.f.line = 5 then ((((s.did (doA s.L ⟨3, 0, pfP s.f.b, 0, 0⟩)).setA (doA s.L ⟨3, 0, pfP s.f.b, 0, 0⟩).1.old).note 3 0).goto 6)
  else if s.f.line = 6 then (if s.f.op = 7 then pqLast7 s else pqLast6 s)
  else if s.f.line = 7 then (if s.f.op = 7 then (s.did (doA s.L ⟨3, 1, 256, 0, 0⟩)).fin true else s)
  else pqGive 8 false s
theorem pq_decide {S0 : List Nat} {w0 w : World} {m a r : Nat} {rs : List Res} {s : Rn} (H : RunHas S0 w0 m a r rs s w) (ho : s.f.op = 6 ∨ s.f.op = 7) (hn : I64 s.n) (ha : 0 ≤ s.f.a ∧ s.f.a < 4294967296) (hb : 0 ≤ s.f.b ∧ s.f.b < 4294967296) (hc : s.notes.length ≤ 800) : Calls Try.prog 102 #[.pointer (some ⟨r, 0, none⟩)] w fun e w' => e = .returned (.tuple #[]) ∧ RunHas S0 w0 m a r rs (pqDecide s) w' := by
  unfold pqDecide
  split
  · exact pq_decide2 H rfl rfl (by assumption) hn ha hb hc
  split
  · split
    · exact pq_decide37 H rfl rfl (by assumption) (by assumption) hn ha hb hc
    · exact pq_decide36 H rfl rfl (by omega) (by assumption) hn ha hb hc
  split
  · exact pq_decide4 H rfl rfl (by assumption) hn ha hb hc
  split
  · exact pq_decide5 H rfl rfl (by assumption) hn ha hb hc
  split
  · split
    · exact pq_decide67 H rfl rfl (by assumption) (by assumption) hn ha hb hc
    · exact pq_decide66 H rfl rfl (by omega) (by assumption) hn ha hb hc
  split
  · split
    · exact pq_decide77 H rfl rfl (by assumption) (by assumption) hn ha hb hc
    · exact pq_decide76 H rfl rfl (by omega) (by assumption) hn ha hb hc
  · exact pq_decideG H rfl rfl (by assumption) (by assumption) (by assumption) (by assumption) (by assumption) (by assumption) hn ha hb hc

end Go.Proofs.Ytbcppehpfckgoaa.Z

/- Package pq: its lines, whole. Written by genpq.py. -/
set_option linter.unusedVariables false
set_option linter.unusedSimpArgs false
namespace Go.Proofs.Ytbcppehpfckgoaa.Z
open Go.RowKit

attribute [local go_sem ↓] Go.wp_at_zero Go.wp_at_succ

theorem pq_reads {S0 : List Nat} {w0 w : World} {m a r : Nat} {rs : List Res} {s s2 : Rn} (H : RunHas S0 w0 m a r rs s w)
    (hr : ∀ W, RunHas S0 w0 m a r rs s W → Calls Try.prog 98 #[.pointer (some ⟨r, 0, none⟩), .int .i64 0, .int .i64 1] W fun e w' => e = .returned (.bool true) ∧ RunHas S0 w0 m a r rs s2 w') :
    Calls Try.prog 64 #[.pointer (some ⟨r, 0, none⟩)] w fun e w' => e = .returned (.tuple #[]) ∧ RunHas S0 w0 m a r rs s2 w' := by
  have HR := Lib.hid hr
  have HH := Lib.hid H
  clear hr H
  go_enter Try.func64, Try.ntmps64
  go_wp2_with fail
  refine (HR.out _ HH.out).mono ?_
  rintro e w1 ⟨rfl, H1⟩
  go_wp2_with fail
  (try simp only [Exit.inBlock, Exit.then]); refine bodyPost_ret (results_none rfl _ _ _) rfl ?_
  exact ⟨rfl, H1⟩

set_option maxHeartbeats 1600000 in
theorem pq_line_0 {S0 : List Nat} {w0 w : World} {m a r : Nat} {rs : List Res} {s : Rn} (H : RunHas S0 w0 m a r rs s w) {o l : Int} (hop : s.f.op = o) (hl : s.f.line = l) (ho : o = 3) (hn : I64 s.n) (ha : 0 ≤ s.f.a ∧ s.f.a < 4294967296) (hb : 0 ≤ s.f.b ∧ s.f.b < 4294967296) (hc : s.notes.length ≤ 800) :
    Calls Try.prog 64 #[.pointer (some ⟨r, 0, none⟩)] w fun e w' => e = .returned (.tuple #[]) ∧ RunHas S0 w0 m a r rs (pqLock s) w' := by
  obtain ⟨z0, z2, z4, z5, z6, z7⟩ := H.facts hop hl rfl rfl
  have HC := Lib.hid hc
  have HA := Lib.hid ha
  have HBB := Lib.hid hb
  have HN := Lib.hid hn
  have HH := Lib.hid H
  clear hc H hn ha hb
  subst ho
  go_enter Try.func64, Try.ntmps64
  go_wp2_with fail
  refine (pf_r_none HH.out hop hl (by omega) (by omega) (by omega) (by omega) (by omega)).mono ?_
  rintro e w1 ⟨rfl, H1⟩
  clear z0 z2 z4 z5 z6 z7
  obtain ⟨z0, z2, z4, z5, z6, z7⟩ := H1.facts hop hl rfl rfl
  go_wp2_with fail
  refine (pq_lock H1 HN.out HA.out HBB.out HC.out).mono ?_
  rintro e w2 ⟨rfl, H2⟩
  go_wp2_with fail
  go_end0
  exact ⟨rfl, H2⟩

set_option maxHeartbeats 1600000 in
theorem pq_line_1 {S0 : List Nat} {w0 w : World} {m a r : Nat} {rs : List Res} {s : Rn} (H : RunHas S0 w0 m a r rs s w) {o l : Int} (hop : s.f.op = o) (hl : s.f.line = l) (ho : o = 4) (hn : I64 s.n) (ha : 0 ≤ s.f.a ∧ s.f.a < 4294967296) (hb : 0 ≤ s.f.b ∧ s.f.b < 4294967296) (hc : s.notes.length ≤ 800) :
    Calls Try.prog 64 #[.pointer (some ⟨r, 0, none⟩)] w fun e w' => e = .returned (.tuple #[]) ∧ RunHas S0 w0 m a r rs (pqLeave s) w' := by
  obtain ⟨z0, z2, z4, z5, z6, z7⟩ := H.facts hop hl rfl rfl
  have HC := Lib.hid hc
  have HA := Lib.hid ha
  have HBB := Lib.hid hb
  have HN := Lib.hid hn
  have HH := Lib.hid H
  clear hc H hn ha hb
  subst ho
  go_enter Try.func64, Try.ntmps64
  go_wp2_with fail
  refine (pf_r_none HH.out hop hl (by omega) (by omega) (by omega) (by omega) (by omega)).mono ?_
  rintro e w1 ⟨rfl, H1⟩
  clear z0 z2 z4 z5 z6 z7
  obtain ⟨z0, z2, z4, z5, z6, z7⟩ := H1.facts hop hl rfl rfl
  go_wp2_with fail
  refine (pq_leave H1 HN.out HA.out HBB.out HC.out).mono ?_
  rintro e w2 ⟨rfl, H2⟩
  go_wp2_with fail
  go_end0
  exact ⟨rfl, H2⟩

set_option maxHeartbeats 1600000 in
theorem pq_line_2 {S0 : List Nat} {w0 w : World} {m a r : Nat} {rs : List Res} {s : Rn} (H : RunHas S0 w0 m a r rs s w) {o l : Int} (hop : s.f.op = o) (hl : s.f.line = l) (ho : o = 8) (hn : I64 s.n) (ha : 0 ≤ s.f.a ∧ s.f.a < 4294967296) (hb : 0 ≤ s.f.b ∧ s.f.b < 4294967296) (hc : s.notes.length ≤ 800) :
    Calls Try.prog 64 #[.pointer (some ⟨r, 0, none⟩)] w fun e w' => e = .returned (.tuple #[]) ∧ RunHas S0 w0 m a r rs (pqLeave s) w' := by
  obtain ⟨z0, z2, z4, z5, z6, z7⟩ := H.facts hop hl rfl rfl
  have HC := Lib.hid hc
  have HA := Lib.hid ha
  have HBB := Lib.hid hb
  have HN := Lib.hid hn
  have HH := Lib.hid H
  clear hc H hn ha hb
  subst ho
  go_enter Try.func64, Try.ntmps64
  go_wp2_with fail
  refine (pf_r_none HH.out hop hl (by omega) (by omega) (by omega) (by omega) (by omega)).mono ?_
  rintro e w1 ⟨rfl, H1⟩
  clear z0 z2 z4 z5 z6 z7
  obtain ⟨z0, z2, z4, z5, z6, z7⟩ := H1.facts hop hl rfl rfl
  go_wp2_with fail
  refine (pq_leave H1 HN.out HA.out HBB.out HC.out).mono ?_
  rintro e w2 ⟨rfl, H2⟩
  go_wp2_with fail
  go_end0
  exact ⟨rfl, H2⟩

set_option maxHeartbeats 1600000 in
theorem pq_line_3 {S0 : List Nat} {w0 w : World} {m a r : Nat} {rs : List Res} {s : Rn} (H : RunHas S0 w0 m a r rs s w) {o l : Int} (hop : s.f.op = o) (hl : s.f.line = l) (ho : o = 6) (hle : l ≤ 1) (hn : I64 s.n) (ha : 0 ≤ s.f.a ∧ s.f.a < 4294967296) (hb : 0 ≤ s.f.b ∧ s.f.b < 4294967296) (hc : s.notes.length ≤ 800) :
    Calls Try.prog 64 #[.pointer (some ⟨r, 0, none⟩)] w fun e w' => e = .returned (.tuple #[]) ∧ RunHas S0 w0 m a r rs (pqTry s) w' := by
  obtain ⟨z0, z2, z4, z5, z6, z7⟩ := H.facts hop hl rfl rfl
  have HC := Lib.hid hc
  have HA := Lib.hid ha
  have HBB := Lib.hid hb
  have HN := Lib.hid hn
  have HH := Lib.hid H
  clear hc H hn ha hb
  subst ho
  go_enter Try.func64, Try.ntmps64
  go_wp2_with fail
  refine (pf_r_none HH.out hop hl (by omega) (by omega) (by omega) (by omega) (by omega)).mono ?_
  rintro e w1 ⟨rfl, H1⟩
  clear z0 z2 z4 z5 z6 z7
  obtain ⟨z0, z2, z4, z5, z6, z7⟩ := H1.facts hop hl rfl rfl
  go_wp2_with fail
  refine (pq_try H1 HN.out HA.out HBB.out HC.out).mono ?_
  rintro e w2 ⟨rfl, H2⟩
  go_wp2_with fail
  go_end0
  exact ⟨rfl, H2⟩

set_option maxHeartbeats 1600000 in
theorem pq_line_4 {S0 : List Nat} {w0 w : World} {m a r : Nat} {rs : List Res} {s : Rn} (H : RunHas S0 w0 m a r rs s w) {o l : Int} (hop : s.f.op = o) (hl : s.f.line = l) (ho : o = 6) (hle : 1 < l) (hn : I64 s.n) (ha : 0 ≤ s.f.a ∧ s.f.a < 4294967296) (hb : 0 ≤ s.f.b ∧ s.f.b < 4294967296) (hc : s.notes.length ≤ 800) :
    Calls Try.prog 64 #[.pointer (some ⟨r, 0, none⟩)] w fun e w' => e = .returned (.tuple #[]) ∧ RunHas S0 w0 m a r rs (pqDecide s) w' := by
  obtain ⟨z0, z2, z4, z5, z6, z7⟩ := H.facts hop hl rfl rfl
  have HC := Lib.hid hc
  have HA := Lib.hid ha
  have HBB := Lib.hid hb
  have HN := Lib.hid hn
  have HH := Lib.hid H
  clear hc H hn ha hb
  subst ho
  go_enter Try.func64, Try.ntmps64
  go_wp2_with fail
  refine (pf_r_none HH.out hop hl (by omega) (by omega) (by omega) (by omega) (by omega)).mono ?_
  rintro e w1 ⟨rfl, H1⟩
  clear z0 z2 z4 z5 z6 z7
  obtain ⟨z0, z2, z4, z5, z6, z7⟩ := H1.facts hop hl rfl rfl
  go_wp2_with fail
  refine (pq_decide H1 (by rw [hop]; decide) HN.out HA.out HBB.out HC.out).mono ?_
  rintro e w2 ⟨rfl, H2⟩
  go_wp2_with fail
  go_end0
  exact ⟨rfl, H2⟩

set_option maxHeartbeats 1600000 in
theorem pq_line_5 {S0 : List Nat} {w0 w : World} {m a r : Nat} {rs : List Res} {s : Rn} (H : RunHas S0 w0 m a r rs s w) {o l : Int} (hop : s.f.op = o) (hl : s.f.line = l) (ho : o = 7) (hle : l ≤ 1) (hn : I64 s.n) (ha : 0 ≤ s.f.a ∧ s.f.a < 4294967296) (hb : 0 ≤ s.f.b ∧ s.f.b < 4294967296) (hc : s.notes.length ≤ 800) :
    Calls Try.prog 64 #[.pointer (some ⟨r, 0, none⟩)] w fun e w' => e = .returned (.tuple #[]) ∧ RunHas S0 w0 m a r rs (pqTry s) w' := by
  obtain ⟨z0, z2, z4, z5, z6, z7⟩ := H.facts hop hl rfl rfl
  have HC := Lib.hid hc
  have HA := Lib.hid ha
  have HBB := Lib.hid hb
  have HN := Lib.hid hn
  have HH := Lib.hid H
  clear hc H hn ha hb
  subst ho
  go_enter Try.func64, Try.ntmps64
  go_wp2_with fail
  refine (pf_r_none HH.out hop hl (by omega) (by omega) (by omega) (by omega) (by omega)).mono ?_
  rintro e w1 ⟨rfl, H1⟩
  clear z0 z2 z4 z5 z6 z7
  obtain ⟨z0, z2, z4, z5, z6, z7⟩ := H1.facts hop hl rfl rfl
  go_wp2_with fail
  refine (pq_try H1 HN.out HA.out HBB.out HC.out).mono ?_
  rintro e w2 ⟨rfl, H2⟩
  go_wp2_with fail
  go_end0
  exact ⟨rfl, H2⟩

set_option maxHeartbeats 1600000 in
theorem pq_line_6 {S0 : List Nat} {w0 w : World} {m a r : Nat} {rs : List Res} {s : Rn} (H : RunHas S0 w0 m a r rs s w) {o l : Int} (hop : s.f.op = o) (hl : s.f.line = l) (ho : o = 7) (hle : 1 < l) (hn : I64 s.n) (ha : 0 ≤ s.f.a ∧ s.f.a < 4294967296) (hb : 0 ≤ s.f.b ∧ s.f.b < 4294967296) (hc : s.notes.length ≤ 800) :
    Calls Try.prog 64 #[.pointer (some ⟨r, 0, none⟩)] w fun e w' => e = .returned (.tuple #[]) ∧ RunHas S0 w0 m a r rs (pqDecide s) w' := by
  obtain ⟨z0, z2, z4, z5, z6, z7⟩ := H.facts hop hl rfl rfl
  have HC := Lib.hid hc
  have HA := Lib.hid ha
  have HBB := Lib.hid hb
  have HN := Lib.hid hn
  have HH := Lib.hid H
  clear hc H hn ha hb
  subst ho
  go_enter Try.func64, Try.ntmps64
  go_wp2_with fail
  refine (pf_r_none HH.out hop hl (by omega) (by omega) (by omega) (by omega) (by omega)).mono ?_
  rintro e w1 ⟨rfl, H1⟩
  clear z0 z2 z4 z5 z6 z7
  obtain ⟨z0, z2, z4, z5, z6, z7⟩ := H1.facts hop hl rfl rfl
  go_wp2_with fail
  refine (pq_decide H1 (by rw [hop]; decide) HN.out HA.out HBB.out HC.out).mono ?_
  rintro e w2 ⟨rfl, H2⟩
  go_wp2_with fail
  go_end0
  exact ⟨rfl, H2⟩

set_option maxHeartbeats 1600000 in
theorem pq_line_7 {S0 : List Nat} {w0 w : World} {m a r : Nat} {rs : List Res} {s : Rn} (H : RunHas S0 w0 m a r rs s w) {o l : Int} (hop : s.f.op = o) (hl : s.f.line = l) (h0 : ¬ (o = 1 ∧ l = 0)) (h1 : ¬ (o = 1 ∧ l = 1)) (h2 : ¬ (o = 2 ∧ l = 0)) (h3 : ¬ (o = 5 ∧ l = 0)) (h4 : ¬ (o = 5 ∧ l = 1)) (k3 : ¬ o = 3) (k4 : ¬ o = 4) (k8 : ¬ o = 8) (k6 : ¬ o = 6) (k7 : ¬ o = 7) (hn : I64 s.n) (ha : 0 ≤ s.f.a ∧ s.f.a < 4294967296) (hb : 0 ≤ s.f.b ∧ s.f.b < 4294967296) (hc : s.notes.length ≤ 800) :
    Calls Try.prog 64 #[.pointer (some ⟨r, 0, none⟩)] w fun e w' => e = .returned (.tuple #[]) ∧ RunHas S0 w0 m a r rs (s) w' := by
  obtain ⟨z0, z2, z4, z5, z6, z7⟩ := H.facts hop hl rfl rfl
  have HC := Lib.hid hc
  have HA := Lib.hid ha
  have HBB := Lib.hid hb
  have HN := Lib.hid hn
  have HH := Lib.hid H
  clear hc H hn ha hb
  have j3 : (o == 3) = false := by simpa using k3
  have j4 : (o == 4) = false := by simpa using k4
  have j8 : (o == 8) = false := by simpa using k8
  have j6 : (o == 6) = false := by simpa using k6
  have j7 : (o == 7) = false := by simpa using k7
  go_enter Try.func64, Try.ntmps64
  go_wp2_with fail
  refine (pf_r_none HH.out hop hl h0 h1 h2 h3 h4).mono ?_
  rintro e w1 ⟨rfl, H1⟩
  clear z0 z2 z4 z5 z6 z7
  obtain ⟨z0, z2, z4, z5, z6, z7⟩ := H1.facts hop hl rfl rfl
  go_wp2_with fail
  go_end0
  exact ⟨rfl, H1⟩

/-- A step's lines of the phase-fair lock with a queue. -/
def pqA (s : Rn) : Rn := if s.f.op = 1 ∧ s.f.line = 0 then pfR10 s else if s.f.op = 1 ∧ s.f.line = 1 then pfR11 s else if s.f.op = 2 ∧ s.f.line = 0 then pfR20 s else if s.f.op = 5 ∧ s.f.line = 0 then pfR50 s else if s.f.op = 5 ∧ s.f.line = 1 then pfR51 s else if s.f.op = 3 then pqLock s else if s.f.op = 4 then pqLeave s else if s.f.op = 8 then pqLeave s
  else if s.f.op = 6 then (if s.f.line ≤ 1 then pqTry s else pqDecide s) else if s.f.op = 7 then (if s.f.line ≤ 1 then pqTry s else pqDecide s) else s
theorem pq_lines {S0 : List Nat} {w0 w : World} {m a r : Nat} {rs : List Res} {s : Rn} (H : RunHas S0 w0 m a r rs s w) (hn : I64 s.n) (ha : 0 ≤ s.f.a ∧ s.f.a < 4294967296) (hb : 0 ≤ s.f.b ∧ s.f.b < 4294967296) (hc : s.notes.length ≤ 800) : Calls Try.prog 64 #[.pointer (some ⟨r, 0, none⟩)] w fun e w' => e = .returned (.tuple #[]) ∧ RunHas S0 w0 m a r rs (pqA s) w' := by
  unfold pqA
  by_cases h10 : s.f.op = 1 ∧ s.f.line = 0
  · rw [if_pos h10]; exact pq_reads H (fun W HW => pf_r10 HW h10.1 h10.2 hn ha (by omega))
  rw [if_neg h10]
  by_cases h11 : s.f.op = 1 ∧ s.f.line = 1
  · rw [if_pos h11]; exact pq_reads H (fun W HW => pf_r11 HW h11.1 h11.2 hn ha (by omega))
  rw [if_neg h11]
  by_cases h20 : s.f.op = 2 ∧ s.f.line = 0
  · rw [if_pos h20]; exact pq_reads H (fun W HW => pf_r20 HW h20.1 h20.2 hn ha (by omega))
  rw [if_neg h20]
  by_cases h50 : s.f.op = 5 ∧ s.f.line = 0
  · rw [if_pos h50]; exact pq_reads H (fun W HW => pf_r50 HW h50.1 h50.2 hn ha (by omega))
  rw [if_neg h50]
  by_cases h51 : s.f.op = 5 ∧ s.f.line = 1
  · rw [if_pos h51]; exact pq_reads H (fun W HW => pf_r51 HW h51.1 h51.2 hn ha (by omega))
  rw [if_neg h51]
  split
  · exact pq_line_0 H rfl rfl (by assumption) hn ha hb hc
  split
  · exact pq_line_1 H rfl rfl (by assumption) hn ha hb hc
  split
  · exact pq_line_2 H rfl rfl (by assumption) hn ha hb hc
  split
  · split
    · exact pq_line_3 H rfl rfl (by assumption) (by assumption) hn ha hb hc
    · exact pq_line_4 H rfl rfl (by assumption) (by omega) hn ha hb hc
  split
  · split
    · exact pq_line_5 H rfl rfl (by assumption) (by assumption) hn ha hb hc
    · exact pq_line_6 H rfl rfl (by assumption) (by omega) hn ha hb hc
  · exact pq_line_7 H rfl rfl h10 h11 h20 h50 h51 (by assumption) (by assumption) (by assumption) (by assumption) (by assumption) hn ha hb hc
theorem pq_lines_nil (w : World) : Calls Try.prog 64 #[.pointer none] w fun e w' => e = .returned (.tuple #[]) ∧ Touch [] w w' := by
  go_enter Try.func64, Try.ntmps64
  go_wp2
  refine bodyPost_ret (v := .tuple #[]) (by simp [results, Try.results64, go_sem]) rfl ⟨rfl, Touch.refl _ _⟩
end Go.Proofs.Ytbcppehpfckgoaa.Z
