/- 6 texts of this claim, joined: what each shows stands at its own head. -/
import Derived.Test.YtlndihdlodempaaZM01FqSteps
import Derived.Test.YtlndihdlodempaaZM00FqSteps
import Derived.Deep.RegionHeld3
import Derived.Deep.DrawnRows
/- Package mutex: its small functions. -/
set_option linter.unusedVariables false
set_option linter.unusedSimpArgs false
namespace Go.Proofs.Ytlndihdlodempaa.Z
open Go.RowKit
attribute [local go_sem ↓] Go.wp_at_zero Go.wp_at_succ

/-- A task's number in the queue. -/
def mxOwn (s : Rn) : Int := (s.task + 1) % 4294967296
theorem mxOwn_word (s : Rn) : 0 ≤ mxOwn s ∧ mxOwn s < 4294967296 := by unfold mxOwn; omega

/-- What the walks of the mutex read. -/
theorem RunHas.sees {S0 : List Nat} {w0 w : World} {m a r : Nat} {rs : List Res} {s : Rn} (H : RunHas S0 w0 m a r rs s w) : w.cell? ⟨r, 1, none⟩ = some (.int .i64 s.n) ∧ w.cell? ⟨r, 3, none⟩ = some (.int .i64 s.task) ∧ w.cell? ⟨r, 6, none⟩ = some (.int .u32 s.f.a) :=
  ⟨(H.whose rfl rfl rfl).1, (H.whose rfl rfl rfl).2.2, (H.facts rfl rfl rfl rfl).2.2.2.2.1⟩
theorem RunHas.sees_did {S0 : List Nat} {w0 w : World} {m a r : Nat} {rs : List Res} {s : Rn} {R : Acc × Bool × List Int} (H : RunHas S0 w0 m a r rs (s.did R) w) : w.cell? ⟨r, 1, none⟩ = some (.int .i64 s.n) ∧ w.cell? ⟨r, 3, none⟩ = some (.int .i64 s.task) ∧ w.cell? ⟨r, 6, none⟩ = some (.int .u32 s.f.a) :=
  ⟨(H.whose rfl rfl rfl).1, (H.whose rfl rfl rfl).2.2, (H.facts rfl rfl rfl rfl).2.2.2.2.1⟩
theorem RunHas.sees_wtd {S0 : List Nat} {w0 w : World} {m a r : Nat} {rs : List Res} {s : Rn} {R : WaitR} (H : RunHas S0 w0 m a r rs (s.waited R) w) : w.cell? ⟨r, 1, none⟩ = some (.int .i64 s.n) ∧ w.cell? ⟨r, 3, none⟩ = some (.int .i64 s.task) ∧ w.cell? ⟨r, 6, none⟩ = some (.int .u32 s.f.a) :=
  ⟨(H.whose rfl rfl rfl).1, (H.whose rfl rfl rfl).2.2, (H.facts rfl rfl rfl rfl).2.2.2.2.1⟩
theorem RunHas.sees_box {S0 : List Nat} {w0 w : World} {m a r : Nat} {rs : List Res} {s : Rn} {b : Nat} (H : RunHas S0 w0 m a r (.blk b #[.pointer (some ⟨r, 4, none⟩)] :: rs) s w) : w.cell? ⟨r, 1, none⟩ = some (.int .i64 s.n) ∧ w.cell? ⟨r, 3, none⟩ = some (.int .i64 s.task) ∧ w.cell? ⟨r, 6, none⟩ = some (.int .u32 s.f.a) ∧ w.cell? ⟨b, 0, none⟩ = some (.pointer (some ⟨r, 4, none⟩)) :=
  ⟨(H.whose rfl rfl rfl).1, (H.whose rfl rfl rfl).2.2, (H.facts rfl rfl rfl rfl).2.2.2.2.1, H.first.own.2.1 0⟩
theorem mx_own {S0 : List Nat} {w0 w : World} {m a r : Nat} {rs : List Res} {s : Rn} (H : RunHas S0 w0 m a r rs s w) :
    Calls Try.prog 77 #[.pointer (some ⟨r, 0, none⟩)] w fun e w' => e = .returned (.int .u32 (mxOwn s)) ∧ w = w' := by
  obtain ⟨y1, y2, y3⟩ := H.whose rfl rfl rfl
  go_enter Try.func77, Try.ntmps77
  go_wp2
  go_ret
  refine ⟨?_, rfl⟩
  show Ending.returned (Value.int .u32 _) = Ending.returned (Value.int .u32 _)
  unfold mxOwn
  have e : wrap64 (s.task + 1) % 4294967296 = (s.task + 1) % 4294967296 := by
    unfold wrap64
    omega
  rw [e]
theorem mx_other (v : Int) (w : World) (hv : 0 ≤ v ∧ v < 4294967296) :
    Calls Try.prog 78 #[.int .u32 v] w fun e w' => e = .returned (.int .i64 (v - 1)) ∧ w = w' := by
  go_enter Try.func78, Try.ntmps78
  go_wp2
  go_ret
  refine ⟨?_, rfl⟩
  go_num
theorem mx_free (v : Int) (w : World) (hv : 0 ≤ v ∧ v < 4294967296) :
    Calls Try.prog 79 #[.int .u32 v] w fun e w' => e = .returned (.bool (v == 0)) ∧ Touch [] w w' := by
  go_enter Try.func79, Try.ntmps79
  go_wp2
  go_ret
  exact ⟨rfl, Touch.refl _ _⟩

theorem RunHas.ne_first {S0 : List Nat} {w0 w : World} {m a r b : Nat} {cs : Array Value} {rs : List Res} {s : Rn} (H : RunHas S0 w0 m a r (.blk b cs :: rs) s w) : r ≠ b := by
  obtain ⟨nv, H⟩ := H
  exact H.ne_at 1 3 rfl rfl (by decide)
theorem RunHas.swap12 {S0 : List Nat} {w0 w : World} {m a r : Nat} {x y : Res} {rs : List Res} {s : Rn} (H : RunHas S0 w0 m a r (x :: y :: rs) s w) : RunHas S0 w0 m a r (y :: x :: rs) s w := by
  obtain ⟨nv, H⟩ := H
  exact ⟨nv, H.perm (((List.Perm.swap y x rs).cons _).cons _ |>.cons _)⟩

set_option maxHeartbeats 800000 in
theorem mx_noted {S0 : List Nat} {w0 w : World} {m a r g n c : Nat} {l : List Int} {rs : List Res} {s : Rn} (H : RunHas S0 w0 m a r (.blk g (i64s l).toArray :: rs) s w) (hn : l.length = n) (hc : s.notes.length + l.length ≤ 1000) :
    Calls Try.prog 83 #[.pointer (some ⟨r, 0, none⟩), .slice (some ⟨g, 0, none⟩) n c] w fun e w' => e = .returned (.tuple #[]) ∧ RunHas S0 w0 m a r (.blk g (i64s l).toArray :: rs) (s.noted l) w' := by
  subst hn
  have hll : l.length ≤ 1000 := by omega
  have HC := Lib.hid hc
  have HH := Lib.hid H
  clear hc H
  go_enter Try.func83, Try.ntmps83
  go_wp2_with fail
  go_loopw [8] (fun i wr => ∃ k : Nat, k ≤ l.length ∧ i = .int .i64 k ∧ RunHas S0 w0 m a r (.blk g (i64s l).toArray :: rs) (s.noted (l.take k)) wr) (fun i _ => l.length - (intOf i).toNat)
  case atStart => exact ⟨0, Nat.zero_le _, rfl, HH.out⟩
  case round =>
    obtain ⟨k, hk, rfl, hH⟩ := hrel
    have HK := Lib.hid hH
    clear hH
    by_cases hlt : k < l.length
    · obtain ⟨b, off, hb, hbl, hcell⟩ := i64s_at (rd_blk HK.out.first) hlt
      simp only [Option.some.injEq, Addr.mk.injEq] at hb
      obtain ⟨rfl, rfl, _⟩ := hb
      obtain ⟨x, hx⟩ : ∃ x, l.getD k 0 = x := ⟨_, rfl⟩
      rw [hx, Nat.zero_add] at hcell
      have HX := Lib.hid hx
      clear hx
      have hi : (k : Int) < (l.length : Int) := by omega
      go_wp2_with fail
      refine (run_note HK.out (by rw [noted_notes]; have := HC.out; simp only [List.length_take]; omega) x 0).mono ?_
      rintro e w1 ⟨rfl, H1⟩
      go_wp2
      go_roundw
      case rel => exact ⟨k + 1, by omega, by go_num, by rw [noted_succ s l k hlt, HX.out]; exact H1⟩
      case measure => simp [intOf]; omega
    · have hkn : k = l.length := by omega
      subst hkn
      have hi : (l.length : Int) ≤ (l.length : Int) := Int.le_refl _
      have H2 := HK.out
      rw [List.take_length] at H2
      clear HK hlt hk
      go_wp2_with fail
      go_end0
      exact ⟨rfl, H2⟩

theorem mx_keeps {m r b : Nat} {nv : Value} {s : Rn} (v : Int) (w : World) (hv : 0 ≤ v ∧ v < 4294967296) (hr : Blk w r (rcells m s nv)) (hb : Blk w b #[.pointer (some ⟨r, 4, none⟩)]) :
    Calls Try.prog 84 #[.int .u32 v, .pointer (some ⟨b, 0, none⟩)] w fun e w' => e = .returned (.bool (v != 0)) ∧ Touch [r] w w' ∧ Blk w' r (rcells m (if v != 0 then s.setA v else s) nv) := by
  obtain ⟨n, mode, task, ⟨op, line, fa, fb, st, ⟨on, wc, wi, hit⟩, ret⟩, ⟨ak, ac, ax, ay, ao⟩, notes, L⟩ := s
  obtain ⟨x0, x1, x2⟩ := hb.own
  cases hcm : v != 0 with
  | true =>
    simp only [rcells, if_true, Rn.setA] at hr ⊢
    obtain ⟨y0, y1, y2⟩ := hr.own
    have HR := Lib.hid hr
    clear hr
    go_enter Try.func84, Try.ntmps84
    go_wp2
    go_ret
    refine ⟨rfl, (Touch.refl _ _).set (by simp) _, ?_⟩
    have := HR.out.set 6 (.int .u32 v)
    simp only [List.setIfInBounds_toArray, List.set_cons_zero, List.set_cons_succ] at this
    exact this
  | false =>
    simp only [rcells, Bool.false_eq_true, if_false] at hr ⊢
    have HR := Lib.hid hr
    clear hr
    go_enter Try.func84, Try.ntmps84
    go_wp2
    go_ret
    exact ⟨rfl, Touch.refl _ _, HR.out⟩

end Go.Proofs.Ytlndihdlodempaa.Z

/- Package mutex: the lines of who enters, of who tries. Written by genmx.py. -/
set_option linter.unusedVariables false
set_option linter.unusedSimpArgs false
namespace Go.Proofs.Ytlndihdlodempaa.Z
open Go.RowKit

attribute [local go_sem ↓] Go.wp_at_zero Go.wp_at_succ

def mxE0 (s : Rn) : Rn := (s.did (doA s.L ⟨2, cellP s.n 0 s.task, 0, 0, 0⟩)).goto 1
set_option maxHeartbeats 800000 in
theorem mx_e0 {S0 : List Nat} {w0 w : World} {m a r : Nat} {rs : List Res} {s : Rn} (H : RunHas S0 w0 m a r rs s w) (tail cls : Int) (hl : s.f.line = 0) (hn : I64 s.n) :
    Calls Try.prog 26 #[.pointer (some ⟨r, 0, none⟩), .int .i64 tail, .int .i64 cls] w fun e w' => e = .returned (.bool false) ∧ RunHas S0 w0 m a r rs (mxE0 s) w' := by
  obtain ⟨o, hop⟩ : ∃ o, s.f.op = o := ⟨_, rfl⟩
  obtain ⟨z0, z2, z4, z5, z6, z7⟩ := H.facts rfl hl rfl rfl
  obtain ⟨y1, y2, y3⟩ := H.whose rfl rfl rfl
  have HN := Lib.hid hn
  have HH := Lib.hid H
  have HNX := Lib.hid (fun W => mapNext s.n s.task W hn)
  have HST := Lib.hid (fun W (H : RunHas S0 w0 m a r rs s W) => rn_store H (cellP s.n 0 s.task) 0 (by decide))
  clear H hn
  unfold mxE0
  go_enter Try.func26, Try.ntmps26
  go_wp2_with fail
  go_region_held3 (fun w' => w'.cell? ⟨r, 1, none⟩ = some (.int .i64 s.n) ∧ w'.cell? ⟨r, 3, none⟩ = some (.int .i64 s.task) ∧ w'.cell? ⟨r, 6, none⟩ = some (.int .u32 s.f.a))
    (first | with_reducible exact RunHas.sees HH.out | with_reducible exact RunHas.sees HH.out.drew | (refine RunHas.sees (S0 := S0) (w0 := w0) (m := m) (a := a) (rs := rs) (s := s) ?_; with_reducible assumption) | (refine RunHas.sees_did (S0 := S0) (w0 := w0) (m := m) (a := a) (rs := rs) (s := s) (R := doA s.L ⟨2, cellP s.n 0 s.task, 0, 0, 0⟩) ?_; with_reducible assumption) | (refine RunHas.sees_wtd (S0 := S0) (w0 := w0) (m := m) (a := a) (rs := rs) (s := s) (R := doA s.L ⟨2, cellP s.n 0 s.task, 0, 0, 0⟩) ?_; with_reducible assumption))
    (first | (go_at_call 75; refine (HNX.out _).mono ?_; rintro e w1 ⟨rfl, t1⟩; have H1 := RunHas.grow (by first | with_reducible exact HH.out | with_reducible exact HH.out.drew) t1) | (go_at_call 47; (with_reducible refine (HST.out _ H1).mono ?_); rintro e w2 ⟨rfl, H2⟩))
  go_wp2_with fail
  refine (rn_go H2 1).mono ?_
  rintro e w3 ⟨rfl, H3⟩
  go_wp2_with fail
  go_ret
  exact ⟨rfl, H3⟩

def mxE1 (s : Rn) : Rn := (s.did (doA s.L ⟨2, cellP s.n 1 s.task, 1, 0, 0⟩)).goto 2
set_option maxHeartbeats 800000 in
theorem mx_e1 {S0 : List Nat} {w0 w : World} {m a r : Nat} {rs : List Res} {s : Rn} (H : RunHas S0 w0 m a r rs s w) (tail cls : Int) (hl : s.f.line = 1) (hn : I64 s.n) :
    Calls Try.prog 26 #[.pointer (some ⟨r, 0, none⟩), .int .i64 tail, .int .i64 cls] w fun e w' => e = .returned (.bool false) ∧ RunHas S0 w0 m a r rs (mxE1 s) w' := by
  obtain ⟨o, hop⟩ : ∃ o, s.f.op = o := ⟨_, rfl⟩
  obtain ⟨z0, z2, z4, z5, z6, z7⟩ := H.facts rfl hl rfl rfl
  obtain ⟨y1, y2, y3⟩ := H.whose rfl rfl rfl
  have HN := Lib.hid hn
  have HH := Lib.hid H
  have HNX := Lib.hid (fun W => mapBlocked s.n s.task W hn)
  have HST := Lib.hid (fun W (H : RunHas S0 w0 m a r rs s W) => rn_store H (cellP s.n 1 s.task) 1 (by decide))
  clear H hn
  unfold mxE1
  go_enter Try.func26, Try.ntmps26
  go_wp2_with fail
  go_region_held3 (fun w' => w'.cell? ⟨r, 1, none⟩ = some (.int .i64 s.n) ∧ w'.cell? ⟨r, 3, none⟩ = some (.int .i64 s.task) ∧ w'.cell? ⟨r, 6, none⟩ = some (.int .u32 s.f.a))
    (first | with_reducible exact RunHas.sees HH.out | with_reducible exact RunHas.sees HH.out.drew | (refine RunHas.sees (S0 := S0) (w0 := w0) (m := m) (a := a) (rs := rs) (s := s) ?_; with_reducible assumption) | (refine RunHas.sees_did (S0 := S0) (w0 := w0) (m := m) (a := a) (rs := rs) (s := s) (R := doA s.L ⟨2, cellP s.n 1 s.task, 1, 0, 0⟩) ?_; with_reducible assumption) | (refine RunHas.sees_wtd (S0 := S0) (w0 := w0) (m := m) (a := a) (rs := rs) (s := s) (R := doA s.L ⟨2, cellP s.n 1 s.task, 1, 0, 0⟩) ?_; with_reducible assumption))
    (first | (go_at_call 76; refine (HNX.out _).mono ?_; rintro e w1 ⟨rfl, t1⟩; have H1 := RunHas.grow (by first | with_reducible exact HH.out | with_reducible exact HH.out.drew) t1) | (go_at_call 47; (with_reducible refine (HST.out _ H1).mono ?_); rintro e w2 ⟨rfl, H2⟩))
  go_wp2_with fail
  refine (rn_go H2 2).mono ?_
  rintro e w3 ⟨rfl, H3⟩
  go_wp2_with fail
  go_ret
  exact ⟨rfl, H3⟩

def mxE2 (tail cls : Int) (s : Rn) : Bool × Rn :=
  let s1 := ((s.did (doA s.L ⟨4, tail, mxOwn s, 0, 0⟩)).setA (doA s.L ⟨4, tail, mxOwn s, 0, 0⟩).1.old).note 2 cls
  if (doA s.L ⟨4, tail, mxOwn s, 0, 0⟩).1.old = 0 then (true, s1) else (false, s1.goto 3)
set_option maxHeartbeats 800000 in
theorem mx_e2 {S0 : List Nat} {w0 w : World} {m a r : Nat} {rs : List Res} {s : Rn} (H : RunHas S0 w0 m a r rs s w) (tail cls : Int) (hc : s.notes.length ≤ 900) (hl : s.f.line = 2) (hn : I64 s.n) :
    Calls Try.prog 26 #[.pointer (some ⟨r, 0, none⟩), .int .i64 tail, .int .i64 cls] w fun e w' => e = .returned (.bool (mxE2 tail cls s).1) ∧ RunHas S0 w0 m a r rs (mxE2 tail cls s).2 w' := by
  obtain ⟨o, hop⟩ : ∃ o, s.f.op = o := ⟨_, rfl⟩
  obtain ⟨z0, z2, z4, z5, z6, z7⟩ := H.facts rfl hl rfl rfl
  obtain ⟨y1, y2, y3⟩ := H.whose rfl rfl rfl
  have HN := Lib.hid hn
  have HH := Lib.hid H
  have HC := Lib.hid hc
  clear H hn hc
  unfold mxE2
  (try dsimp only)
  by_cases hq : (doA s.L ⟨4, tail, mxOwn s, 0, 0⟩).1.old = 0
  · simp only [if_pos hq]
    have hz : ((doA s.L ⟨4, tail, mxOwn s, 0, 0⟩).1.old == 0) = true := by simpa using hq
    clear hq
    go_enter Try.func26, Try.ntmps26
    go_wp2_with fail
    refine (mx_own HH.out).mono ?_
    rintro e w9 ⟨rfl, rfl⟩
    go_wp2_with fail
    refine (rn_swap HH.out tail (mxOwn s) (mxOwn_word s)).mono ?_
    rintro e w1 ⟨rfl, H1⟩
    obtain ⟨x0, x2, x4, x5, x6, x7⟩ := H1.facts hop hl rfl rfl
    go_wp2_with fail
    refine (run_note (H1.setA (doA s.L ⟨4, tail, mxOwn s, 0, 0⟩).1.old) (by have := HC.out; first | exact Nat.le_trans this (by decide) | (simp [Rn.note, Rn.did, Rn.setA, Rn.setB, Rn.waited, Rn.goto, Rn.noted]; omega)) 2 cls).mono ?_
    rintro e w2 ⟨rfl, H2⟩
    obtain ⟨x0, x2, x4, x5, x6, x7⟩ := H2.facts hop hl (x := (doA s.L ⟨4, tail, mxOwn s, 0, 0⟩).1.old) rfl rfl
    go_wp2_with fail
    go_ret
    exact ⟨rfl, H2⟩
  · simp only [if_neg hq]
    have hz : ((doA s.L ⟨4, tail, mxOwn s, 0, 0⟩).1.old == 0) = false := by simpa using hq
    clear hq
    go_enter Try.func26, Try.ntmps26
    go_wp2_with fail
    refine (mx_own HH.out).mono ?_
    rintro e w9 ⟨rfl, rfl⟩
    go_wp2_with fail
    refine (rn_swap HH.out tail (mxOwn s) (mxOwn_word s)).mono ?_
    rintro e w1 ⟨rfl, H1⟩
    obtain ⟨x0, x2, x4, x5, x6, x7⟩ := H1.facts hop hl rfl rfl
    go_wp2_with fail
    refine (run_note (H1.setA (doA s.L ⟨4, tail, mxOwn s, 0, 0⟩).1.old) (by have := HC.out; first | exact Nat.le_trans this (by decide) | (simp [Rn.note, Rn.did, Rn.setA, Rn.setB, Rn.waited, Rn.goto, Rn.noted]; omega)) 2 cls).mono ?_
    rintro e w2 ⟨rfl, H2⟩
    obtain ⟨x0, x2, x4, x5, x6, x7⟩ := H2.facts hop hl (x := (doA s.L ⟨4, tail, mxOwn s, 0, 0⟩).1.old) rfl rfl
    go_wp2_with fail
    refine (rn_go H2 3).mono ?_
    rintro e w3 ⟨rfl, H3⟩
    go_wp2_with fail
    go_ret
    exact ⟨rfl, H3⟩

def mxE3 (s : Rn) : Rn := ((s.did (doA s.L ⟨2, (cellP s.n 0 (s.f.a - 1)), mxOwn s, 0, 0⟩)).wake (cellP s.n 0 (s.f.a - 1))).goto 4
set_option maxHeartbeats 800000 in
theorem mx_e3 {S0 : List Nat} {w0 w : World} {m a r : Nat} {rs : List Res} {s : Rn} (H : RunHas S0 w0 m a r rs s w) (tail cls : Int) (ha : 0 ≤ s.f.a ∧ s.f.a < 4294967296) (hl : s.f.line = 3) (hn : I64 s.n) :
    Calls Try.prog 26 #[.pointer (some ⟨r, 0, none⟩), .int .i64 tail, .int .i64 cls] w fun e w' => e = .returned (.bool false) ∧ RunHas S0 w0 m a r rs (mxE3 s) w' := by
  obtain ⟨o, hop⟩ : ∃ o, s.f.op = o := ⟨_, rfl⟩
  obtain ⟨z0, z2, z4, z5, z6, z7⟩ := H.facts rfl hl rfl rfl
  obtain ⟨y1, y2, y3⟩ := H.whose rfl rfl rfl
  have HN := Lib.hid hn
  have HH := Lib.hid H
  have HA := Lib.hid ha
  have HNX := Lib.hid (fun W => mapNext s.n (s.f.a - 1) W hn)
  clear H hn ha
  unfold mxE3
  go_enter Try.func26, Try.ntmps26
  go_wp2_with fail
  go_region_held3 (fun w' => w'.cell? ⟨r, 1, none⟩ = some (.int .i64 s.n) ∧ w'.cell? ⟨r, 3, none⟩ = some (.int .i64 s.task) ∧ w'.cell? ⟨r, 6, none⟩ = some (.int .u32 s.f.a))
    (first | with_reducible exact RunHas.sees HH.out | with_reducible exact RunHas.sees HH.out.drew | (refine RunHas.sees (S0 := S0) (w0 := w0) (m := m) (a := a) (rs := rs) (s := s) ?_; with_reducible assumption) | (refine RunHas.sees_did (S0 := S0) (w0 := w0) (m := m) (a := a) (rs := rs) (s := s) (R := X) ?_; with_reducible assumption) | (refine RunHas.sees_wtd (S0 := S0) (w0 := w0) (m := m) (a := a) (rs := rs) (s := s) (R := X) ?_; with_reducible assumption))
    (first | (go_at_call 78; refine (mx_other _ _ HA.out).mono ?_; rintro e w9 ⟨rfl, rfl⟩) | (go_at_call 75; refine (HNX.out _).mono ?_; rintro e w1 ⟨rfl, t1⟩; have H1 := RunHas.grow (by first | with_reducible exact HH.out | with_reducible exact HH.out.drew) t1))
  obtain ⟨x0, x2, x4, x5, x6, x7⟩ := H1.facts hop hl rfl rfl
  obtain ⟨v1, v2, v3⟩ := H1.whose rfl rfl rfl
  go_wp2_with fail
  refine (mx_own H1).mono ?_
  rintro e w9 ⟨rfl, rfl⟩
  go_wp2_with fail
  refine (rn_store H1 (cellP s.n 0 (s.f.a - 1)) (mxOwn s) (mxOwn_word s)).mono ?_
  rintro e w2 ⟨rfl, H2⟩
  go_wp2_with fail
  refine (rn_wake H2 (cellP s.n 0 (s.f.a - 1))).mono ?_
  rintro e w3 ⟨rfl, H3⟩
  go_wp2_with fail
  refine (rn_go H3 4).mono ?_
  rintro e w4 ⟨rfl, H4⟩
  go_wp2_with fail
  go_ret
  exact ⟨rfl, H4⟩

def mxE4 (s : Rn) : Bool × Rn := ((waitA s.L s.n s.mode s.task s.f.st (cellP s.n 1 s.task) (fun v => v == 0)).done, s.waited (waitA s.L s.n s.mode s.task s.f.st (cellP s.n 1 s.task) (fun v => v == 0)))
set_option maxHeartbeats 800000 in
theorem mx_e4 {S0 : List Nat} {w0 w : World} {m a r : Nat} {rs : List Res} {s : Rn} (H : RunHas S0 w0 m a r rs s w) (tail cls : Int) (hl : s.f.line = 4) (hn : I64 s.n) :
    Calls Try.prog 26 #[.pointer (some ⟨r, 0, none⟩), .int .i64 tail, .int .i64 cls] w fun e w' => e = .returned (.bool (mxE4 s).1) ∧ RunHas S0 w0 m a r rs (mxE4 s).2 w' := by
  obtain ⟨o, hop⟩ : ∃ o, s.f.op = o := ⟨_, rfl⟩
  obtain ⟨z0, z2, z4, z5, z6, z7⟩ := H.facts rfl hl rfl rfl
  obtain ⟨y1, y2, y3⟩ := H.whose rfl rfl rfl
  have HN := Lib.hid hn
  have HH := Lib.hid H
  have HNX := Lib.hid (fun W => mapBlocked s.n s.task W hn)
  have HWT := Lib.hid (fun W (H : RunHas S0 w0 m a r rs s W) => rn_wait H hn (cellP s.n 1 s.task) 79 #[] #[] (fun v => v == 0) (enters_of Try.func79 (by kernel_rfl) rfl) (fun W v h0 h1 H => mx_free v W ⟨h0, h1⟩))
  clear H hn
  unfold mxE4
  (try dsimp only)
  go_enter Try.func26, Try.ntmps26
  go_wp2_with fail
  go_region_held3 (fun w' => w'.cell? ⟨r, 1, none⟩ = some (.int .i64 s.n) ∧ w'.cell? ⟨r, 3, none⟩ = some (.int .i64 s.task) ∧ w'.cell? ⟨r, 6, none⟩ = some (.int .u32 s.f.a))
    (first | with_reducible exact RunHas.sees HH.out | with_reducible exact RunHas.sees HH.out.drew | (refine RunHas.sees (S0 := S0) (w0 := w0) (m := m) (a := a) (rs := rs) (s := s) ?_; with_reducible assumption) | (refine RunHas.sees_did (S0 := S0) (w0 := w0) (m := m) (a := a) (rs := rs) (s := s) (R := (waitA s.L s.n s.mode s.task s.f.st (cellP s.n 1 s.task) (fun v => v == 0))) ?_; with_reducible assumption) | (refine RunHas.sees_wtd (S0 := S0) (w0 := w0) (m := m) (a := a) (rs := rs) (s := s) (R := (waitA s.L s.n s.mode s.task s.f.st (cellP s.n 1 s.task) (fun v => v == 0))) ?_; with_reducible assumption))
    (first | (go_at_call 76; refine (HNX.out _).mono ?_; rintro e w1 ⟨rfl, t1⟩; have H1 := RunHas.grow (by first | with_reducible exact HH.out | with_reducible exact HH.out.drew) t1) | (go_at_call 57; (with_reducible refine (HWT.out _ H1).mono ?_); rintro e w2 ⟨rfl, H2⟩))
  go_wp2_with fail
  go_ret
  exact ⟨rfl, H2⟩

theorem mx_enone {S0 : List Nat} {w0 w : World} {m a r : Nat} {rs : List Res} {s : Rn} (H : RunHas S0 w0 m a r rs s w) (tail cls : Int) {l : Int} (hl : s.f.line = l) (h0 : ¬ l = 0) (h1 : ¬ l = 1) (h2 : ¬ l = 2) (h3 : ¬ l = 3) (h4 : ¬ l = 4) :
    Calls Try.prog 26 #[.pointer (some ⟨r, 0, none⟩), .int .i64 tail, .int .i64 cls] w fun e w' => e = .returned (.bool false) ∧ RunHas S0 w0 m a r rs s w' := by
  obtain ⟨z0, z2, z4, z5, z6, z7⟩ := H.facts rfl hl rfl rfl
  have HH := Lib.hid H
  clear H
  go_enter Try.func26, Try.ntmps26
  go_wp2_with fail
  go_ret
  exact ⟨rfl, HH.out⟩

def mxT0 (s : Rn) : Rn := mxE0 s
set_option maxHeartbeats 800000 in
theorem mx_t0 {S0 : List Nat} {w0 w : World} {m a r : Nat} {rs : List Res} {s : Rn} (H : RunHas S0 w0 m a r rs s w) (tail : Int) {l : Int} (hsub : wrap64 l = 0) (hl : s.f.line = l) (hn : I64 s.n) :
    Calls Try.prog 30 #[.pointer (some ⟨r, 0, none⟩), .int .i64 tail, .int .i64 0] w fun e w' => e = .returned (.tuple #[.bool false, .bool false]) ∧ RunHas S0 w0 m a r rs (mxE0 s) w' := by
  obtain ⟨o, hop⟩ : ∃ o, s.f.op = o := ⟨_, rfl⟩
  obtain ⟨z0, z2, z4, z5, z6, z7⟩ := H.facts rfl hl rfl rfl
  obtain ⟨y1, y2, y3⟩ := H.whose rfl rfl rfl
  have HN := Lib.hid hn
  have HH := Lib.hid H
  have HNX := Lib.hid (fun W => mapNext s.n s.task W hn)
  have HST := Lib.hid (fun W (H : RunHas S0 w0 m a r rs s W) => rn_store H (cellP s.n 0 s.task) 0 (by decide))
  clear H hn
  unfold mxE0
  go_enter Try.func30, Try.ntmps30
  go_wp2_with fail
  go_region_held3 (fun w' => w'.cell? ⟨r, 1, none⟩ = some (.int .i64 s.n) ∧ w'.cell? ⟨r, 3, none⟩ = some (.int .i64 s.task) ∧ w'.cell? ⟨r, 6, none⟩ = some (.int .u32 s.f.a))
    (first | with_reducible exact RunHas.sees HH.out | with_reducible exact RunHas.sees HH.out.drew | (refine RunHas.sees (S0 := S0) (w0 := w0) (m := m) (a := a) (rs := rs) (s := s) ?_; with_reducible assumption) | (refine RunHas.sees_did (S0 := S0) (w0 := w0) (m := m) (a := a) (rs := rs) (s := s) (R := doA s.L ⟨2, cellP s.n 0 s.task, 0, 0, 0⟩) ?_; with_reducible assumption) | (refine RunHas.sees_wtd (S0 := S0) (w0 := w0) (m := m) (a := a) (rs := rs) (s := s) (R := doA s.L ⟨2, cellP s.n 0 s.task, 0, 0, 0⟩) ?_; with_reducible assumption))
    (first | (go_at_call 75; refine (HNX.out _).mono ?_; rintro e w1 ⟨rfl, t1⟩; have H1 := RunHas.grow (by first | with_reducible exact HH.out | with_reducible exact HH.out.drew) t1) | (go_at_call 47; (with_reducible refine (HST.out _ H1).mono ?_); rintro e w2 ⟨rfl, H2⟩))
  go_wp2_with fail
  refine (rn_go H2 1).mono ?_
  rintro e w3 ⟨rfl, H3⟩
  go_wp2_with fail
  refine bodyPost_ret (v := .tuple #[.bool false, .bool false]) (by simp [results, Try.results30, go_sem]) rfl ⟨rfl, ?_⟩
  exact H3

def mxT1 (s : Rn) : Rn := s
set_option maxHeartbeats 800000 in
theorem mx_t1 {S0 : List Nat} {w0 w : World} {m a r : Nat} {rs : List Res} {s : Rn} (H : RunHas S0 w0 m a r rs s w) (tail : Int) {l : Int} (hsub : wrap64 l = 1) (hl : s.f.line = l) (hn : I64 s.n) :
    Calls Try.prog 30 #[.pointer (some ⟨r, 0, none⟩), .int .i64 tail, .int .i64 0] w fun e w' => e = .returned (.tuple #[.bool true, .bool (casB s.L tail 0 (mxOwn s))]) ∧ RunHas S0 w0 m a r rs (s.did (doA s.L ⟨5, tail, 0, mxOwn s, 0⟩)) w' := by
  obtain ⟨o, hop⟩ : ∃ o, s.f.op = o := ⟨_, rfl⟩
  obtain ⟨z0, z2, z4, z5, z6, z7⟩ := H.facts rfl hl rfl rfl
  obtain ⟨y1, y2, y3⟩ := H.whose rfl rfl rfl
  have HN := Lib.hid hn
  have HH := Lib.hid H
  clear H hn
  go_enter Try.func30, Try.ntmps30
  go_wp2_with fail
  refine (mx_own HH.out).mono ?_
  rintro e w9 ⟨rfl, rfl⟩
  go_wp2_with fail
  refine (rn_cas HH.out tail 0 (mxOwn s) (by decide) (mxOwn_word s)).mono ?_
  rintro e w1 ⟨rfl, H1⟩
  go_wp2_with fail
  refine bodyPost_ret (v := .tuple #[.bool true, .bool (casB s.L tail 0 (mxOwn s))]) (by simp [results, Try.results30, go_sem]) rfl ⟨rfl, ?_⟩
  exact H1

theorem mx_tnone {S0 : List Nat} {w0 w : World} {m a r : Nat} {rs : List Res} {s : Rn} (H : RunHas S0 w0 m a r rs s w) (tail : Int) {l : Int} (hl : s.f.line = l) (h0 : ¬ wrap64 l = 0) (h1 : ¬ wrap64 l = 1) :
    Calls Try.prog 30 #[.pointer (some ⟨r, 0, none⟩), .int .i64 tail, .int .i64 0] w fun e w' => e = .returned (.tuple #[.bool false, .bool false]) ∧ RunHas S0 w0 m a r rs s w' := by
  obtain ⟨z0, z2, z4, z5, z6, z7⟩ := H.facts rfl hl rfl rfl
  have HH := Lib.hid H
  clear H
  go_enter Try.func30, Try.ntmps30
  go_wp2_with fail
  refine bodyPost_ret (v := .tuple #[.bool false, .bool false]) (by simp [results, Try.results30, go_sem]) rfl ⟨rfl, ?_⟩
  exact HH.out

/-- A line of who enters. -/
def mxEnter (tail cls : Int) (s : Rn) : Bool × Rn :=
  if s.f.line = 0 then (false, mxE0 s) else if s.f.line = 1 then (false, mxE1 s) else if s.f.line = 2 then mxE2 tail cls s else if s.f.line = 3 then (false, mxE3 s) else if s.f.line = 4 then mxE4 s else (false, s)
theorem mx_enter {S0 : List Nat} {w0 w : World} {m a r : Nat} {rs : List Res} {s : Rn} (H : RunHas S0 w0 m a r rs s w) (tail cls : Int) (hn : I64 s.n) (ha : 0 ≤ s.f.a ∧ s.f.a < 4294967296) (hc : s.notes.length ≤ 900) :
    Calls Try.prog 26 #[.pointer (some ⟨r, 0, none⟩), .int .i64 tail, .int .i64 cls] w fun e w' => e = .returned (.bool (mxEnter tail cls s).1) ∧ RunHas S0 w0 m a r rs (mxEnter tail cls s).2 w' := by
  unfold mxEnter
  split
  · exact mx_e0 H tail cls (by assumption) hn
  split
  · exact mx_e1 H tail cls (by assumption) hn
  split
  · exact mx_e2 H tail cls hc (by assumption) hn
  split
  · exact mx_e3 H tail cls ha (by assumption) hn
  split
  · exact mx_e4 H tail cls (by assumption) hn
  · exact mx_enone H tail cls rfl (by assumption) (by assumption) (by assumption) (by assumption) (by assumption)
/-- A line of who tries: done, in. -/
def mxTry (tail : Int) (s : Rn) : Bool × Bool × Rn :=
  if wrap64 s.f.line = 0 then (false, false, mxE0 s) else if wrap64 s.f.line = 1 then (true, casB s.L tail 0 (mxOwn s), s.did (doA s.L ⟨5, tail, 0, mxOwn s, 0⟩)) else (false, false, s)
theorem mx_try {S0 : List Nat} {w0 w : World} {m a r : Nat} {rs : List Res} {s : Rn} (H : RunHas S0 w0 m a r rs s w) (tail : Int) (hn : I64 s.n) :
    Calls Try.prog 30 #[.pointer (some ⟨r, 0, none⟩), .int .i64 tail, .int .i64 0] w fun e w' => e = .returned (.tuple #[.bool (mxTry tail s).1, .bool (mxTry tail s).2.1]) ∧ RunHas S0 w0 m a r rs (mxTry tail s).2.2 w' := by
  unfold mxTry
  split
  · exact mx_t0 H tail (by assumption) rfl hn
  split
  · exact mx_t1 H tail (by assumption) rfl hn
  · exact mx_tnone H tail rfl (by assumption) (by assumption)

end Go.Proofs.Ytlndihdlodempaa.Z

/- Package mutex: the lines of who gives the queue on. Written by genmx.py. -/
set_option linter.unusedVariables false
set_option linter.unusedSimpArgs false
namespace Go.Proofs.Ytlndihdlodempaa.Z
open Go.RowKit

attribute [local go_sem ↓] Go.wp_at_zero Go.wp_at_succ

def mxG0 (q : Int) (s : Rn) : Rn :=
  let s1 := (s.did (doA s.L ⟨1, (cellP s.n 0 s.task), 0, 0, 0⟩)).setA (doA s.L ⟨1, (cellP s.n 0 s.task), 0, 0, 0⟩).1.old
  if (doA s.L ⟨1, (cellP s.n 0 s.task), 0, 0, 0⟩).1.old = 0 then s1.goto (q + 1) else s1.goto (q + 3)
set_option maxHeartbeats 1600000 in
theorem mx_g0 {S0 : List Nat} {w0 w : World} {m a r : Nat} {rs : List Res} {s : Rn} (tail q : Int) {g nn c : Nat} {nl : List Int} (hnl : nl.length = nn) (hq : 0 ≤ q ∧ q ≤ 100) (hc : s.notes.length + nl.length ≤ 900) (H : RunHas S0 w0 m a r (.blk g (i64s nl).toArray :: rs) s w) {l : Int} (hl : s.f.line = l) (hsub : wrap64 (l - q) = 0) (hn : I64 s.n) (ha : 0 ≤ s.f.a ∧ s.f.a < 4294967296) :
    Calls Try.prog 28 #[.pointer (some ⟨r, 0, none⟩), .int .i64 tail, .int .i64 q, .slice (some ⟨g, 0, none⟩) nn c] w fun e w' => e = .returned (.bool false) ∧ RunHas S0 w0 m a r (.blk g (i64s nl).toArray :: rs) (mxG0 q s) w' := by
  obtain ⟨o, hop⟩ : ∃ o, s.f.op = o := ⟨_, rfl⟩
  have hne := H.ne_first
  obtain ⟨z0, z2, z4, z5, z6, z7⟩ := H.facts hop hl rfl rfl
  have HA := Lib.hid ha
  have HC := Lib.hid hc
  have HQ := Lib.hid hq
  have HNX := Lib.hid (fun W => mapNext s.n s.task W hn)
  have HLD := Lib.hid (fun W rs (H : RunHas S0 w0 m a r rs s W) => rn_load H (cellP s.n 0 s.task))
  have HH := Lib.hid (H.box rfl #[.pointer (some ⟨r, 4, none⟩)] 102)
  clear H ha hc hn
  unfold mxG0
  (try dsimp only)
  by_cases hz : (doA s.L ⟨1, (cellP s.n 0 s.task), 0, 0, 0⟩).1.old = 0
  · simp only [if_pos hz]
    have hzb : ((doA s.L ⟨1, (cellP s.n 0 s.task), 0, 0, 0⟩).1.old != 0) = false := by simpa using hz
    clear hz
    go_enter Try.func28, Try.ntmps28
    go_wp2_with fail
    have HW := HH.out
    generalize w.heap.size = tb at HW ⊢
    generalize w.alloc _ = W at HW ⊢
    obtain ⟨z0, z2, z4, z5, z6, z7⟩ := HW.facts hop hl rfl rfl
    obtain ⟨y1, y2, y3⟩ := HW.whose rfl rfl rfl
    obtain ⟨u0, u1, u2⟩ := HW.first.own
    go_region_held3 (fun w' => w'.cell? ⟨r, 1, none⟩ = some (.int .i64 s.n) ∧ w'.cell? ⟨r, 3, none⟩ = some (.int .i64 s.task) ∧ w'.cell? ⟨r, 6, none⟩ = some (.int .u32 s.f.a) ∧ w'.cell? ⟨tb, 0, none⟩ = some (.pointer (some ⟨r, 4, none⟩)))
      (first | (refine RunHas.sees_box (S0 := S0) (w0 := w0) (m := m) (a := a) (rs := .blk g (i64s nl).toArray :: rs) (s := s) ?_; first | with_reducible assumption | with_reducible exact HW.drew))
      (first | (go_at_call 75; refine (HNX.out _).mono ?_; rintro e w1 ⟨rfl, t1⟩; have H1 := RunHas.grow HW.drew t1))
    clear u0 u1 u2 z0 z2 z4 z5 z6 z7 y1 y2 y3
    obtain ⟨x0, x2, x4, x5, x6, x7⟩ := H1.facts hop hl rfl rfl
    obtain ⟨v1, v2, v3⟩ := H1.whose rfl rfl rfl
    obtain ⟨u0, u1, u2⟩ := H1.first.own
    go_wp2_with fail
    have hne2 := H1.ne_first
    go_region_held3 (fun w' => ∀ i, w'.cell? ⟨tb, i, none⟩ = (#[.pointer (some ⟨r, 4, none⟩)] : Array Value)[i]?)
      (first | assumption | (intro i; rw [World.cell?_setCell_far _ _ _ _ (by exact hne2)]; apply_assumption) | (intro i; apply_assumption))
      (first | (go_at_call 53; (with_reducible refine (HLD.out _ _ H1.drew).mono ?_); rintro e w2 ⟨rfl, H2⟩; obtain ⟨v0, v1, v2⟩ := H2.first.own; obtain ⟨x0, x2, x4, x5, x6, x7⟩ := H2.facts hop hl rfl rfl))
    have H3 := H2.setA (doA s.L ⟨1, (cellP s.n 0 s.task), 0, 0, 0⟩).1.old
    go_wp2_with fail
    refine (rn_go H3 (q + 1)).mono ?_
    rintro e w4 ⟨rfl, H4⟩
    go_wp2_with fail
    go_ret
    exact ⟨rfl, H4.unbox⟩
  · simp only [if_neg hz]
    have hzb : ((doA s.L ⟨1, (cellP s.n 0 s.task), 0, 0, 0⟩).1.old != 0) = true := by simpa using hz
    clear hz
    go_enter Try.func28, Try.ntmps28
    go_wp2_with fail
    have HW := HH.out
    generalize w.heap.size = tb at HW ⊢
    generalize w.alloc _ = W at HW ⊢
    obtain ⟨z0, z2, z4, z5, z6, z7⟩ := HW.facts hop hl rfl rfl
    obtain ⟨y1, y2, y3⟩ := HW.whose rfl rfl rfl
    obtain ⟨u0, u1, u2⟩ := HW.first.own
    go_region_held3 (fun w' => w'.cell? ⟨r, 1, none⟩ = some (.int .i64 s.n) ∧ w'.cell? ⟨r, 3, none⟩ = some (.int .i64 s.task) ∧ w'.cell? ⟨r, 6, none⟩ = some (.int .u32 s.f.a) ∧ w'.cell? ⟨tb, 0, none⟩ = some (.pointer (some ⟨r, 4, none⟩)))
      (first | (refine RunHas.sees_box (S0 := S0) (w0 := w0) (m := m) (a := a) (rs := .blk g (i64s nl).toArray :: rs) (s := s) ?_; first | with_reducible assumption | with_reducible exact HW.drew))
      (first | (go_at_call 75; refine (HNX.out _).mono ?_; rintro e w1 ⟨rfl, t1⟩; have H1 := RunHas.grow HW.drew t1))
    clear u0 u1 u2 z0 z2 z4 z5 z6 z7 y1 y2 y3
    obtain ⟨x0, x2, x4, x5, x6, x7⟩ := H1.facts hop hl rfl rfl
    obtain ⟨v1, v2, v3⟩ := H1.whose rfl rfl rfl
    obtain ⟨u0, u1, u2⟩ := H1.first.own
    go_wp2_with fail
    have hne2 := H1.ne_first
    go_region_held3 (fun w' => ∀ i, w'.cell? ⟨tb, i, none⟩ = (#[.pointer (some ⟨r, 4, none⟩)] : Array Value)[i]?)
      (first | assumption | (intro i; rw [World.cell?_setCell_far _ _ _ _ (by exact hne2)]; apply_assumption) | (intro i; apply_assumption))
      (first | (go_at_call 53; (with_reducible refine (HLD.out _ _ H1.drew).mono ?_); rintro e w2 ⟨rfl, H2⟩; obtain ⟨v0, v1, v2⟩ := H2.first.own; obtain ⟨x0, x2, x4, x5, x6, x7⟩ := H2.facts hop hl rfl rfl))
    have H3 := H2.setA (doA s.L ⟨1, (cellP s.n 0 s.task), 0, 0, 0⟩).1.old
    go_wp2_with fail
    refine (rn_go H3 (q + 3)).mono ?_
    rintro e w4 ⟨rfl, H4⟩
    go_wp2_with fail
    go_ret
    exact ⟨rfl, H4.unbox⟩

def mxG1 (tail q : Int) (nl : List Int) (s : Rn) : Bool × Rn :=
  if casB s.L tail (mxOwn s) 0 then (true, (s.did (doA s.L ⟨5, tail, mxOwn s, 0, 0⟩)).noted nl) else (false, (s.did (doA s.L ⟨5, tail, mxOwn s, 0, 0⟩)).goto (q + 2))
set_option maxHeartbeats 1600000 in
theorem mx_g1 {S0 : List Nat} {w0 w : World} {m a r : Nat} {rs : List Res} {s : Rn} (tail q : Int) {g nn c : Nat} {nl : List Int} (hnl : nl.length = nn) (hq : 0 ≤ q ∧ q ≤ 100) (hc : s.notes.length + nl.length ≤ 900) (H : RunHas S0 w0 m a r (.blk g (i64s nl).toArray :: rs) s w) {l : Int} (hl : s.f.line = l) (hsub : wrap64 (l - q) = 1) (hn : I64 s.n) (ha : 0 ≤ s.f.a ∧ s.f.a < 4294967296) :
    Calls Try.prog 28 #[.pointer (some ⟨r, 0, none⟩), .int .i64 tail, .int .i64 q, .slice (some ⟨g, 0, none⟩) nn c] w fun e w' => e = .returned (.bool (mxG1 tail q nl s).1) ∧ RunHas S0 w0 m a r (.blk g (i64s nl).toArray :: rs) (mxG1 tail q nl s).2 w' := by
  obtain ⟨o, hop⟩ : ∃ o, s.f.op = o := ⟨_, rfl⟩
  have hne := H.ne_first
  obtain ⟨z0, z2, z4, z5, z6, z7⟩ := H.facts hop hl rfl rfl
  have HA := Lib.hid ha
  have HC := Lib.hid hc
  have HQ := Lib.hid hq
  have HNX := Lib.hid (fun W => mapNext s.n s.task W hn)
  have hcas := fun W rs (H : RunHas S0 w0 m a r rs s W) => rn_cas H tail (mxOwn s) 0 (mxOwn_word s) (by decide)
  have HH := Lib.hid (H.box rfl #[.pointer (some ⟨r, 4, none⟩)] 102)
  clear H ha hc hn
  unfold mxG1
  cases hb : casB s.L tail (mxOwn s) 0 with
  | true =>
    rw [hb] at hcas
    simp only [if_true]
    have HCAS := Lib.hid hcas
    clear hcas hb
    go_enter Try.func28, Try.ntmps28
    go_wp2_with fail
    have HW := HH.out
    generalize w.heap.size = tb at HW ⊢
    generalize w.alloc _ = W at HW ⊢
    obtain ⟨z0, z2, z4, z5, z6, z7⟩ := HW.facts hop hl rfl rfl
    obtain ⟨y1, y2, y3⟩ := HW.whose rfl rfl rfl
    obtain ⟨u0, u1, u2⟩ := HW.first.own
    go_region_held3 (fun w' => w'.cell? ⟨r, 1, none⟩ = some (.int .i64 s.n) ∧ w'.cell? ⟨r, 3, none⟩ = some (.int .i64 s.task) ∧ w'.cell? ⟨r, 6, none⟩ = some (.int .u32 s.f.a) ∧ w'.cell? ⟨tb, 0, none⟩ = some (.pointer (some ⟨r, 4, none⟩)))
      (first | (refine RunHas.sees_box (S0 := S0) (w0 := w0) (m := m) (a := a) (rs := .blk g (i64s nl).toArray :: rs) (s := s) ?_; first | with_reducible assumption | with_reducible exact HW.drew))
      (first | (go_at_call 75; refine (HNX.out _).mono ?_; rintro e w1 ⟨rfl, t1⟩; have H1 := RunHas.grow HW.drew t1))
    clear u0 u1 u2 z0 z2 z4 z5 z6 z7 y1 y2 y3
    obtain ⟨x0, x2, x4, x5, x6, x7⟩ := H1.facts hop hl rfl rfl
    obtain ⟨v1, v2, v3⟩ := H1.whose rfl rfl rfl
    obtain ⟨u0, u1, u2⟩ := H1.first.own
    go_wp2_with fail
    refine (mx_own H1).mono ?_
    rintro e w9 ⟨rfl, rfl⟩
    go_wp2_with fail
    refine (HCAS.out _ _ H1).mono ?_
    rintro e w2 ⟨rfl, H2⟩
    go_wp2_with fail
    refine (mx_noted H2.swap12 hnl (by have := HC.out; simp [Rn.did]; omega)).mono ?_
    rintro e w3 ⟨rfl, H3⟩
    go_wp2_with fail
    go_ret
    exact ⟨rfl, H3.swap12.unbox⟩
  | false =>
    rw [hb] at hcas
    simp only [Bool.false_eq_true, if_false]
    have HCAS := Lib.hid hcas
    clear hcas hb
    go_enter Try.func28, Try.ntmps28
    go_wp2_with fail
    have HW := HH.out
    generalize w.heap.size = tb at HW ⊢
    generalize w.alloc _ = W at HW ⊢
    obtain ⟨z0, z2, z4, z5, z6, z7⟩ := HW.facts hop hl rfl rfl
    obtain ⟨y1, y2, y3⟩ := HW.whose rfl rfl rfl
    obtain ⟨u0, u1, u2⟩ := HW.first.own
    go_region_held3 (fun w' => w'.cell? ⟨r, 1, none⟩ = some (.int .i64 s.n) ∧ w'.cell? ⟨r, 3, none⟩ = some (.int .i64 s.task) ∧ w'.cell? ⟨r, 6, none⟩ = some (.int .u32 s.f.a) ∧ w'.cell? ⟨tb, 0, none⟩ = some (.pointer (some ⟨r, 4, none⟩)))
      (first | (refine RunHas.sees_box (S0 := S0) (w0 := w0) (m := m) (a := a) (rs := .blk g (i64s nl).toArray :: rs) (s := s) ?_; first | with_reducible assumption | with_reducible exact HW.drew))
      (first | (go_at_call 75; refine (HNX.out _).mono ?_; rintro e w1 ⟨rfl, t1⟩; have H1 := RunHas.grow HW.drew t1))
    clear u0 u1 u2 z0 z2 z4 z5 z6 z7 y1 y2 y3
    obtain ⟨x0, x2, x4, x5, x6, x7⟩ := H1.facts hop hl rfl rfl
    obtain ⟨v1, v2, v3⟩ := H1.whose rfl rfl rfl
    obtain ⟨u0, u1, u2⟩ := H1.first.own
    go_wp2_with fail
    refine (mx_own H1).mono ?_
    rintro e w9 ⟨rfl, rfl⟩
    go_wp2_with fail
    refine (HCAS.out _ _ H1).mono ?_
    rintro e w2 ⟨rfl, H2⟩
    go_wp2_with fail
    refine (rn_go H2 (q + 2)).mono ?_
    rintro e w3 ⟨rfl, H3⟩
    go_wp2_with fail
    go_ret
    exact ⟨rfl, H3.unbox⟩

def mxG2 (q : Int) (s : Rn) : Rn :=
  let s1 := (s.keep (waitA s.L s.n s.mode s.task s.f.st (cellP s.n 0 s.task) (fun v => v != 0))).waited (waitA s.L s.n s.mode s.task s.f.st (cellP s.n 0 s.task) (fun v => v != 0))
  if (waitA s.L s.n s.mode s.task s.f.st (cellP s.n 0 s.task) (fun v => v != 0)).done then s1.goto (q + 3) else s1
set_option maxHeartbeats 1600000 in
theorem mx_g2 {S0 : List Nat} {w0 w : World} {m a r : Nat} {rs : List Res} {s : Rn} (tail q : Int) {g nn c : Nat} {nl : List Int} (hnl : nl.length = nn) (hq : 0 ≤ q ∧ q ≤ 100) (hc : s.notes.length + nl.length ≤ 900) (H : RunHas S0 w0 m a r (.blk g (i64s nl).toArray :: rs) s w) {l : Int} (hl : s.f.line = l) (hsub : wrap64 (l - q) = 2) (hn : I64 s.n) (ha : 0 ≤ s.f.a ∧ s.f.a < 4294967296) :
    Calls Try.prog 28 #[.pointer (some ⟨r, 0, none⟩), .int .i64 tail, .int .i64 q, .slice (some ⟨g, 0, none⟩) nn c] w fun e w' => e = .returned (.bool false) ∧ RunHas S0 w0 m a r (.blk g (i64s nl).toArray :: rs) (mxG2 q s) w' := by
  obtain ⟨o, hop⟩ : ∃ o, s.f.op = o := ⟨_, rfl⟩
  have hne := H.ne_first
  obtain ⟨z0, z2, z4, z5, z6, z7⟩ := H.facts hop hl rfl rfl
  have HA := Lib.hid ha
  have HC := Lib.hid hc
  have HQ := Lib.hid hq
  have HNX := Lib.hid (fun W => mapNext s.n s.task W hn)
  have hwt := fun (tb : Nat) W (H : RunHas S0 w0 m a r (.blk tb #[.pointer (some ⟨r, 4, none⟩)] :: .blk g (i64s nl).toArray :: rs) s W) => rn_wait_keep H hn (cellP s.n 0 s.task) 84 #[] #[.pointer (some ⟨tb, 0, none⟩)] (fun v => v != 0) (enters_of Try.func84 (by kernel_rfl) rfl) (fun W nv v h0 h1 HX => mx_keeps v W ⟨h0, h1⟩ HX.blk1 (HX.at_ 3 rfl))
  have HH := Lib.hid (H.box rfl #[.pointer (some ⟨r, 4, none⟩)] 102)
  clear H ha hc hn
  unfold mxG2
  (try dsimp only)
  generalize (waitA s.L s.n s.mode s.task s.f.st (cellP s.n 0 s.task) (fun v => v != 0)).seen = sn at hwt
  cases hd : (waitA s.L s.n s.mode s.task s.f.st (cellP s.n 0 s.task) (fun v => v != 0)).done <;> rw [hd] at hwt <;> simp only [if_true, Bool.false_eq_true, if_false] <;> (have HWT := Lib.hid hwt) <;> clear hwt hd
  · go_enter Try.func28, Try.ntmps28
    go_wp2_with fail
    have HW := HH.out
    generalize w.heap.size = tb at HW ⊢
    generalize w.alloc _ = W at HW ⊢
    obtain ⟨z0, z2, z4, z5, z6, z7⟩ := HW.facts hop hl rfl rfl
    obtain ⟨y1, y2, y3⟩ := HW.whose rfl rfl rfl
    obtain ⟨u0, u1, u2⟩ := HW.first.own
    go_region_held3 (fun w' => w'.cell? ⟨r, 1, none⟩ = some (.int .i64 s.n) ∧ w'.cell? ⟨r, 3, none⟩ = some (.int .i64 s.task) ∧ w'.cell? ⟨r, 6, none⟩ = some (.int .u32 s.f.a) ∧ w'.cell? ⟨tb, 0, none⟩ = some (.pointer (some ⟨r, 4, none⟩)))
      (first | (refine RunHas.sees_box (S0 := S0) (w0 := w0) (m := m) (a := a) (rs := .blk g (i64s nl).toArray :: rs) (s := s) ?_; first | with_reducible assumption | with_reducible exact HW.drew))
      (first | (go_at_call 75; refine (HNX.out _).mono ?_; rintro e w1 ⟨rfl, t1⟩; have H1 := RunHas.grow HW.drew t1))
    clear u0 u1 u2 z0 z2 z4 z5 z6 z7 y1 y2 y3
    obtain ⟨x0, x2, x4, x5, x6, x7⟩ := H1.facts hop hl rfl rfl
    obtain ⟨v1, v2, v3⟩ := H1.whose rfl rfl rfl
    obtain ⟨u0, u1, u2⟩ := H1.first.own
    go_wp2_with fail
    refine (HWT.out _ _ H1).mono ?_
    rintro e w2 ⟨rfl, H2⟩
    go_wp2_with fail
    go_ret
    exact ⟨rfl, H2.unbox⟩
  · go_enter Try.func28, Try.ntmps28
    go_wp2_with fail
    have HW := HH.out
    generalize w.heap.size = tb at HW ⊢
    generalize w.alloc _ = W at HW ⊢
    obtain ⟨z0, z2, z4, z5, z6, z7⟩ := HW.facts hop hl rfl rfl
    obtain ⟨y1, y2, y3⟩ := HW.whose rfl rfl rfl
    obtain ⟨u0, u1, u2⟩ := HW.first.own
    go_region_held3 (fun w' => w'.cell? ⟨r, 1, none⟩ = some (.int .i64 s.n) ∧ w'.cell? ⟨r, 3, none⟩ = some (.int .i64 s.task) ∧ w'.cell? ⟨r, 6, none⟩ = some (.int .u32 s.f.a) ∧ w'.cell? ⟨tb, 0, none⟩ = some (.pointer (some ⟨r, 4, none⟩)))
      (first | (refine RunHas.sees_box (S0 := S0) (w0 := w0) (m := m) (a := a) (rs := .blk g (i64s nl).toArray :: rs) (s := s) ?_; first | with_reducible assumption | with_reducible exact HW.drew))
      (first | (go_at_call 75; refine (HNX.out _).mono ?_; rintro e w1 ⟨rfl, t1⟩; have H1 := RunHas.grow HW.drew t1))
    clear u0 u1 u2 z0 z2 z4 z5 z6 z7 y1 y2 y3
    obtain ⟨x0, x2, x4, x5, x6, x7⟩ := H1.facts hop hl rfl rfl
    obtain ⟨v1, v2, v3⟩ := H1.whose rfl rfl rfl
    obtain ⟨u0, u1, u2⟩ := H1.first.own
    go_wp2_with fail
    refine (HWT.out _ _ H1).mono ?_
    rintro e w2 ⟨rfl, H2⟩
    go_wp2_with fail
    refine (rn_go H2 (q + 3)).mono ?_
    rintro e w3 ⟨rfl, H3⟩
    go_wp2_with fail
    go_ret
    exact ⟨rfl, H3.unbox⟩

def mxG3 (nl : List Int) (s : Rn) : Rn := ((s.did (doA s.L ⟨2, (cellP s.n 1 (s.f.a - 1)), 0, 0, 0⟩)).noted nl).wake (cellP s.n 1 (s.f.a - 1))
set_option maxHeartbeats 1600000 in
theorem mx_g3 {S0 : List Nat} {w0 w : World} {m a r : Nat} {rs : List Res} {s : Rn} (tail q : Int) {g nn c : Nat} {nl : List Int} (hnl : nl.length = nn) (hq : 0 ≤ q ∧ q ≤ 100) (hc : s.notes.length + nl.length ≤ 900) (H : RunHas S0 w0 m a r (.blk g (i64s nl).toArray :: rs) s w) {l : Int} (hl : s.f.line = l) (hsub : wrap64 (l - q) = 3) (hn : I64 s.n) (ha : 0 ≤ s.f.a ∧ s.f.a < 4294967296) :
    Calls Try.prog 28 #[.pointer (some ⟨r, 0, none⟩), .int .i64 tail, .int .i64 q, .slice (some ⟨g, 0, none⟩) nn c] w fun e w' => e = .returned (.bool true) ∧ RunHas S0 w0 m a r (.blk g (i64s nl).toArray :: rs) (mxG3 nl s) w' := by
  obtain ⟨o, hop⟩ : ∃ o, s.f.op = o := ⟨_, rfl⟩
  have hne := H.ne_first
  obtain ⟨z0, z2, z4, z5, z6, z7⟩ := H.facts hop hl rfl rfl
  have HA := Lib.hid ha
  have HC := Lib.hid hc
  have HQ := Lib.hid hq
  have HNX := Lib.hid (fun W => mapNext s.n s.task W hn)
  have HBL := Lib.hid (fun W => mapBlocked s.n (s.f.a - 1) W hn)
  have HH := Lib.hid (H.box rfl #[.pointer (some ⟨r, 4, none⟩)] 102)
  clear H ha hc hn
  unfold mxG3
  go_enter Try.func28, Try.ntmps28
  go_wp2_with fail
  have HW := HH.out
  generalize w.heap.size = tb at HW ⊢
  generalize w.alloc _ = W at HW ⊢
  obtain ⟨z0, z2, z4, z5, z6, z7⟩ := HW.facts hop hl rfl rfl
  obtain ⟨y1, y2, y3⟩ := HW.whose rfl rfl rfl
  obtain ⟨u0, u1, u2⟩ := HW.first.own
  go_region_held3 (fun w' => w'.cell? ⟨r, 1, none⟩ = some (.int .i64 s.n) ∧ w'.cell? ⟨r, 3, none⟩ = some (.int .i64 s.task) ∧ w'.cell? ⟨r, 6, none⟩ = some (.int .u32 s.f.a) ∧ w'.cell? ⟨tb, 0, none⟩ = some (.pointer (some ⟨r, 4, none⟩)))
    (first | (refine RunHas.sees_box (S0 := S0) (w0 := w0) (m := m) (a := a) (rs := .blk g (i64s nl).toArray :: rs) (s := s) ?_; first | with_reducible assumption | with_reducible exact HW.drew | with_reducible exact H1.drew))
    (first | (go_at_call 75; refine (HNX.out _).mono ?_; rintro e w1 ⟨rfl, t1⟩; have H1 := RunHas.grow HW.drew t1))
  clear u0 u1 u2 z0 z2 z4 z5 z6 z7 y1 y2 y3
  obtain ⟨x0, x2, x4, x5, x6, x7⟩ := H1.facts hop hl rfl rfl
  obtain ⟨v1, v2, v3⟩ := H1.whose rfl rfl rfl
  obtain ⟨u0, u1, u2⟩ := H1.first.own
  go_wp2_with fail
  go_region_held3 (fun w' => w'.cell? ⟨r, 1, none⟩ = some (.int .i64 s.n) ∧ w'.cell? ⟨r, 3, none⟩ = some (.int .i64 s.task) ∧ w'.cell? ⟨r, 6, none⟩ = some (.int .u32 s.f.a) ∧ w'.cell? ⟨tb, 0, none⟩ = some (.pointer (some ⟨r, 4, none⟩)))
    (first | (refine RunHas.sees_box (S0 := S0) (w0 := w0) (m := m) (a := a) (rs := .blk g (i64s nl).toArray :: rs) (s := s) ?_; first | with_reducible assumption | with_reducible exact HW.drew | with_reducible exact H1.drew))
    (first | (go_at_call 78; refine (mx_other _ _ HA.out).mono ?_; rintro e w9 ⟨rfl, rfl⟩) | (go_at_call 76; refine (HBL.out _).mono ?_; rintro e w2 ⟨rfl, t2⟩; have H2 := RunHas.grow H1.drew t2))
  obtain ⟨p0, p2, p4, p5, p6, p7⟩ := H2.facts hop hl rfl rfl
  go_wp2_with fail
  refine (rn_store H2 (cellP s.n 1 (s.f.a - 1)) 0 (by decide)).mono ?_
  rintro e w3 ⟨rfl, H3⟩
  go_wp2_with fail
  refine (mx_noted H3.swap12 hnl (by have := HC.out; simp [Rn.did]; omega)).mono ?_
  rintro e w4 ⟨rfl, H4⟩
  go_wp2_with fail
  refine (rn_wake H4.swap12 (cellP s.n 1 (s.f.a - 1))).mono ?_
  rintro e w5 ⟨rfl, H5⟩
  go_wp2_with fail
  go_ret
  exact ⟨rfl, H5.unbox⟩

def mxGnone (s : Rn) : Rn := s
set_option maxHeartbeats 1600000 in
theorem mx_gnone {S0 : List Nat} {w0 w : World} {m a r : Nat} {rs : List Res} {s : Rn} (tail q : Int) {g nn c : Nat} {nl : List Int} (hnl : nl.length = nn) (hq : 0 ≤ q ∧ q ≤ 100) (hc : s.notes.length + nl.length ≤ 900) (H : RunHas S0 w0 m a r (.blk g (i64s nl).toArray :: rs) s w) {l : Int} (hl : s.f.line = l) (k0 : ¬ wrap64 (l - q) = 0) (k1 : ¬ wrap64 (l - q) = 1) (k2 : ¬ wrap64 (l - q) = 2) (k3 : ¬ wrap64 (l - q) = 3) (hn : I64 s.n) (ha : 0 ≤ s.f.a ∧ s.f.a < 4294967296) :
    Calls Try.prog 28 #[.pointer (some ⟨r, 0, none⟩), .int .i64 tail, .int .i64 q, .slice (some ⟨g, 0, none⟩) nn c] w fun e w' => e = .returned (.bool false) ∧ RunHas S0 w0 m a r (.blk g (i64s nl).toArray :: rs) s w' := by
  obtain ⟨o, hop⟩ : ∃ o, s.f.op = o := ⟨_, rfl⟩
  have hne := H.ne_first
  obtain ⟨z0, z2, z4, z5, z6, z7⟩ := H.facts hop hl rfl rfl
  have HA := Lib.hid ha
  have HC := Lib.hid hc
  have HQ := Lib.hid hq
  have HNX := Lib.hid (fun W => mapNext s.n s.task W hn)
  have HH := Lib.hid (H.box rfl #[.pointer (some ⟨r, 4, none⟩)] 102)
  clear H ha hc hn
  go_enter Try.func28, Try.ntmps28
  go_wp2_with fail
  have HW := HH.out
  generalize w.heap.size = tb at HW ⊢
  generalize w.alloc _ = W at HW ⊢
  obtain ⟨z0, z2, z4, z5, z6, z7⟩ := HW.facts hop hl rfl rfl
  obtain ⟨y1, y2, y3⟩ := HW.whose rfl rfl rfl
  obtain ⟨u0, u1, u2⟩ := HW.first.own
  go_region_held3 (fun w' => w'.cell? ⟨r, 1, none⟩ = some (.int .i64 s.n) ∧ w'.cell? ⟨r, 3, none⟩ = some (.int .i64 s.task) ∧ w'.cell? ⟨r, 6, none⟩ = some (.int .u32 s.f.a) ∧ w'.cell? ⟨tb, 0, none⟩ = some (.pointer (some ⟨r, 4, none⟩)))
    (first | (refine RunHas.sees_box (S0 := S0) (w0 := w0) (m := m) (a := a) (rs := .blk g (i64s nl).toArray :: rs) (s := s) ?_; first | with_reducible assumption | with_reducible exact HW.drew))
    (first | (go_at_call 75; refine (HNX.out _).mono ?_; rintro e w1 ⟨rfl, t1⟩; have H1 := RunHas.grow HW.drew t1))
  clear u0 u1 u2 z0 z2 z4 z5 z6 z7 y1 y2 y3
  obtain ⟨x0, x2, x4, x5, x6, x7⟩ := H1.facts hop hl rfl rfl
  obtain ⟨v1, v2, v3⟩ := H1.whose rfl rfl rfl
  obtain ⟨u0, u1, u2⟩ := H1.first.own
  go_wp2_with fail
  go_ret
  exact ⟨rfl, H1.unbox⟩

/-- A line of who gives the queue on. -/
def mxGive (tail q : Int) (nl : List Int) (s : Rn) : Bool × Rn :=
  if wrap64 (s.f.line - q) = 0 then (false, mxG0 q s) else if wrap64 (s.f.line - q) = 1 then mxG1 tail q nl s else if wrap64 (s.f.line - q) = 2 then (false, mxG2 q s) else if wrap64 (s.f.line - q) = 3 then (true, mxG3 nl s) else (false, s)
theorem mx_give {S0 : List Nat} {w0 w : World} {m a r : Nat} {rs : List Res} {s : Rn} (tail q : Int) {g nn c : Nat} {nl : List Int} (hnl : nl.length = nn) (hq : 0 ≤ q ∧ q ≤ 100) (hc : s.notes.length + nl.length ≤ 900) (H : RunHas S0 w0 m a r (.blk g (i64s nl).toArray :: rs) s w) (hn : I64 s.n) (ha : 0 ≤ s.f.a ∧ s.f.a < 4294967296) :
    Calls Try.prog 28 #[.pointer (some ⟨r, 0, none⟩), .int .i64 tail, .int .i64 q, .slice (some ⟨g, 0, none⟩) nn c] w fun e w' => e = .returned (.bool (mxGive tail q nl s).1) ∧ RunHas S0 w0 m a r (.blk g (i64s nl).toArray :: rs) (mxGive tail q nl s).2 w' := by
  unfold mxGive
  split
  · exact mx_g0 tail q hnl hq hc H rfl (by assumption) hn ha
  split
  · exact mx_g1 tail q hnl hq hc H rfl (by assumption) hn ha
  split
  · exact mx_g2 tail q hnl hq hc H rfl (by assumption) hn ha
  split
  · exact mx_g3 tail q hnl hq hc H rfl (by assumption) hn ha
  · exact mx_gnone tail q hnl hq hc H rfl (by assumption) (by assumption) (by assumption) (by assumption) hn ha

end Go.Proofs.Ytlndihdlodempaa.Z

/- The document's answer of layer 12: its small functions, and entering. Written by genxmx.py. -/
set_option linter.unusedVariables false
set_option linter.unusedSimpArgs false
namespace Go.Proofs.Ytlndihdlodempaa.Z
open Go.RowKit

attribute [local go_sem ↓] Go.wp_at_zero Go.wp_at_succ

theorem xn_store {S0 : List Nat} {w0 w : World} {p : Option Addr} {g cap x : Nat} {rs : List Res} {s : Rn} (H : XHas S0 w0 p g cap x rs s w) (c u : Int) (hu : 0 ≤ u ∧ u < 4294967296) :
    Calls Try.prog 64 #[.pointer (some ⟨x, 0, none⟩), .int .i64 c, .int .u32 u] w fun e w' => e = .returned (.tuple #[]) ∧ XHas S0 w0 p g cap x rs (s.did (doA s.L ⟨2, c, u, 0, 0⟩)) w' := by
  obtain ⟨nv, H⟩ := H
  exact (x_store H c u hu).mono fun e w' h => ⟨h.1, nv, h.2⟩
theorem xn_swap {S0 : List Nat} {w0 w : World} {p : Option Addr} {g cap x : Nat} {rs : List Res} {s : Rn} (H : XHas S0 w0 p g cap x rs s w) (c u : Int) (hu : 0 ≤ u ∧ u < 4294967296) :
    Calls Try.prog 66 #[.pointer (some ⟨x, 0, none⟩), .int .i64 c, .int .u32 u] w fun e w' => e = .returned (.int .u32 (doA s.L ⟨4, c, u, 0, 0⟩).1.old) ∧ XHas S0 w0 p g cap x rs (s.did (doA s.L ⟨4, c, u, 0, 0⟩)) w' := by
  obtain ⟨nv, H⟩ := H
  exact (x_swap H c u hu).mono fun e w' h => ⟨h.1, nv, h.2⟩
theorem XHas.whose {S0 : List Nat} {w0 w : World} {p : Option Addr} {g cap x : Nat} {rs : List Res} {s : Rn} (H : XHas S0 w0 p g cap x rs s w) {n mode t : Int} (hn : s.n = n) (hm : s.mode = mode) (ht : s.task = t) :
    w.cell? ⟨x, 1, none⟩ = some (.int .i64 n) ∧ w.cell? ⟨x, 2, none⟩ = some (.int .i64 mode) ∧ w.cell? ⟨x, 3, none⟩ = some (.int .i64 t) := by
  obtain ⟨nv, H⟩ := H
  subst hn hm ht
  obtain ⟨x0, x1, x2⟩ := H.blk1.own
  exact ⟨x1 1, x1 2, x1 3⟩
theorem XHas.old18 {S0 : List Nat} {w0 w : World} {p : Option Addr} {g cap x : Nat} {rs : List Res} {s : Rn} (H : XHas S0 w0 p g cap x rs s w) {o : Int} (ho : s.acc.old = o) : w.cell? ⟨x, 18, none⟩ = some (.int .u32 o) := by
  obtain ⟨nv, H⟩ := H
  subst ho
  exact H.blk1.own.2.1 18

theorem xm_next {S0 : List Nat} {w0 w : World} {p : Option Addr} {g cap x : Nat} {rs : List Res} {s : Rn} (H : XHas S0 w0 p g cap x rs s w) (t : Int) :
    Calls Try.prog 80 #[.pointer (some ⟨x, 0, none⟩), .int .i64 t] w fun e w' => e = .returned (.int .i64 (cellP s.n 0 t)) ∧ w = w' := by
  obtain ⟨y1, y2, y3⟩ := H.whose rfl rfl rfl
  go_enter Try.func80, Try.ntmps80
  go_wp2_with fail
  refine (refCell_any s.n 0 t _ (by decide)).mono ?_
  rintro e w1 ⟨rfl, rfl⟩
  go_wp2_with fail
  go_ret
  exact ⟨rfl, rfl⟩

theorem xm_blocked {S0 : List Nat} {w0 w : World} {p : Option Addr} {g cap x : Nat} {rs : List Res} {s : Rn} (H : XHas S0 w0 p g cap x rs s w) (t : Int) :
    Calls Try.prog 81 #[.pointer (some ⟨x, 0, none⟩), .int .i64 t] w fun e w' => e = .returned (.int .i64 (cellP s.n 1 t)) ∧ w = w' := by
  obtain ⟨y1, y2, y3⟩ := H.whose rfl rfl rfl
  go_enter Try.func81, Try.ntmps81
  go_wp2_with fail
  refine (refCell_any s.n 1 t _ (by decide)).mono ?_
  rintro e w1 ⟨rfl, rfl⟩
  go_wp2_with fail
  go_ret
  exact ⟨rfl, rfl⟩

theorem xm_T {S0 : List Nat} {w0 w : World} {p : Option Addr} {g cap x : Nat} {rs : List Res} {s : Rn} (H : XHas S0 w0 p g cap x rs s w) : Calls Try.prog 82 #[.pointer (some ⟨x, 0, none⟩)] w fun e w' => e = .returned (.int .u32 (mxOwn s)) ∧ w = w' := by
  obtain ⟨y1, y2, y3⟩ := H.whose rfl rfl rfl
  go_enter Try.func82, Try.ntmps82
  go_wp2
  go_ret
  refine ⟨?_, rfl⟩
  show Ending.returned (Value.int .u32 _) = Ending.returned (Value.int .u32 _)
  unfold mxOwn
  congr 2
  omega

set_option maxHeartbeats 800000 in
theorem xm_noted {S0 : List Nat} {w0 w : World} {p : Option Addr} {g cap x : Nat} {rs : List Res} {s : Rn} {A : Option Addr} {nn c : Nat} {l : List Int} (hN : ∀ W s', XHas S0 w0 p g cap x rs s' W → Rd W 1 A nn (i64s l)) (H : XHas S0 w0 p g cap x rs s w) (hn : l.length = nn) (hc : s.notes.length + l.length ≤ 1000) :
    Calls Try.prog 85 #[.pointer (some ⟨x, 0, none⟩), .slice A nn c] w fun e w' => e = .returned (.tuple #[]) ∧ XHas S0 w0 p g cap x rs (s.noted l) w' := by
  subst hn
  have hll : l.length ≤ 1000 := by omega
  have HC := Lib.hid hc
  have HH := Lib.hid H
  clear hc H
  go_enter Try.func85, Try.ntmps85
  go_wp2_with fail
  go_loopw [4] (fun i wr => ∃ k : Nat, k ≤ l.length ∧ i = .int .i64 k ∧ XHas S0 w0 p g cap x rs (s.noted (l.take k)) wr) (fun i _ => l.length - (intOf i).toNat)
  case atStart => exact ⟨0, Nat.zero_le _, rfl, HH.out⟩
  case round =>
    obtain ⟨k, hk, rfl, hH⟩ := hrel
    have HK := Lib.hid hH
    clear hH
    by_cases hlt : k < l.length
    · obtain ⟨b, off, rfl, hbl, hcell⟩ := i64s_at (hN _ _ HK.out) hlt
      obtain ⟨y, hx⟩ : ∃ y, l.getD k 0 = y := ⟨_, rfl⟩
      rw [hx] at hcell
      have HX := Lib.hid hx
      clear hx
      have hi : (k : Int) < (l.length : Int) := by omega
      go_wp2_with fail
      refine (x_note HK.out (by rw [noted_notes]; have := HC.out; simp only [List.length_take]; omega) y 0).mono ?_
      rintro e w1 ⟨rfl, H1⟩
      go_wp2
      exact ⟨⟨k + 1, by omega, by go_num, by rw [noted_succ s l k hlt, HX.out]; exact H1⟩, by simp [intOf]; omega⟩
    · have hkn : k = l.length := by omega
      subst hkn
      have hi : (l.length : Int) ≤ (l.length : Int) := Int.le_refl _
      have H2 := HK.out
      rw [List.take_length] at H2
      clear HK hlt hk
      go_wp2_with fail
      go_end0
      exact ⟨rfl, H2⟩

set_option maxHeartbeats 800000 in
set_option maxRecDepth 100000 in
theorem xm_e0 {S0 : List Nat} {w0 w : World} {p : Option Addr} {g cap x : Nat} {rs : List Res} {s : Rn} (H : XHas S0 w0 p g cap x rs s w) (tail cls : Int) (ha : 0 ≤ s.f.a ∧ s.f.a < 4294967296) (hl : s.f.line = 0) :
    Calls Try.prog 27 #[.pointer (some ⟨x, 0, none⟩), .int .i64 tail, .int .i64 cls] w fun e w' => e = .returned (.bool false) ∧ XHas S0 w0 p g cap x rs (mxE0 s) w' := by
  obtain ⟨o, hop⟩ : ∃ o, s.f.op = o := ⟨_, rfl⟩
  obtain ⟨z0, z2, z4, z5, z6, z7⟩ := H.facts hop hl rfl rfl
  obtain ⟨y1, y2, y3⟩ := H.whose rfl rfl rfl
  have HA := Lib.hid ha
  have HH := Lib.hid H
  clear H ha
  go_enter Try.func27, Try.ntmps27
  go_wp2_with fail
  refine (xm_next HH.out s.task).mono ?_
  rintro e w1 ⟨rfl, rfl⟩
  go_wp2_with fail
  refine (xn_store HH.out (cellP s.n 0 s.task) 0 (by decide)).mono ?_
  rintro e w2 ⟨rfl, H2⟩
  obtain ⟨x0, x2, x4, x5, x6, x7⟩ := H2.facts hop hl rfl rfl
  go_wp2_with fail
  first | go_ret | go_ret2
  exact ⟨rfl, (H2.goto 1)⟩

set_option maxHeartbeats 800000 in
set_option maxRecDepth 100000 in
theorem xm_e1 {S0 : List Nat} {w0 w : World} {p : Option Addr} {g cap x : Nat} {rs : List Res} {s : Rn} (H : XHas S0 w0 p g cap x rs s w) (tail cls : Int) (ha : 0 ≤ s.f.a ∧ s.f.a < 4294967296) (hl : s.f.line = 1) :
    Calls Try.prog 27 #[.pointer (some ⟨x, 0, none⟩), .int .i64 tail, .int .i64 cls] w fun e w' => e = .returned (.bool false) ∧ XHas S0 w0 p g cap x rs (mxE1 s) w' := by
  obtain ⟨o, hop⟩ : ∃ o, s.f.op = o := ⟨_, rfl⟩
  obtain ⟨z0, z2, z4, z5, z6, z7⟩ := H.facts hop hl rfl rfl
  obtain ⟨y1, y2, y3⟩ := H.whose rfl rfl rfl
  have HA := Lib.hid ha
  have HH := Lib.hid H
  clear H ha
  go_enter Try.func27, Try.ntmps27
  go_wp2_with fail
  refine (xm_blocked HH.out s.task).mono ?_
  rintro e w1 ⟨rfl, rfl⟩
  go_wp2_with fail
  refine (xn_store HH.out (cellP s.n 1 s.task) 1 (by decide)).mono ?_
  rintro e w2 ⟨rfl, H2⟩
  obtain ⟨x0, x2, x4, x5, x6, x7⟩ := H2.facts hop hl rfl rfl
  go_wp2_with fail
  first | go_ret | go_ret2
  exact ⟨rfl, (H2.goto 2)⟩

set_option maxHeartbeats 800000 in
set_option maxRecDepth 100000 in
theorem xm_e2 {S0 : List Nat} {w0 w : World} {p : Option Addr} {g cap x : Nat} {rs : List Res} {s : Rn} (H : XHas S0 w0 p g cap x rs s w) (tail cls : Int) (hc : s.notes.length ≤ 900) (ha : 0 ≤ s.f.a ∧ s.f.a < 4294967296) (hl : s.f.line = 2) :
    Calls Try.prog 27 #[.pointer (some ⟨x, 0, none⟩), .int .i64 tail, .int .i64 cls] w fun e w' => e = .returned (.bool (mxE2 tail cls s).1) ∧ XHas S0 w0 p g cap x rs ((mxE2 tail cls s).2) w' := by
  obtain ⟨o, hop⟩ : ∃ o, s.f.op = o := ⟨_, rfl⟩
  obtain ⟨z0, z2, z4, z5, z6, z7⟩ := H.facts hop hl rfl rfl
  obtain ⟨y1, y2, y3⟩ := H.whose rfl rfl rfl
  have HA := Lib.hid ha
  have HH := Lib.hid H
  clear H ha
  have hsw := fun W (H : XHas S0 w0 p g cap x rs s W) => xn_swap H tail (mxOwn s) (mxOwn_word s)
  have HC := Lib.hid hc
  unfold mxE2
  (try dsimp only)
  have HSW := Lib.hid hsw
  clear hsw hc
  by_cases hz : (doA s.L ⟨4, tail, mxOwn s, 0, 0⟩).1.old = 0
  · simp only [if_pos hz]
    have hzb : ((doA s.L ⟨4, tail, mxOwn s, 0, 0⟩).1.old != 0) = false := by simpa using hz
    have hzc : ((doA s.L ⟨4, tail, mxOwn s, 0, 0⟩).1.old == 0) = true := by simpa using hz
    clear hz
    go_enter Try.func27, Try.ntmps27
    go_wp2_with fail
    refine (xm_T HH.out).mono ?_
    rintro e w1 ⟨rfl, rfl⟩
    go_wp2_with fail
    refine (HSW.out _ HH.out).mono ?_
    rintro e w2 ⟨rfl, H2⟩
    obtain ⟨x0, x2, x4, x5, x6, x7⟩ := H2.facts hop hl rfl rfl
    go_wp2_with fail
    refine (x_note (H2.setA (doA s.L ⟨4, tail, mxOwn s, 0, 0⟩).1.old) (by have := HC.out; first | exact Nat.le_trans this (by decide) | (simp [Rn.note, Rn.did, Rn.setA, Rn.setB, Rn.waited, Rn.goto, Rn.noted]; omega)) 2 cls).mono ?_
    rintro e w3 ⟨rfl, H3⟩
    obtain ⟨x0, x2, x4, x5, x6, x7⟩ := H3.facts hop hl (y := (doA s.L ⟨4, tail, mxOwn s, 0, 0⟩).1.old) rfl rfl
    go_wp2_with fail
    first | go_ret | go_ret2
    exact ⟨rfl, H3⟩
  · simp only [if_neg hz]
    have hzb : ((doA s.L ⟨4, tail, mxOwn s, 0, 0⟩).1.old != 0) = true := by simpa using hz
    have hzc : ((doA s.L ⟨4, tail, mxOwn s, 0, 0⟩).1.old == 0) = false := by simpa using hz
    clear hz
    go_enter Try.func27, Try.ntmps27
    go_wp2_with fail
    refine (xm_T HH.out).mono ?_
    rintro e w1 ⟨rfl, rfl⟩
    go_wp2_with fail
    refine (HSW.out _ HH.out).mono ?_
    rintro e w2 ⟨rfl, H2⟩
    obtain ⟨x0, x2, x4, x5, x6, x7⟩ := H2.facts hop hl rfl rfl
    go_wp2_with fail
    refine (x_note (H2.setA (doA s.L ⟨4, tail, mxOwn s, 0, 0⟩).1.old) (by have := HC.out; first | exact Nat.le_trans this (by decide) | (simp [Rn.note, Rn.did, Rn.setA, Rn.setB, Rn.waited, Rn.goto, Rn.noted]; omega)) 2 cls).mono ?_
    rintro e w3 ⟨rfl, H3⟩
    obtain ⟨x0, x2, x4, x5, x6, x7⟩ := H3.facts hop hl (y := (doA s.L ⟨4, tail, mxOwn s, 0, 0⟩).1.old) rfl rfl
    go_wp2_with fail
    first | go_ret | go_ret2
    exact ⟨rfl, (H3.goto 3)⟩

set_option maxHeartbeats 800000 in
set_option maxRecDepth 100000 in
theorem xm_e3 {S0 : List Nat} {w0 w : World} {p : Option Addr} {g cap x : Nat} {rs : List Res} {s : Rn} (H : XHas S0 w0 p g cap x rs s w) (tail cls : Int) (ha : 0 ≤ s.f.a ∧ s.f.a < 4294967296) (hl : s.f.line = 3) :
    Calls Try.prog 27 #[.pointer (some ⟨x, 0, none⟩), .int .i64 tail, .int .i64 cls] w fun e w' => e = .returned (.bool false) ∧ XHas S0 w0 p g cap x rs (mxE3 s) w' := by
  obtain ⟨o, hop⟩ : ∃ o, s.f.op = o := ⟨_, rfl⟩
  obtain ⟨z0, z2, z4, z5, z6, z7⟩ := H.facts hop hl rfl rfl
  obtain ⟨y1, y2, y3⟩ := H.whose rfl rfl rfl
  have hwr : IntKind.i64.wrap (s.f.a - 1) = s.f.a - 1 := IntWalk.i64_in _ (by omega)
  have hb1 : -1 ≤ s.f.a - 1 ∧ s.f.a - 1 < 4294967296 := by omega
  have HA := Lib.hid ha
  have HH := Lib.hid H
  clear H ha
  go_enter Try.func27, Try.ntmps27
  go_wp2_with fail
  refine (xm_next HH.out (s.f.a - 1)).mono ?_
  rintro e w1 ⟨rfl, rfl⟩
  go_wp2_with fail
  refine (xm_T HH.out).mono ?_
  rintro e w2 ⟨rfl, rfl⟩
  go_wp2_with fail
  refine (xn_store HH.out (cellP s.n 0 (s.f.a - 1)) (mxOwn s) (mxOwn_word s)).mono ?_
  rintro e w3 ⟨rfl, H3⟩
  obtain ⟨x0, x2, x4, x5, x6, x7⟩ := H3.facts hop hl rfl rfl
  go_wp2_with fail
  refine (xn_wake H3 (cellP s.n 0 (s.f.a - 1))).mono ?_
  rintro e w4 ⟨rfl, H4⟩
  obtain ⟨x0, x2, x4, x5, x6, x7⟩ := H4.facts hop hl rfl rfl
  go_wp2_with fail
  first | go_ret | go_ret2
  exact ⟨rfl, (H4.goto 4)⟩

set_option maxHeartbeats 800000 in
set_option maxRecDepth 100000 in
theorem xm_e4 {S0 : List Nat} {w0 w : World} {p : Option Addr} {g cap x : Nat} {rs : List Res} {s : Rn} (H : XHas S0 w0 p g cap x rs s w) (tail cls : Int) (ha : 0 ≤ s.f.a ∧ s.f.a < 4294967296) (hl : s.f.line = 4) :
    Calls Try.prog 27 #[.pointer (some ⟨x, 0, none⟩), .int .i64 tail, .int .i64 cls] w fun e w' => e = .returned (.bool (mxE4 s).1) ∧ XHas S0 w0 p g cap x rs ((mxE4 s).2) w' := by
  obtain ⟨o, hop⟩ : ∃ o, s.f.op = o := ⟨_, rfl⟩
  obtain ⟨z0, z2, z4, z5, z6, z7⟩ := H.facts hop hl rfl rfl
  obtain ⟨y1, y2, y3⟩ := H.whose rfl rfl rfl
  have HA := Lib.hid ha
  have HH := Lib.hid H
  clear H ha
  have hwt := fun W (H : XHas S0 w0 p g cap x rs s W) => xn_wait H (cellP s.n 1 s.task) 0 4294967295 0
  rw [waitA_like (q := fun v => v == 0) HH.out.words_ (fun v hv => untilA_all _ hv)] at hwt
  unfold mxE4
  have HWT := Lib.hid hwt
  clear hwt
  go_enter Try.func27, Try.ntmps27
  go_wp2_with fail
  refine (xm_blocked HH.out s.task).mono ?_
  rintro e w1 ⟨rfl, rfl⟩
  go_wp2_with fail
  refine (HWT.out _ HH.out).mono ?_
  rintro e w2 ⟨rfl, H2⟩
  obtain ⟨x0, x2, x4, x5, x6, x7⟩ := H2.facts hop hl rfl rfl
  go_wp2_with fail
  first | go_ret | go_ret2
  exact ⟨rfl, H2⟩

set_option maxHeartbeats 800000 in
theorem xm_en {S0 : List Nat} {w0 w : World} {p : Option Addr} {g cap x : Nat} {rs : List Res} {s : Rn} (H : XHas S0 w0 p g cap x rs s w) (tail cls : Int) {l : Int} (hl : s.f.line = l) (h : l ≠ 0 ∧ l ≠ 1 ∧ l ≠ 2 ∧ l ≠ 3 ∧ l ≠ 4) :
    Calls Try.prog 27 #[.pointer (some ⟨x, 0, none⟩), .int .i64 tail, .int .i64 cls] w fun e w' => e = .returned (.bool false) ∧ XHas S0 w0 p g cap x rs s w' := by
  obtain ⟨z0, z2, z4, z5, z6, z7⟩ := H.facts rfl hl rfl rfl
  obtain ⟨h0, h1, h2, h3, h4⟩ := h
  have b0 : (l == 0) = false := by simpa using h0
  have b1 : (l == 1) = false := by simpa using h1
  have b2 : (l == 2) = false := by simpa using h2
  have b3 : (l == 3) = false := by simpa using h3
  have b4 : (l == 4) = false := by simpa using h4
  have HH := Lib.hid H
  clear H h0 h1 h2 h3 h4 hl
  go_enter Try.func27, Try.ntmps27
  go_wp2_with fail
  go_ret
  exact ⟨rfl, HH.out⟩
/-- Entering, whatever the line. -/
theorem xm_enter {S0 : List Nat} {w0 w : World} {p : Option Addr} {g cap x : Nat} {rs : List Res} {s : Rn} (H : XHas S0 w0 p g cap x rs s w) (tail cls : Int) (ha : 0 ≤ s.f.a ∧ s.f.a < 4294967296) (hc : s.notes.length ≤ 900) :
    Calls Try.prog 27 #[.pointer (some ⟨x, 0, none⟩), .int .i64 tail, .int .i64 cls] w fun e w' => e = .returned (.bool (mxEnter tail cls s).1) ∧ XHas S0 w0 p g cap x rs (mxEnter tail cls s).2 w' := by
  unfold mxEnter
  by_cases h0 : s.f.line = 0
  · simp only [if_pos h0]; exact xm_e0 H tail cls ha h0
  simp only [if_neg h0]
  by_cases h1 : s.f.line = 1
  · simp only [if_pos h1]; exact xm_e1 H tail cls ha h1
  simp only [if_neg h1]
  by_cases h2 : s.f.line = 2
  · simp only [if_pos h2]; exact xm_e2 H tail cls hc ha h2
  simp only [if_neg h2]
  by_cases h3 : s.f.line = 3
  · simp only [if_pos h3]; exact xm_e3 H tail cls ha h3
  simp only [if_neg h3]
  by_cases h4 : s.f.line = 4
  · simp only [if_pos h4]; exact xm_e4 H tail cls ha h4
  simp only [if_neg h4]
  exact xm_en H tail cls rfl ⟨h0, h1, h2, h3, h4⟩

end Go.Proofs.Ytlndihdlodempaa.Z

/- The document's answer of layer 12: giving on, and a try. Written by genxmx.py. -/
set_option linter.unusedVariables false
set_option linter.unusedSimpArgs false
namespace Go.Proofs.Ytlndihdlodempaa.Z
open Go.RowKit

attribute [local go_sem ↓] Go.wp_at_zero Go.wp_at_succ

set_option maxHeartbeats 800000 in
set_option maxRecDepth 100000 in
theorem xm_g0 {S0 : List Nat} {w0 w : World} {p : Option Addr} {g cap x : Nat} {rs : List Res} {s : Rn} (H : XHas S0 w0 p g cap x rs s w) (tail q : Int) (hq : -1000 ≤ q ∧ q ≤ 1000) {A : Option Addr} {nn c : Nat} {nl : List Int} (hnl : nl.length = nn) (hN : ∀ W s', XHas S0 w0 p g cap x rs s' W → Rd W 1 A nn (i64s nl)) (hc : s.notes.length + nl.length ≤ 900) (ha : 0 ≤ s.f.a ∧ s.f.a < 4294967296) (hl : s.f.line = q) :
    Calls Try.prog 29 #[.pointer (some ⟨x, 0, none⟩), .int .i64 tail, .int .i64 q, .slice A nn c] w fun e w' => e = .returned (.bool false) ∧ XHas S0 w0 p g cap x rs (mxG0 q s) w' := by
  obtain ⟨o, hop⟩ : ∃ o, s.f.op = o := ⟨_, rfl⟩
  obtain ⟨z0, z2, z4, z5, z6, z7⟩ := H.facts hop hl rfl rfl
  obtain ⟨y1, y2, y3⟩ := H.whose rfl rfl rfl
  have w1 : IntKind.i64.wrap (q + 1) = q + 1 := IntWalk.i64_in _ (by omega)
  have w2 : IntKind.i64.wrap (q + 2) = q + 2 := IntWalk.i64_in _ (by omega)
  have w3 : IntKind.i64.wrap (q + 3) = q + 3 := IntWalk.i64_in _ (by omega)
  have d0 : (q == q) = true := by first | (simp; done) | (simp; omega)
  have HC := Lib.hid hc
  clear hc
  have HA := Lib.hid ha
  have HH := Lib.hid H
  clear H ha
  have hld := fun W (H : XHas S0 w0 p g cap x rs s W) => xn_load H (cellP s.n 0 s.task)
  unfold mxG0
  (try dsimp only)
  have HLD := Lib.hid hld
  clear hld
  by_cases hz : (doA s.L ⟨1, (cellP s.n 0 s.task), 0, 0, 0⟩).1.old = 0
  · simp only [if_pos hz]
    have hzb : ((doA s.L ⟨1, (cellP s.n 0 s.task), 0, 0, 0⟩).1.old != 0) = false := by simpa using hz
    clear hz
    go_enter Try.func29, Try.ntmps29
    go_wp2_with fail
    refine (xm_next HH.out s.task).mono ?_
    rintro e w1 ⟨rfl, rfl⟩
    go_wp2_with fail
    refine (HLD.out _ HH.out).mono ?_
    rintro e w2 ⟨rfl, H2⟩
    obtain ⟨x0, x2, x4, x5, x6, x7⟩ := H2.facts hop hl rfl rfl
    go_wp2_with fail
    first | go_ret | go_ret2
    exact ⟨rfl, ((H2.setA (doA s.L ⟨1, (cellP s.n 0 s.task), 0, 0, 0⟩).1.old).goto (q + 1))⟩
  · simp only [if_neg hz]
    have hzb : ((doA s.L ⟨1, (cellP s.n 0 s.task), 0, 0, 0⟩).1.old != 0) = true := by simpa using hz
    clear hz
    go_enter Try.func29, Try.ntmps29
    go_wp2_with fail
    refine (xm_next HH.out s.task).mono ?_
    rintro e w1 ⟨rfl, rfl⟩
    go_wp2_with fail
    refine (HLD.out _ HH.out).mono ?_
    rintro e w2 ⟨rfl, H2⟩
    obtain ⟨x0, x2, x4, x5, x6, x7⟩ := H2.facts hop hl rfl rfl
    go_wp2_with fail
    first | go_ret | go_ret2
    exact ⟨rfl, (((H2.setA (doA s.L ⟨1, (cellP s.n 0 s.task), 0, 0, 0⟩).1.old).goto (q + 1)).goto (q + 3))⟩

set_option maxHeartbeats 800000 in
set_option maxRecDepth 100000 in
theorem xm_g1 {S0 : List Nat} {w0 w : World} {p : Option Addr} {g cap x : Nat} {rs : List Res} {s : Rn} (H : XHas S0 w0 p g cap x rs s w) (tail q : Int) (hq : -1000 ≤ q ∧ q ≤ 1000) {A : Option Addr} {nn c : Nat} {nl : List Int} (hnl : nl.length = nn) (hN : ∀ W s', XHas S0 w0 p g cap x rs s' W → Rd W 1 A nn (i64s nl)) (hc : s.notes.length + nl.length ≤ 900) (ha : 0 ≤ s.f.a ∧ s.f.a < 4294967296) (hl : s.f.line = q + 1) :
    Calls Try.prog 29 #[.pointer (some ⟨x, 0, none⟩), .int .i64 tail, .int .i64 q, .slice A nn c] w fun e w' => e = .returned (.bool (mxG1 tail q nl s).1) ∧ XHas S0 w0 p g cap x rs ((mxG1 tail q nl s).2) w' := by
  obtain ⟨o, hop⟩ : ∃ o, s.f.op = o := ⟨_, rfl⟩
  obtain ⟨z0, z2, z4, z5, z6, z7⟩ := H.facts hop hl rfl rfl
  obtain ⟨y1, y2, y3⟩ := H.whose rfl rfl rfl
  have w1 : IntKind.i64.wrap (q + 1) = q + 1 := IntWalk.i64_in _ (by omega)
  have w2 : IntKind.i64.wrap (q + 2) = q + 2 := IntWalk.i64_in _ (by omega)
  have w3 : IntKind.i64.wrap (q + 3) = q + 3 := IntWalk.i64_in _ (by omega)
  have d0 : ((q + 1) == q) = false := by first | (simp; done) | (simp; omega)
  have d1 : ((q + 1) == q + 1) = true := by first | (simp; done) | (simp; omega)
  have HC := Lib.hid hc
  clear hc
  have HA := Lib.hid ha
  have HH := Lib.hid H
  clear H ha
  have hcas := fun W (H : XHas S0 w0 p g cap x rs s W) => xn_cas H tail (mxOwn s) 0 (mxOwn_word s) (by decide)
  unfold mxG1
  cases hb : casB s.L tail (mxOwn s) 0 with
  | true =>
    rw [hb] at hcas
    simp only [if_true]
    have HCAS := Lib.hid hcas
    clear hcas hb
    go_enter Try.func29, Try.ntmps29
    go_wp2_with fail
    refine (xm_T HH.out).mono ?_
    rintro e w1 ⟨rfl, rfl⟩
    go_wp2_with fail
    refine (HCAS.out _ HH.out).mono ?_
    rintro e w2 ⟨rfl, H2⟩
    obtain ⟨x0, x2, x4, x5, x6, x7⟩ := H2.facts hop hl rfl rfl
    go_wp2_with fail
    refine (xm_noted hN H2 hnl (by have := HC.out; simp [Rn.did]; omega)).mono ?_
    rintro e w3 ⟨rfl, H3⟩
    go_wp2_with fail
    first | go_ret | go_ret2
    exact ⟨rfl, H3⟩
  | false =>
    rw [hb] at hcas
    simp only [Bool.false_eq_true, if_false]
    have HCAS := Lib.hid hcas
    clear hcas hb
    go_enter Try.func29, Try.ntmps29
    go_wp2_with fail
    refine (xm_T HH.out).mono ?_
    rintro e w1 ⟨rfl, rfl⟩
    go_wp2_with fail
    refine (HCAS.out _ HH.out).mono ?_
    rintro e w2 ⟨rfl, H2⟩
    obtain ⟨x0, x2, x4, x5, x6, x7⟩ := H2.facts hop hl rfl rfl
    go_wp2_with fail
    first | go_ret | go_ret2
    exact ⟨rfl, (H2.goto (q + 2))⟩

set_option maxHeartbeats 800000 in
set_option maxRecDepth 100000 in
theorem xm_g2 {S0 : List Nat} {w0 w : World} {p : Option Addr} {g cap x : Nat} {rs : List Res} {s : Rn} (H : XHas S0 w0 p g cap x rs s w) (tail q : Int) (hq : -1000 ≤ q ∧ q ≤ 1000) {A : Option Addr} {nn c : Nat} {nl : List Int} (hnl : nl.length = nn) (hN : ∀ W s', XHas S0 w0 p g cap x rs s' W → Rd W 1 A nn (i64s nl)) (hc : s.notes.length + nl.length ≤ 900) (ha : 0 ≤ s.f.a ∧ s.f.a < 4294967296) (hl : s.f.line = q + 2) :
    Calls Try.prog 29 #[.pointer (some ⟨x, 0, none⟩), .int .i64 tail, .int .i64 q, .slice A nn c] w fun e w' => e = .returned (.bool false) ∧ XHas S0 w0 p g cap x rs (mxG2 q s) w' := by
  obtain ⟨o, hop⟩ : ∃ o, s.f.op = o := ⟨_, rfl⟩
  obtain ⟨z0, z2, z4, z5, z6, z7⟩ := H.facts hop hl rfl rfl
  obtain ⟨y1, y2, y3⟩ := H.whose rfl rfl rfl
  have w1 : IntKind.i64.wrap (q + 1) = q + 1 := IntWalk.i64_in _ (by omega)
  have w2 : IntKind.i64.wrap (q + 2) = q + 2 := IntWalk.i64_in _ (by omega)
  have w3 : IntKind.i64.wrap (q + 3) = q + 3 := IntWalk.i64_in _ (by omega)
  have d0 : ((q + 2) == q) = false := by first | (simp; done) | (simp; omega)
  have d1 : ((q + 2) == q + 1) = false := by first | (simp; done) | (simp; omega)
  have d2 : ((q + 2) == q + 2) = true := by first | (simp; done) | (simp; omega)
  have HC := Lib.hid hc
  clear hc
  have HA := Lib.hid ha
  have HH := Lib.hid H
  clear H ha
  have hwt := fun W (H : XHas S0 w0 p g cap x rs s W) => xn_wait H (cellP s.n 0 s.task) 1 4294967295 0
  rw [waitA_like (q := fun v => v != 0) HH.out.words_ (fun v hv => untilA_some _ hv)] at hwt
  unfold mxG2 Rn.keep
  (try dsimp only)
  cases hs : (waitA s.L s.n s.mode s.task s.f.st (cellP s.n 0 s.task) (fun v => v != 0)).seen <;> cases hd : (waitA s.L s.n s.mode s.task s.f.st (cellP s.n 0 s.task) (fun v => v != 0)).done <;> rw [hs, hd] at hwt <;> simp only [hs, if_true, Bool.false_eq_true, if_false] <;> (have HWT := Lib.hid hwt) <;> clear hwt hs hd
  · go_enter Try.func29, Try.ntmps29
    go_wp2_with fail
    refine (xm_next HH.out s.task).mono ?_
    rintro e w1 ⟨rfl, rfl⟩
    go_wp2_with fail
    refine (HWT.out _ HH.out).mono ?_
    rintro e w2 ⟨rfl, H2⟩
    obtain ⟨x0, x2, x4, x5, x6, x7⟩ := H2.facts hop hl rfl rfl
    go_wp2_with fail
    first | go_ret | go_ret2
    exact ⟨rfl, H2⟩
  · go_enter Try.func29, Try.ntmps29
    go_wp2_with fail
    refine (xm_next HH.out s.task).mono ?_
    rintro e w1 ⟨rfl, rfl⟩
    go_wp2_with fail
    refine (HWT.out _ HH.out).mono ?_
    rintro e w2 ⟨rfl, H2⟩
    obtain ⟨x0, x2, x4, x5, x6, x7⟩ := H2.facts hop hl rfl rfl
    go_wp2_with fail
    first | go_ret | go_ret2
    exact ⟨rfl, (H2.goto (q + 3))⟩
  · go_enter Try.func29, Try.ntmps29
    go_wp2_with fail
    refine (xm_next HH.out s.task).mono ?_
    rintro e w1 ⟨rfl, rfl⟩
    go_wp2_with fail
    refine (HWT.out _ HH.out).mono ?_
    rintro e w2 ⟨rfl, H2⟩
    obtain ⟨x0, x2, x4, x5, x6, x7⟩ := H2.facts hop hl rfl rfl
    have x18 := H2.old18 (o := (waitA s.L s.n s.mode s.task s.f.st (cellP s.n 0 s.task) (fun v => v != 0)).acc.old) rfl
    go_wp2_with fail
    first | go_ret | go_ret2
    exact ⟨rfl, (H2.setA (waitA s.L s.n s.mode s.task s.f.st (cellP s.n 0 s.task) (fun v => v != 0)).acc.old)⟩
  · go_enter Try.func29, Try.ntmps29
    go_wp2_with fail
    refine (xm_next HH.out s.task).mono ?_
    rintro e w1 ⟨rfl, rfl⟩
    go_wp2_with fail
    refine (HWT.out _ HH.out).mono ?_
    rintro e w2 ⟨rfl, H2⟩
    obtain ⟨x0, x2, x4, x5, x6, x7⟩ := H2.facts hop hl rfl rfl
    have x18 := H2.old18 (o := (waitA s.L s.n s.mode s.task s.f.st (cellP s.n 0 s.task) (fun v => v != 0)).acc.old) rfl
    go_wp2_with fail
    first | go_ret | go_ret2
    exact ⟨rfl, ((H2.setA (waitA s.L s.n s.mode s.task s.f.st (cellP s.n 0 s.task) (fun v => v != 0)).acc.old).goto (q + 3))⟩

set_option maxHeartbeats 800000 in
set_option maxRecDepth 100000 in
theorem xm_g3 {S0 : List Nat} {w0 w : World} {p : Option Addr} {g cap x : Nat} {rs : List Res} {s : Rn} (H : XHas S0 w0 p g cap x rs s w) (tail q : Int) (hq : -1000 ≤ q ∧ q ≤ 1000) {A : Option Addr} {nn c : Nat} {nl : List Int} (hnl : nl.length = nn) (hN : ∀ W s', XHas S0 w0 p g cap x rs s' W → Rd W 1 A nn (i64s nl)) (hc : s.notes.length + nl.length ≤ 900) (ha : 0 ≤ s.f.a ∧ s.f.a < 4294967296) (hl : s.f.line = q + 3) :
    Calls Try.prog 29 #[.pointer (some ⟨x, 0, none⟩), .int .i64 tail, .int .i64 q, .slice A nn c] w fun e w' => e = .returned (.bool true) ∧ XHas S0 w0 p g cap x rs (mxG3 nl s) w' := by
  obtain ⟨o, hop⟩ : ∃ o, s.f.op = o := ⟨_, rfl⟩
  obtain ⟨z0, z2, z4, z5, z6, z7⟩ := H.facts hop hl rfl rfl
  obtain ⟨y1, y2, y3⟩ := H.whose rfl rfl rfl
  have w1 : IntKind.i64.wrap (q + 1) = q + 1 := IntWalk.i64_in _ (by omega)
  have w2 : IntKind.i64.wrap (q + 2) = q + 2 := IntWalk.i64_in _ (by omega)
  have w3 : IntKind.i64.wrap (q + 3) = q + 3 := IntWalk.i64_in _ (by omega)
  have d0 : ((q + 3) == q) = false := by first | (simp; done) | (simp; omega)
  have d1 : ((q + 3) == q + 1) = false := by first | (simp; done) | (simp; omega)
  have d2 : ((q + 3) == q + 2) = false := by first | (simp; done) | (simp; omega)
  have d3 : ((q + 3) == q + 3) = true := by first | (simp; done) | (simp; omega)
  have HC := Lib.hid hc
  clear hc
  have HA := Lib.hid ha
  have HH := Lib.hid H
  clear H ha
  have hwr : IntKind.i64.wrap (s.f.a - 1) = s.f.a - 1 := IntWalk.i64_in _ (by have := HA.out; omega)
  have hb1 : -1 ≤ s.f.a - 1 ∧ s.f.a - 1 < 4294967296 := by have := HA.out; omega
  go_enter Try.func29, Try.ntmps29
  go_wp2_with fail
  refine (xm_blocked HH.out (s.f.a - 1)).mono ?_
  rintro e w1 ⟨rfl, rfl⟩
  go_wp2_with fail
  refine (xn_store HH.out (cellP s.n 1 (s.f.a - 1)) 0 (by decide)).mono ?_
  rintro e w2 ⟨rfl, H2⟩
  obtain ⟨x0, x2, x4, x5, x6, x7⟩ := H2.facts hop hl rfl rfl
  go_wp2_with fail
  refine (xm_noted hN H2 hnl (by have := HC.out; simp [Rn.did]; omega)).mono ?_
  rintro e w3 ⟨rfl, H3⟩
  go_wp2_with fail
  refine (xn_wake H3 (cellP s.n 1 (s.f.a - 1))).mono ?_
  rintro e w4 ⟨rfl, H4⟩
  go_wp2_with fail
  first | go_ret | go_ret2
  exact ⟨rfl, H4⟩

set_option maxHeartbeats 800000 in
theorem xm_gn {S0 : List Nat} {w0 w : World} {p : Option Addr} {g cap x : Nat} {rs : List Res} {s : Rn} (H : XHas S0 w0 p g cap x rs s w) (tail q : Int) (hq : -1000 ≤ q ∧ q ≤ 1000) {A : Option Addr} {nn c : Nat} {l : Int} (hl : s.f.line = l) (h : l ≠ q ∧ l ≠ q + 1 ∧ l ≠ q + 2 ∧ l ≠ q + 3) :
    Calls Try.prog 29 #[.pointer (some ⟨x, 0, none⟩), .int .i64 tail, .int .i64 q, .slice A nn c] w fun e w' => e = .returned (.bool false) ∧ XHas S0 w0 p g cap x rs s w' := by
  obtain ⟨z0, z2, z4, z5, z6, z7⟩ := H.facts rfl hl rfl rfl
  obtain ⟨h0, h1, h2, h3⟩ := h
  have w1 : IntKind.i64.wrap (q + 1) = q + 1 := IntWalk.i64_in _ (by omega)
  have w2 : IntKind.i64.wrap (q + 2) = q + 2 := IntWalk.i64_in _ (by omega)
  have w3 : IntKind.i64.wrap (q + 3) = q + 3 := IntWalk.i64_in _ (by omega)
  have b0 : (l == q) = false := by simpa using h0
  have b1 : (l == q + 1) = false := by simpa using h1
  have b2 : (l == q + 2) = false := by simpa using h2
  have b3 : (l == q + 3) = false := by simpa using h3
  have HH := Lib.hid H
  clear H h0 h1 h2 h3 hl
  go_enter Try.func29, Try.ntmps29
  go_wp2_with fail
  go_ret
  exact ⟨rfl, HH.out⟩
theorem wrap_line {l q k : Int} (hl : I64 l) (hq : -1000 ≤ q ∧ q ≤ 1000) (hk : 0 ≤ k ∧ k ≤ 3) : (wrap64 (l - q) = k) = (l = q + k) := by
  obtain ⟨h1, h2⟩ := hl
  refine propext ⟨fun h => ?_, fun h => ?_⟩
  · unfold wrap64 at h
    omega
  · subst h
    unfold wrap64
    omega
/-- Giving on, whatever the line. -/
theorem xm_give {S0 : List Nat} {w0 w : World} {p : Option Addr} {g cap x : Nat} {rs : List Res} {s : Rn} (H : XHas S0 w0 p g cap x rs s w) (tail q : Int) (hq : -1000 ≤ q ∧ q ≤ 1000) {A : Option Addr} {nn c : Nat} {nl : List Int} (hnl : nl.length = nn) (hN : ∀ W s', XHas S0 w0 p g cap x rs s' W → Rd W 1 A nn (i64s nl)) (hc : s.notes.length + nl.length ≤ 900) (hI : I64 s.f.line) (ha : 0 ≤ s.f.a ∧ s.f.a < 4294967296) :
    Calls Try.prog 29 #[.pointer (some ⟨x, 0, none⟩), .int .i64 tail, .int .i64 q, .slice A nn c] w fun e w' => e = .returned (.bool (mxGive tail q nl s).1) ∧ XHas S0 w0 p g cap x rs (mxGive tail q nl s).2 w' := by
  unfold mxGive
  simp only [wrap_line hI hq (show (0 : Int) ≤ 0 ∧ (0 : Int) ≤ 3 by decide), wrap_line hI hq (show (0 : Int) ≤ 1 ∧ (1 : Int) ≤ 3 by decide), wrap_line hI hq (show (0 : Int) ≤ 2 ∧ (2 : Int) ≤ 3 by decide), wrap_line hI hq (show (0 : Int) ≤ 3 ∧ (3 : Int) ≤ 3 by decide), Int.add_zero]
  by_cases h0 : s.f.line = q
  · simp only [if_pos h0]; exact xm_g0 H tail q hq hnl hN hc ha h0
  simp only [if_neg h0]
  by_cases h1 : s.f.line = q + 1
  · simp only [if_pos h1]; exact xm_g1 H tail q hq hnl hN hc ha h1
  simp only [if_neg h1]
  by_cases h2 : s.f.line = q + 2
  · simp only [if_pos h2]; exact xm_g2 H tail q hq hnl hN hc ha h2
  simp only [if_neg h2]
  by_cases h3 : s.f.line = q + 3
  · simp only [if_pos h3]; exact xm_g3 H tail q hq hnl hN hc ha h3
  simp only [if_neg h3]
  exact xm_gn H tail q hq rfl ⟨h0, h1, h2, h3⟩

/-- A try's line. -/
def xmTry (tail q : Int) (s : Rn) : Bool × Bool × Rn :=
  if s.f.line = q then (false, false, (s.did (doA s.L ⟨2, (cellP s.n 0 s.task), 0, 0, 0⟩)).goto (q + 1)) else if s.f.line = q + 1 then (true, casB s.L tail 0 (mxOwn s), s.did (doA s.L ⟨5, tail, 0, mxOwn s, 0⟩)) else (false, false, s)

set_option maxHeartbeats 800000 in
set_option maxRecDepth 100000 in
theorem xm_t0 {S0 : List Nat} {w0 w : World} {p : Option Addr} {g cap x : Nat} {rs : List Res} {s : Rn} (H : XHas S0 w0 p g cap x rs s w) (tail q : Int) (hq : -1000 ≤ q ∧ q ≤ 1000) (ha : 0 ≤ s.f.a ∧ s.f.a < 4294967296) (hl : s.f.line = q) :
    Calls Try.prog 31 #[.pointer (some ⟨x, 0, none⟩), .int .i64 tail, .int .i64 q] w fun e w' => e = .returned (.tuple #[.bool false, .bool false]) ∧ XHas S0 w0 p g cap x rs ((s.did (doA s.L ⟨2, (cellP s.n 0 s.task), 0, 0, 0⟩)).goto (q + 1)) w' := by
  obtain ⟨o, hop⟩ : ∃ o, s.f.op = o := ⟨_, rfl⟩
  obtain ⟨z0, z2, z4, z5, z6, z7⟩ := H.facts hop hl rfl rfl
  obtain ⟨y1, y2, y3⟩ := H.whose rfl rfl rfl
  have w1 : IntKind.i64.wrap (q + 1) = q + 1 := IntWalk.i64_in _ (by omega)
  have d0 : (q == q) = true := by first | (simp; done) | (simp; omega)
  have HA := Lib.hid ha
  have HH := Lib.hid H
  clear H ha
  go_enter Try.func31, Try.ntmps31
  go_wp2_with fail
  refine (xm_next HH.out s.task).mono ?_
  rintro e w1 ⟨rfl, rfl⟩
  go_wp2_with fail
  refine (xn_store HH.out (cellP s.n 0 s.task) 0 (by decide)).mono ?_
  rintro e w2 ⟨rfl, H2⟩
  obtain ⟨x0, x2, x4, x5, x6, x7⟩ := H2.facts hop hl rfl rfl
  go_wp2_with fail
  first | go_ret | go_ret2
  exact ⟨rfl, (H2.goto (q + 1))⟩

set_option maxHeartbeats 800000 in
set_option maxRecDepth 100000 in
theorem xm_t1 {S0 : List Nat} {w0 w : World} {p : Option Addr} {g cap x : Nat} {rs : List Res} {s : Rn} (H : XHas S0 w0 p g cap x rs s w) (tail q : Int) (hq : -1000 ≤ q ∧ q ≤ 1000) (ha : 0 ≤ s.f.a ∧ s.f.a < 4294967296) (hl : s.f.line = q + 1) :
    Calls Try.prog 31 #[.pointer (some ⟨x, 0, none⟩), .int .i64 tail, .int .i64 q] w fun e w' => e = .returned (.tuple #[.bool true, .bool (casB s.L tail 0 (mxOwn s))]) ∧ XHas S0 w0 p g cap x rs (s.did (doA s.L ⟨5, tail, 0, mxOwn s, 0⟩)) w' := by
  obtain ⟨o, hop⟩ : ∃ o, s.f.op = o := ⟨_, rfl⟩
  obtain ⟨z0, z2, z4, z5, z6, z7⟩ := H.facts hop hl rfl rfl
  obtain ⟨y1, y2, y3⟩ := H.whose rfl rfl rfl
  have w1 : IntKind.i64.wrap (q + 1) = q + 1 := IntWalk.i64_in _ (by omega)
  have d0 : ((q + 1) == q) = false := by first | (simp; done) | (simp; omega)
  have d1 : ((q + 1) == q + 1) = true := by first | (simp; done) | (simp; omega)
  have HA := Lib.hid ha
  have HH := Lib.hid H
  clear H ha
  go_enter Try.func31, Try.ntmps31
  go_wp2_with fail
  refine (xm_T HH.out).mono ?_
  rintro e w1 ⟨rfl, rfl⟩
  go_wp2_with fail
  refine (xn_cas HH.out tail 0 (mxOwn s) (by decide) (mxOwn_word s)).mono ?_
  rintro e w2 ⟨rfl, H2⟩
  obtain ⟨x0, x2, x4, x5, x6, x7⟩ := H2.facts hop hl rfl rfl
  go_wp2_with fail
  first | go_ret | go_ret2
  exact ⟨rfl, H2⟩

set_option maxHeartbeats 800000 in
theorem xm_tn {S0 : List Nat} {w0 w : World} {p : Option Addr} {g cap x : Nat} {rs : List Res} {s : Rn} (H : XHas S0 w0 p g cap x rs s w) (tail q : Int) (hq : -1000 ≤ q ∧ q ≤ 1000) {l : Int} (hl : s.f.line = l) (h : l ≠ q ∧ l ≠ q + 1) :
    Calls Try.prog 31 #[.pointer (some ⟨x, 0, none⟩), .int .i64 tail, .int .i64 q] w fun e w' => e = .returned (.tuple #[.bool false, .bool false]) ∧ XHas S0 w0 p g cap x rs s w' := by
  obtain ⟨z0, z2, z4, z5, z6, z7⟩ := H.facts rfl hl rfl rfl
  obtain ⟨h0, h1⟩ := h
  have w1 : IntKind.i64.wrap (q + 1) = q + 1 := IntWalk.i64_in _ (by omega)
  have b0 : (l == q) = false := by simpa using h0
  have b1 : (l == q + 1) = false := by simpa using h1
  have HH := Lib.hid H
  clear H h0 h1 hl
  go_enter Try.func31, Try.ntmps31
  go_wp2_with fail
  go_ret2
  exact ⟨rfl, HH.out⟩
theorem xm_try {S0 : List Nat} {w0 w : World} {p : Option Addr} {g cap x : Nat} {rs : List Res} {s : Rn} (H : XHas S0 w0 p g cap x rs s w) (tail q : Int) (hq : -1000 ≤ q ∧ q ≤ 1000) (ha : 0 ≤ s.f.a ∧ s.f.a < 4294967296) :
    Calls Try.prog 31 #[.pointer (some ⟨x, 0, none⟩), .int .i64 tail, .int .i64 q] w fun e w' => e = .returned (.tuple #[.bool (xmTry tail q s).1, .bool (xmTry tail q s).2.1]) ∧ XHas S0 w0 p g cap x rs (xmTry tail q s).2.2 w' := by
  unfold xmTry
  by_cases h0 : s.f.line = q
  · simp only [if_pos h0]; exact xm_t0 H tail q hq ha h0
  simp only [if_neg h0]
  by_cases h1 : s.f.line = q + 1
  · simp only [if_pos h1]; exact xm_t1 H tail q hq ha h1
  simp only [if_neg h1]
  exact xm_tn H tail q hq rfl ⟨h0, h1⟩
theorem xmTry_fq (tail : Int) (s : Rn) (hI : I64 s.f.line) : xmTry tail 0 s = mxTry tail s := by
  unfold xmTry mxTry
  have e0 := wrap_line (q := 0) (k := 0) hI (by decide) (by decide)
  have e1 := wrap_line (q := 0) (k := 1) hI (by decide) (by decide)
  simp only [Int.sub_zero, Int.zero_add] at e0 e1 ⊢
  simp only [e0, e1]
  rfl

end Go.Proofs.Ytlndihdlodempaa.Z

/- Package fq: its functions. Written by genfq.py. -/
set_option linter.unusedVariables false
set_option linter.unusedSimpArgs false
namespace Go.Proofs.Ytlndihdlodempaa.Z
open Go.RowKit

attribute [local go_sem ↓] Go.wp_at_zero Go.wp_at_succ

def fqEnter (cls : Int) (s : Rn) : Rn := if (mxEnter 0 cls s).1 then (mxEnter 0 cls s).2.goto 5 else (mxEnter 0 cls s).2
theorem fq_enter {S0 : List Nat} {w0 w : World} {m a r : Nat} {rs : List Res} {s : Rn} (H : RunHas S0 w0 m a r rs s w) (cls : Int) (hn : I64 s.n) (ha : 0 ≤ s.f.a ∧ s.f.a < 4294967296) (hc : s.notes.length ≤ 800) :
    Calls Try.prog 114 #[.pointer (some ⟨r, 0, none⟩), .int .i64 cls] w fun e w' => e = .returned (.tuple #[]) ∧ RunHas S0 w0 m a r rs (fqEnter cls s) w' := by
  have he := mx_enter H 0 cls hn ha (by omega)
  unfold fqEnter
  generalize mxEnter 0 cls s = R at he ⊢
  obtain ⟨b, s1⟩ := R
  have HE := Lib.hid he
  clear he H hn ha hc
  cases b with
  | true =>
    go_enter Try.func114, Try.ntmps114
    go_wp2_with fail
    refine HE.out.mono ?_
    rintro e w1 ⟨rfl, H1⟩
    go_wp2_with fail
    refine (rn_go H1 5).mono ?_
    rintro e w2 ⟨rfl, H2⟩
    go_wp2_with fail
    go_end0
    exact ⟨rfl, H2⟩
  | false =>
    go_enter Try.func114, Try.ntmps114
    go_wp2_with fail
    refine HE.out.mono ?_
    rintro e w1 ⟨rfl, H1⟩
    go_wp2_with fail
    go_end0
    exact ⟨rfl, H1⟩

def fqGive (q : Int) (ok : Bool) (nl : List Int) (s : Rn) : Rn := if (mxGive 0 q nl s).1 then (mxGive 0 q nl s).2.fin ok else (mxGive 0 q nl s).2
theorem fq_give {S0 : List Nat} {w0 w : World} {m a r : Nat} {rs : List Res} {s : Rn} (q : Int) (ok : Bool) {g nn c : Nat} {nl : List Int} (hnl : nl.length = nn) (hq : 0 ≤ q ∧ q ≤ 100) (hl : nl.length ≤ 10) (H : RunHas S0 w0 m a r (.blk g (i64s nl).toArray :: rs) s w) (hn : I64 s.n) (ha : 0 ≤ s.f.a ∧ s.f.a < 4294967296) (hc : s.notes.length ≤ 800) :
    Calls Try.prog 118 #[.pointer (some ⟨r, 0, none⟩), .int .i64 q, .bool ok, .slice (some ⟨g, 0, none⟩) nn c] w fun e w' => e = .returned (.tuple #[]) ∧ RunHas S0 w0 m a r (.blk g (i64s nl).toArray :: rs) (fqGive q ok nl s) w' := by
  have he := mx_give (c := c) 0 q hnl hq (by omega) H hn ha
  unfold fqGive
  generalize mxGive 0 q nl s = R at he ⊢
  obtain ⟨b, s1⟩ := R
  have HE := Lib.hid he
  clear he H hn ha hc
  cases b with
  | true =>
    go_enter Try.func118, Try.ntmps118
    go_wp2_with fail
    refine HE.out.mono ?_
    rintro e w1 ⟨rfl, H1⟩
    go_wp2_with fail
    refine (rn_end H1 ok).mono ?_
    rintro e w2 ⟨rfl, H2⟩
    go_wp2_with fail
    go_end0
    exact ⟨rfl, H2⟩
  | false =>
    go_enter Try.func118, Try.ntmps118
    go_wp2_with fail
    refine HE.out.mono ?_
    rintro e w1 ⟨rfl, H1⟩
    go_wp2_with fail
    go_end0
    exact ⟨rfl, H1⟩

def fqTry (cls next : Int) (s : Rn) : Rn :=
  if (mxTry 0 s).1 then (if (mxTry 0 s).2.1 then ((mxTry 0 s).2.2.note 2 cls).goto next else ((mxTry 0 s).2.2.note 5 0).fin false) else (mxTry 0 s).2.2
theorem mxTry_notes (tail : Int) (s : Rn) : (mxTry tail s).2.2.notes = s.notes := by
  unfold mxTry
  split
  · rfl
  split <;> rfl
theorem fq_try {S0 : List Nat} {w0 w : World} {m a r : Nat} {rs : List Res} {s : Rn} (H : RunHas S0 w0 m a r rs s w) (cls next : Int) (hn : I64 s.n) (ha : 0 ≤ s.f.a ∧ s.f.a < 4294967296) (hc : s.notes.length ≤ 800) :
    Calls Try.prog 116 #[.pointer (some ⟨r, 0, none⟩), .int .i64 cls, .int .i64 next] w fun e w' => e = .returned (.tuple #[]) ∧ RunHas S0 w0 m a r rs (fqTry cls next s) w' := by
  have he := mx_try H 0 hn
  have hnt := mxTry_notes 0 s
  unfold fqTry
  generalize mxTry 0 s = R at he hnt ⊢
  obtain ⟨d, i, s1⟩ := R
  have hc1 : s1.notes.length ≤ 800 := by rw [show s1.notes = s.notes from hnt]; exact hc
  have HC := Lib.hid hc1
  have HE := Lib.hid he
  clear he H hn ha hc hnt hc1
  cases d with
  | true =>
    cases i with
    | true =>
      go_enter Try.func116, Try.ntmps116
      go_wp2_with fail
      refine HE.out.mono ?_
      rintro e w1 ⟨rfl, H1⟩
      go_wp2_with fail
      refine (run_note H1 (by have := HC.out; first | exact Nat.le_trans this (by decide) | (simp [Rn.note, Rn.did, Rn.setA, Rn.setB, Rn.waited, Rn.goto, Rn.noted]; omega)) 2 cls).mono ?_
      rintro e w2 ⟨rfl, H2⟩
      go_wp2_with fail
      refine (rn_go H2 next).mono ?_
      rintro e w3 ⟨rfl, H3⟩
      go_wp2_with fail
      go_end0
      exact ⟨rfl, H3⟩
    | false =>
      go_enter Try.func116, Try.ntmps116
      go_wp2_with fail
      refine HE.out.mono ?_
      rintro e w1 ⟨rfl, H1⟩
      go_wp2_with fail
      refine (run_note H1 (by have := HC.out; first | exact Nat.le_trans this (by decide) | (simp [Rn.note, Rn.did, Rn.setA, Rn.setB, Rn.waited, Rn.goto, Rn.noted]; omega)) 5 0).mono ?_
      rintro e w2 ⟨rfl, H2⟩
      go_wp2_with fail
      refine (rn_end H2 false).mono ?_
      rintro e w3 ⟨rfl, H3⟩
      go_wp2_with fail
      go_end0
      exact ⟨rfl, H3⟩
  | false =>
    go_enter Try.func116, Try.ntmps116
    go_wp2_with fail
    refine HE.out.mono ?_
    rintro e w1 ⟨rfl, H1⟩
    go_wp2_with fail
    go_end0
    exact ⟨rfl, H1⟩

set_option maxHeartbeats 800000 in
theorem fq_reader5 {S0 : List Nat} {w0 w : World} {m a r : Nat} {rs : List Res} {s : Rn} (H : RunHas S0 w0 m a r rs s w) {o l : Int} (hop : s.f.op = o) (hl : s.f.line = l) (h5 : l = 5) (hn : I64 s.n) (ha : 0 ≤ s.f.a ∧ s.f.a < 4294967296) (hc : s.notes.length ≤ 800) :
    Calls Try.prog 115 #[.pointer (some ⟨r, 0, none⟩)] w fun e w' => e = .returned (.tuple #[]) ∧ RunHas S0 w0 m a r rs ((s.did (doA s.L ⟨3, 1, 1, 0, 0⟩)).goto 6) w' := by
  obtain ⟨z0, z2, z4, z5, z6, z7⟩ := H.facts hop hl rfl rfl
  have HC := Lib.hid hc
  have HA := Lib.hid ha
  have HN := Lib.hid hn
  have HH := Lib.hid H
  clear hc H hn ha
  subst h5
  go_enter Try.func115, Try.ntmps115
  go_wp2_with fail
  refine (rn_add HH.out 1 1 (by decide)).mono ?_
  rintro e w1 ⟨rfl, H1⟩
  go_wp2_with fail
  refine (rn_go H1 6).mono ?_
  rintro e w2 ⟨rfl, H2⟩
  go_wp2_with fail
  (try simp only [Exit.inBlock, Exit.then]); refine bodyPost_ret (results_none rfl _ _ _) rfl ?_
  exact ⟨rfl, H2⟩

set_option maxHeartbeats 800000 in
theorem fq_readerG {S0 : List Nat} {w0 w : World} {m a r : Nat} {rs : List Res} {s : Rn} (H : RunHas S0 w0 m a r rs s w) {o l : Int} (hop : s.f.op = o) (hl : s.f.line = l) (h5 : ¬ l = 5) (hn : I64 s.n) (ha : 0 ≤ s.f.a ∧ s.f.a < 4294967296) (hc : s.notes.length ≤ 800) :
    Calls Try.prog 115 #[.pointer (some ⟨r, 0, none⟩)] w fun e w' => e = .returned (.tuple #[]) ∧ RunHas S0 w0 m a r rs (fqGive 6 true [4] s) w' := by
  obtain ⟨z0, z2, z4, z5, z6, z7⟩ := H.facts hop hl rfl rfl
  have HC := Lib.hid hc
  have HA := Lib.hid ha
  have HN := Lib.hid hn
  have HH := Lib.hid H
  clear hc H hn ha
  go_enter Try.func115, Try.ntmps115
  go_wp2_with fail
  refine (fq_give 6 true (nl := [4]) rfl (by decide) (by decide) (HH.out.box rfl _ _) HN.out HA.out HC.out).mono ?_
  rintro e w7 ⟨rfl, H7⟩
  go_wp2_with fail
  go_end0
  exact ⟨rfl, H7.unbox⟩

def fqReader (s : Rn) : Rn := if s.f.line = 5 then (s.did (doA s.L ⟨3, 1, 1, 0, 0⟩)).goto 6 else fqGive 6 true [4] s
theorem fq_reader {S0 : List Nat} {w0 w : World} {m a r : Nat} {rs : List Res} {s : Rn} (H : RunHas S0 w0 m a r rs s w) (hn : I64 s.n) (ha : 0 ≤ s.f.a ∧ s.f.a < 4294967296) (hc : s.notes.length ≤ 800) : Calls Try.prog 115 #[.pointer (some ⟨r, 0, none⟩)] w fun e w' => e = .returned (.tuple #[]) ∧ RunHas S0 w0 m a r rs (fqReader s) w' := by
  unfold fqReader
  split
  · exact fq_reader5 H rfl rfl (by assumption) hn ha hc
  · exact fq_readerG H rfl rfl (by assumption) hn ha hc

theorem fq_free (v : Int) (w : World) (hv : 0 ≤ v ∧ v < 4294967296) :
    Calls Try.prog 165 #[.int .u32 v] w fun e w' => e = .returned (.bool (v == 0)) ∧ Touch [] w w' := by
  go_enter Try.func165, Try.ntmps165
  go_wp2
  go_ret
  exact ⟨rfl, Touch.refl _ _⟩

set_option maxHeartbeats 800000 in
theorem fq_writer5 {S0 : List Nat} {w0 w : World} {m a r : Nat} {rs : List Res} {s : Rn} (H : RunHas S0 w0 m a r rs s w) {o l : Int} (hop : s.f.op = o) (hl : s.f.line = l) (h5 : l = 5) (hn : I64 s.n) (ha : 0 ≤ s.f.a ∧ s.f.a < 4294967296) (hc : s.notes.length ≤ 800) :
    Calls Try.prog 117 #[.pointer (some ⟨r, 0, none⟩)] w fun e w' => e = .returned (.tuple #[]) ∧ RunHas S0 w0 m a r rs (let s1 := s.waited (waitA s.L s.n s.mode s.task s.f.st 1 (fun v => v == 0)); let s2 := if (waitA s.L s.n s.mode s.task s.f.st 1 (fun v => v == 0)).seen then s1.note 4 0 else s1; if (waitA s.L s.n s.mode s.task s.f.st 1 (fun v => v == 0)).done then s2.fin true else s2) w' := by
  obtain ⟨z0, z2, z4, z5, z6, z7⟩ := H.facts hop hl rfl rfl
  have HC := Lib.hid hc
  have HA := Lib.hid ha
  have HN := Lib.hid hn
  have HH := Lib.hid H
  clear hc H hn ha
  subst h5
  have hwt := fun W (H : RunHas S0 w0 m a r rs s W) => rn_wait H HN.out 1 165 #[] #[] (fun v => v == 0) (enters_of Try.func165 (by kernel_rfl) rfl) (fun W v h0 h1 H => fq_free v W ⟨h0, h1⟩)
  cases hs : (waitA s.L s.n s.mode s.task s.f.st 1 (fun v => v == 0)).seen <;> cases hd : (waitA s.L s.n s.mode s.task s.f.st 1 (fun v => v == 0)).done <;> rw [hs, hd] at hwt <;> simp only [if_true, Bool.false_eq_true, if_false] <;> (have HWT := Lib.hid hwt) <;> clear hwt hs hd
  · go_enter Try.func117, Try.ntmps117
    go_wp2_with fail
    refine (HWT.out _ HH.out).mono ?_
    rintro e w1 ⟨rfl, H1⟩
    go_wp2_with fail
    go_end0
    exact ⟨rfl, H1⟩
  · go_enter Try.func117, Try.ntmps117
    go_wp2_with fail
    refine (HWT.out _ HH.out).mono ?_
    rintro e w1 ⟨rfl, H1⟩
    go_wp2_with fail
    refine (rn_end H1 true).mono ?_
    rintro e w2 ⟨rfl, H2⟩
    go_wp2_with fail
    go_end0
    exact ⟨rfl, H2⟩
  · go_enter Try.func117, Try.ntmps117
    go_wp2_with fail
    refine (HWT.out _ HH.out).mono ?_
    rintro e w1 ⟨rfl, H1⟩
    go_wp2_with fail
    refine (run_note H1 (by have := HC.out; first | exact Nat.le_trans this (by decide) | (simp [Rn.note, Rn.did, Rn.setA, Rn.setB, Rn.waited, Rn.goto, Rn.noted]; omega)) 4 0).mono ?_
    rintro e w2 ⟨rfl, H2⟩
    go_wp2_with fail
    go_end0
    exact ⟨rfl, H2⟩
  · go_enter Try.func117, Try.ntmps117
    go_wp2_with fail
    refine (HWT.out _ HH.out).mono ?_
    rintro e w1 ⟨rfl, H1⟩
    go_wp2_with fail
    refine (run_note H1 (by have := HC.out; first | exact Nat.le_trans this (by decide) | (simp [Rn.note, Rn.did, Rn.setA, Rn.setB, Rn.waited, Rn.goto, Rn.noted]; omega)) 4 0).mono ?_
    rintro e w2 ⟨rfl, H2⟩
    go_wp2_with fail
    refine (rn_end H2 true).mono ?_
    rintro e w3 ⟨rfl, H3⟩
    go_wp2_with fail
    go_end0
    exact ⟨rfl, H3⟩

set_option maxHeartbeats 800000 in
theorem fq_writerN {S0 : List Nat} {w0 w : World} {m a r : Nat} {rs : List Res} {s : Rn} (H : RunHas S0 w0 m a r rs s w) {o l : Int} (hop : s.f.op = o) (hl : s.f.line = l) (h5 : ¬ l = 5) (hn : I64 s.n) (ha : 0 ≤ s.f.a ∧ s.f.a < 4294967296) (hc : s.notes.length ≤ 800) :
    Calls Try.prog 117 #[.pointer (some ⟨r, 0, none⟩)] w fun e w' => e = .returned (.tuple #[]) ∧ RunHas S0 w0 m a r rs s w' := by
  obtain ⟨z0, z2, z4, z5, z6, z7⟩ := H.facts hop hl rfl rfl
  have HC := Lib.hid hc
  have HA := Lib.hid ha
  have HN := Lib.hid hn
  have HH := Lib.hid H
  clear hc H hn ha
  go_enter Try.func117, Try.ntmps117
  go_wp2_with fail
  (try simp only [Exit.inBlock, Exit.then]); refine bodyPost_ret (results_none rfl _ _ _) rfl ?_
  exact ⟨rfl, HH.out⟩

def fqWriter (s : Rn) : Rn :=
  if s.f.line = 5 then (let s1 := s.waited (waitA s.L s.n s.mode s.task s.f.st 1 (fun v => v == 0)); let s2 := if (waitA s.L s.n s.mode s.task s.f.st 1 (fun v => v == 0)).seen then s1.note 4 0 else s1; if (waitA s.L s.n s.mode s.task s.f.st 1 (fun v => v == 0)).done then s2.fin true else s2) else s
theorem fq_writer {S0 : List Nat} {w0 w : World} {m a r : Nat} {rs : List Res} {s : Rn} (H : RunHas S0 w0 m a r rs s w) (hn : I64 s.n) (ha : 0 ≤ s.f.a ∧ s.f.a < 4294967296) (hc : s.notes.length ≤ 800) : Calls Try.prog 117 #[.pointer (some ⟨r, 0, none⟩)] w fun e w' => e = .returned (.tuple #[]) ∧ RunHas S0 w0 m a r rs (fqWriter s) w' := by
  unfold fqWriter
  split
  · exact fq_writer5 H rfl rfl (by assumption) hn ha hc
  · exact fq_writerN H rfl rfl (by assumption) hn ha hc

set_option maxHeartbeats 800000 in
theorem fq_decide62 {S0 : List Nat} {w0 w : World} {m a r : Nat} {rs : List Res} {s : Rn} (H : RunHas S0 w0 m a r rs s w) {o l : Int} (hop : s.f.op = o) (hl : s.f.line = l) (ho : o = 6) (h2 : l = 2) (hn : I64 s.n) (ha : 0 ≤ s.f.a ∧ s.f.a < 4294967296) (hc : s.notes.length ≤ 800) :
    Calls Try.prog 119 #[.pointer (some ⟨r, 0, none⟩)] w fun e w' => e = .returned (.tuple #[]) ∧ RunHas S0 w0 m a r rs (if (doA s.L ⟨1, 1, 0, 0, 0⟩).1.old = 0 then (((s.did (doA s.L ⟨1, 1, 0, 0, 0⟩)).setA (doA s.L ⟨1, 1, 0, 0, 0⟩).1.old).note 4 0).fin true else (((s.did (doA s.L ⟨1, 1, 0, 0, 0⟩)).setA (doA s.L ⟨1, 1, 0, 0, 0⟩).1.old).note 5 0).goto 6) w' := by
  obtain ⟨z0, z2, z4, z5, z6, z7⟩ := H.facts hop hl rfl rfl
  have HC := Lib.hid hc
  have HA := Lib.hid ha
  have HN := Lib.hid hn
  have HH := Lib.hid H
  clear hc H hn ha
  subst ho h2
  by_cases hq : (doA s.L ⟨1, 1, 0, 0, 0⟩).1.old = 0
  · simp only [if_pos hq]
    have hz : ((doA s.L ⟨1, 1, 0, 0, 0⟩).1.old == 0) = true := by simpa using hq
    clear hq
    go_enter Try.func119, Try.ntmps119
    go_wp2_with fail
    go_quiet (fail)
    have HW := HH.out.drewN nq
    clear z0 z2 z4 z5 z6 z7
    generalize w.drewN nq = W at HW ⊢
    obtain ⟨z0, z2, z4, z5, z6, z7⟩ := HW.facts hop hl rfl rfl
    go_wp2_with fail
    refine (rn_load HW 1).mono ?_
    rintro e w1 ⟨rfl, H1⟩
    obtain ⟨x0, x2, x4, x5, x6, x7⟩ := H1.facts hop hl rfl rfl
    go_wp2_with fail
    refine (run_note ((H1.setA (doA s.L ⟨1, 1, 0, 0, 0⟩).1.old)) (by have := HC.out; first | exact Nat.le_trans this (by decide) | (simp [Rn.note, Rn.did, Rn.setA, Rn.setB, Rn.waited, Rn.goto, Rn.noted]; omega)) 4 0).mono ?_
    rintro e w2 ⟨rfl, H2⟩
    go_wp2_with fail
    refine (rn_end H2 true).mono ?_
    rintro e w3 ⟨rfl, H3⟩
    go_wp2_with fail
    (try simp only [Exit.inBlock, Exit.then]); refine bodyPost_ret (results_none rfl _ _ _) rfl ?_
    exact ⟨rfl, H3⟩
  · simp only [if_neg hq]
    have hz : ((doA s.L ⟨1, 1, 0, 0, 0⟩).1.old == 0) = false := by simpa using hq
    clear hq
    go_enter Try.func119, Try.ntmps119
    go_wp2_with fail
    go_quiet (fail)
    have HW := HH.out.drewN nq
    clear z0 z2 z4 z5 z6 z7
    generalize w.drewN nq = W at HW ⊢
    obtain ⟨z0, z2, z4, z5, z6, z7⟩ := HW.facts hop hl rfl rfl
    go_wp2_with fail
    refine (rn_load HW 1).mono ?_
    rintro e w1 ⟨rfl, H1⟩
    obtain ⟨x0, x2, x4, x5, x6, x7⟩ := H1.facts hop hl rfl rfl
    go_wp2_with fail
    refine (run_note ((H1.setA (doA s.L ⟨1, 1, 0, 0, 0⟩).1.old)) (by have := HC.out; first | exact Nat.le_trans this (by decide) | (simp [Rn.note, Rn.did, Rn.setA, Rn.setB, Rn.waited, Rn.goto, Rn.noted]; omega)) 5 0).mono ?_
    rintro e w2 ⟨rfl, H2⟩
    go_wp2_with fail
    refine (rn_go H2 6).mono ?_
    rintro e w3 ⟨rfl, H3⟩
    go_wp2_with fail
    go_end0
    exact ⟨rfl, H3⟩

set_option maxHeartbeats 800000 in
theorem fq_decide72 {S0 : List Nat} {w0 w : World} {m a r : Nat} {rs : List Res} {s : Rn} (H : RunHas S0 w0 m a r rs s w) {o l : Int} (hop : s.f.op = o) (hl : s.f.line = l) (ho : o = 7) (h2 : l = 2) (hn : I64 s.n) (ha : 0 ≤ s.f.a ∧ s.f.a < 4294967296) (hc : s.notes.length ≤ 800) :
    Calls Try.prog 119 #[.pointer (some ⟨r, 0, none⟩)] w fun e w' => e = .returned (.tuple #[]) ∧ RunHas S0 w0 m a r rs (if (doA s.L ⟨1, 1, 0, 0, 0⟩).1.old = 1 then ((s.did (doA s.L ⟨1, 1, 0, 0, 0⟩)).setA (doA s.L ⟨1, 1, 0, 0, 0⟩).1.old).goto 3 else (((s.did (doA s.L ⟨1, 1, 0, 0, 0⟩)).setA (doA s.L ⟨1, 1, 0, 0, 0⟩).1.old).note 5 0).goto 6) w' := by
  obtain ⟨z0, z2, z4, z5, z6, z7⟩ := H.facts hop hl rfl rfl
  have HC := Lib.hid hc
  have HA := Lib.hid ha
  have HN := Lib.hid hn
  have HH := Lib.hid H
  clear hc H hn ha
  subst ho h2
  by_cases hq : (doA s.L ⟨1, 1, 0, 0, 0⟩).1.old = 1
  · simp only [if_pos hq]
    have hz : ((doA s.L ⟨1, 1, 0, 0, 0⟩).1.old == 1) = true := by simpa using hq
    clear hq
    go_enter Try.func119, Try.ntmps119
    go_wp2_with fail
    go_quiet (fail)
    have HW := HH.out.drewN nq
    clear z0 z2 z4 z5 z6 z7
    generalize w.drewN nq = W at HW ⊢
    obtain ⟨z0, z2, z4, z5, z6, z7⟩ := HW.facts hop hl rfl rfl
    go_wp2_with fail
    refine (rn_load HW 1).mono ?_
    rintro e w1 ⟨rfl, H1⟩
    obtain ⟨x0, x2, x4, x5, x6, x7⟩ := H1.facts hop hl rfl rfl
    go_wp2_with fail
    refine (rn_go ((H1.setA (doA s.L ⟨1, 1, 0, 0, 0⟩).1.old)) 3).mono ?_
    rintro e w2 ⟨rfl, H2⟩
    go_wp2_with fail
    (try simp only [Exit.inBlock, Exit.then]); refine bodyPost_ret (results_none rfl _ _ _) rfl ?_
    exact ⟨rfl, H2⟩
  · simp only [if_neg hq]
    have hz : ((doA s.L ⟨1, 1, 0, 0, 0⟩).1.old == 1) = false := by simpa using hq
    clear hq
    go_enter Try.func119, Try.ntmps119
    go_wp2_with fail
    go_quiet (fail)
    have HW := HH.out.drewN nq
    clear z0 z2 z4 z5 z6 z7
    generalize w.drewN nq = W at HW ⊢
    obtain ⟨z0, z2, z4, z5, z6, z7⟩ := HW.facts hop hl rfl rfl
    go_wp2_with fail
    refine (rn_load HW 1).mono ?_
    rintro e w1 ⟨rfl, H1⟩
    obtain ⟨x0, x2, x4, x5, x6, x7⟩ := H1.facts hop hl rfl rfl
    go_wp2_with fail
    refine (run_note ((H1.setA (doA s.L ⟨1, 1, 0, 0, 0⟩).1.old)) (by have := HC.out; first | exact Nat.le_trans this (by decide) | (simp [Rn.note, Rn.did, Rn.setA, Rn.setB, Rn.waited, Rn.goto, Rn.noted]; omega)) 5 0).mono ?_
    rintro e w2 ⟨rfl, H2⟩
    go_wp2_with fail
    refine (rn_go H2 6).mono ?_
    rintro e w3 ⟨rfl, H3⟩
    go_wp2_with fail
    go_end0
    exact ⟨rfl, H3⟩

set_option maxHeartbeats 800000 in
theorem fq_decide73 {S0 : List Nat} {w0 w : World} {m a r : Nat} {rs : List Res} {s : Rn} (H : RunHas S0 w0 m a r rs s w) {o l : Int} (hop : s.f.op = o) (hl : s.f.line = l) (ho : o = 7) (h3 : l = 3) (hn : I64 s.n) (ha : 0 ≤ s.f.a ∧ s.f.a < 4294967296) (hc : s.notes.length ≤ 800) :
    Calls Try.prog 119 #[.pointer (some ⟨r, 0, none⟩)] w fun e w' => e = .returned (.tuple #[]) ∧ RunHas S0 w0 m a r rs (((s.did (doA s.L ⟨3, 1, 4294967295, 0, 0⟩)).note 9 0).fin true) w' := by
  obtain ⟨z0, z2, z4, z5, z6, z7⟩ := H.facts hop hl rfl rfl
  have HC := Lib.hid hc
  have HA := Lib.hid ha
  have HN := Lib.hid hn
  have HH := Lib.hid H
  clear hc H hn ha
  subst ho h3
  go_enter Try.func119, Try.ntmps119
  go_wp2_with fail
  go_quiet (fail)
  have HW := HH.out.drewN nq
  clear z0 z2 z4 z5 z6 z7
  generalize w.drewN nq = W at HW ⊢
  obtain ⟨z0, z2, z4, z5, z6, z7⟩ := HW.facts hop hl rfl rfl
  go_wp2_with fail
  refine (rn_add HW 1 4294967295 (by decide)).mono ?_
  rintro e w1 ⟨rfl, H1⟩
  go_wp2_with fail
  refine (run_note H1 (by have := HC.out; first | exact Nat.le_trans this (by decide) | (simp [Rn.note, Rn.did, Rn.setA, Rn.setB, Rn.waited, Rn.goto, Rn.noted]; omega)) 9 0).mono ?_
  rintro e w2 ⟨rfl, H2⟩
  go_wp2_with fail
  refine (rn_end H2 true).mono ?_
  rintro e w3 ⟨rfl, H3⟩
  go_wp2_with fail
  go_end0
  exact ⟨rfl, H3⟩

set_option maxHeartbeats 800000 in
theorem fq_decideG {S0 : List Nat} {w0 w : World} {m a r : Nat} {rs : List Res} {s : Rn} (H : RunHas S0 w0 m a r rs s w) {o l : Int} (hop : s.f.op = o) (hl : s.f.line = l) (h0 : ¬ (o = 6 ∧ l = 2)) (h1 : ¬ (o = 7 ∧ l = 2)) (h2 : ¬ (o = 7 ∧ l = 3)) (hn : I64 s.n) (ha : 0 ≤ s.f.a ∧ s.f.a < 4294967296) (hc : s.notes.length ≤ 800) :
    Calls Try.prog 119 #[.pointer (some ⟨r, 0, none⟩)] w fun e w' => e = .returned (.tuple #[]) ∧ RunHas S0 w0 m a r rs (fqGive 6 false [8] s) w' := by
  obtain ⟨z0, z2, z4, z5, z6, z7⟩ := H.facts hop hl rfl rfl
  have HC := Lib.hid hc
  have HA := Lib.hid ha
  have HN := Lib.hid hn
  have HH := Lib.hid H
  clear hc H hn ha
  go_enter Try.func119, Try.ntmps119
  go_wp2_with fail
  go_quiet (fail)
  have HW := HH.out.drewN nq
  clear z0 z2 z4 z5 z6 z7
  generalize w.drewN nq = W at HW ⊢
  obtain ⟨z0, z2, z4, z5, z6, z7⟩ := HW.facts hop hl rfl rfl
  go_wp2_with fail
  all_goals
    refine (fq_give 6 false (nl := [8]) rfl (by decide) (by decide) (HW.box rfl _ _) HN.out HA.out HC.out).mono ?_
    rintro e w7 ⟨rfl, H7⟩
    go_wp2_with fail
    go_end0
    exact ⟨rfl, H7.unbox⟩

def fqDecide (s : Rn) : Rn :=
  if s.f.op = 6 ∧ s.f.line = 2 then (if (doA s.L ⟨1, 1, 0, 0, 0⟩).1.old = 0 then (((s.did (doA s.L ⟨1, 1, 0, 0, 0⟩)).setA (doA s.L ⟨1, 1, 0, 0, 0⟩).1.old).note 4 0).fin true else (((s.did (doA s.L ⟨1, 1, 0, 0, 0⟩)).setA (doA s.L ⟨1, 1, 0, 0, 0⟩).1.old).note 5 0).goto 6)
  else if s.f.op = 7 ∧ s.f.line = 2 then (if (doA s.L ⟨1, 1, 0, 0, 0⟩).1.old = 1 then ((s.did (doA s.L ⟨1, 1, 0, 0, 0⟩)).setA (doA s.L ⟨1, 1, 0, 0, 0⟩).1.old).goto 3 else (((s.did (doA s.L ⟨1, 1, 0, 0, 0⟩)).setA (doA s.L ⟨1, 1, 0, 0, 0⟩).1.old).note 5 0).goto 6)
  else if s.f.op = 7 ∧ s.f.line = 3 then ((s.did (doA s.L ⟨3, 1, 4294967295, 0, 0⟩)).note 9 0).fin true
  else fqGive 6 false [8] s
theorem fq_decide {S0 : List Nat} {w0 w : World} {m a r : Nat} {rs : List Res} {s : Rn} (H : RunHas S0 w0 m a r rs s w) (hn : I64 s.n) (ha : 0 ≤ s.f.a ∧ s.f.a < 4294967296) (hc : s.notes.length ≤ 800) : Calls Try.prog 119 #[.pointer (some ⟨r, 0, none⟩)] w fun e w' => e = .returned (.tuple #[]) ∧ RunHas S0 w0 m a r rs (fqDecide s) w' := by
  unfold fqDecide
  split
  · exact fq_decide62 H rfl rfl (by omega) (by omega) hn ha hc
  split
  · exact fq_decide72 H rfl rfl (by omega) (by omega) hn ha hc
  split
  · exact fq_decide73 H rfl rfl (by omega) (by omega) hn ha hc
  · exact fq_decideG H rfl rfl (by assumption) (by assumption) (by assumption) hn ha hc

set_option maxHeartbeats 800000 in
theorem fq_others20 {S0 : List Nat} {w0 w : World} {m a r : Nat} {rs : List Res} {s : Rn} (H : RunHas S0 w0 m a r rs s w) {o l : Int} (hop : s.f.op = o) (hl : s.f.line = l) (ho : o = 2) (h3 : l = 0) (hn : I64 s.n) (ha : 0 ≤ s.f.a ∧ s.f.a < 4294967296) (hc : s.notes.length ≤ 800) :
    Calls Try.prog 120 #[.pointer (some ⟨r, 0, none⟩)] w fun e w' => e = .returned (.tuple #[]) ∧ RunHas S0 w0 m a r rs ((((s.did (doA s.L ⟨3, 1, 4294967295, 0, 0⟩)).note 6 0).wake 1).fin true) w' := by
  obtain ⟨z0, z2, z4, z5, z6, z7⟩ := H.facts hop hl rfl rfl
  have HC := Lib.hid hc
  have HA := Lib.hid ha
  have HN := Lib.hid hn
  have HH := Lib.hid H
  clear hc H hn ha
  subst ho h3
  go_enter Try.func120, Try.ntmps120
  go_wp2_with fail
  refine (rn_add HH.out 1 4294967295 (by decide)).mono ?_
  rintro e w1 ⟨rfl, H1⟩
  go_wp2_with fail
  refine (run_note H1 (by have := HC.out; first | exact Nat.le_trans this (by decide) | (simp [Rn.note, Rn.did, Rn.setA, Rn.setB, Rn.waited, Rn.goto, Rn.noted]; omega)) 6 0).mono ?_
  rintro e w2 ⟨rfl, H2⟩
  go_wp2_with fail
  refine (rn_wake H2 1).mono ?_
  rintro e w3 ⟨rfl, H3⟩
  go_wp2_with fail
  refine (rn_end H3 true).mono ?_
  rintro e w4 ⟨rfl, H4⟩
  go_wp2_with fail
  go_end0
  exact ⟨rfl, H4⟩

set_option maxHeartbeats 800000 in
theorem fq_others80 {S0 : List Nat} {w0 w : World} {m a r : Nat} {rs : List Res} {s : Rn} (H : RunHas S0 w0 m a r rs s w) {o l : Int} (hop : s.f.op = o) (hl : s.f.line = l) (ho : o = 8) (h3 : l = 0) (hn : I64 s.n) (ha : 0 ≤ s.f.a ∧ s.f.a < 4294967296) (hc : s.notes.length ≤ 800) :
    Calls Try.prog 120 #[.pointer (some ⟨r, 0, none⟩)] w fun e w' => e = .returned (.tuple #[]) ∧ RunHas S0 w0 m a r rs ((s.did (doA s.L ⟨3, 1, 1, 0, 0⟩)).goto 1) w' := by
  obtain ⟨z0, z2, z4, z5, z6, z7⟩ := H.facts hop hl rfl rfl
  have HC := Lib.hid hc
  have HA := Lib.hid ha
  have HN := Lib.hid hn
  have HH := Lib.hid H
  clear hc H hn ha
  subst ho h3
  go_enter Try.func120, Try.ntmps120
  go_wp2_with fail
  refine (rn_add HH.out 1 1 (by decide)).mono ?_
  rintro e w1 ⟨rfl, H1⟩
  go_wp2_with fail
  refine (rn_go H1 1).mono ?_
  rintro e w2 ⟨rfl, H2⟩
  go_wp2_with fail
  go_end0
  exact ⟨rfl, H2⟩

set_option maxHeartbeats 800000 in
theorem fq_others8 {S0 : List Nat} {w0 w : World} {m a r : Nat} {rs : List Res} {s : Rn} (H : RunHas S0 w0 m a r rs s w) {o l : Int} (hop : s.f.op = o) (hl : s.f.line = l) (ho : o = 8) (h3 : ¬ l = 0) (hn : I64 s.n) (ha : 0 ≤ s.f.a ∧ s.f.a < 4294967296) (hc : s.notes.length ≤ 800) :
    Calls Try.prog 120 #[.pointer (some ⟨r, 0, none⟩)] w fun e w' => e = .returned (.tuple #[]) ∧ RunHas S0 w0 m a r rs (fqGive 1 true [10] s) w' := by
  obtain ⟨z0, z2, z4, z5, z6, z7⟩ := H.facts hop hl rfl rfl
  have HC := Lib.hid hc
  have HA := Lib.hid ha
  have HN := Lib.hid hn
  have HH := Lib.hid H
  clear hc H hn ha
  subst ho
  go_enter Try.func120, Try.ntmps120
  go_wp2_with fail
  refine (fq_give 1 true (nl := [10]) rfl (by decide) (by decide) (HH.out.box rfl _ _) HN.out HA.out HC.out).mono ?_
  rintro e w7 ⟨rfl, H7⟩
  go_wp2_with fail
  go_end0
  exact ⟨rfl, H7.unbox⟩

set_option maxHeartbeats 800000 in
theorem fq_othersN2 {S0 : List Nat} {w0 w : World} {m a r : Nat} {rs : List Res} {s : Rn} (H : RunHas S0 w0 m a r rs s w) {o l : Int} (hop : s.f.op = o) (hl : s.f.line = l) (ho : o = 2) (h3 : ¬ l = 0) (hn : I64 s.n) (ha : 0 ≤ s.f.a ∧ s.f.a < 4294967296) (hc : s.notes.length ≤ 800) :
    Calls Try.prog 120 #[.pointer (some ⟨r, 0, none⟩)] w fun e w' => e = .returned (.tuple #[]) ∧ RunHas S0 w0 m a r rs s w' := by
  obtain ⟨z0, z2, z4, z5, z6, z7⟩ := H.facts hop hl rfl rfl
  have HC := Lib.hid hc
  have HA := Lib.hid ha
  have HN := Lib.hid hn
  have HH := Lib.hid H
  clear hc H hn ha
  subst ho
  go_enter Try.func120, Try.ntmps120
  go_wp2_with fail
  go_end0
  exact ⟨rfl, HH.out⟩

set_option maxHeartbeats 800000 in
theorem fq_othersN {S0 : List Nat} {w0 w : World} {m a r : Nat} {rs : List Res} {s : Rn} (H : RunHas S0 w0 m a r rs s w) {o l : Int} (hop : s.f.op = o) (hl : s.f.line = l) (ho : ¬ o = 2) (h8 : ¬ o = 8) (hn : I64 s.n) (ha : 0 ≤ s.f.a ∧ s.f.a < 4294967296) (hc : s.notes.length ≤ 800) :
    Calls Try.prog 120 #[.pointer (some ⟨r, 0, none⟩)] w fun e w' => e = .returned (.tuple #[]) ∧ RunHas S0 w0 m a r rs s w' := by
  obtain ⟨z0, z2, z4, z5, z6, z7⟩ := H.facts hop hl rfl rfl
  have HC := Lib.hid hc
  have HA := Lib.hid ha
  have HN := Lib.hid hn
  have HH := Lib.hid H
  clear hc H hn ha
  go_enter Try.func120, Try.ntmps120
  go_wp2_with fail
  go_end0
  exact ⟨rfl, HH.out⟩

def fqOthers (s : Rn) : Rn :=
  if s.f.op = 2 then (if s.f.line = 0 then (((s.did (doA s.L ⟨3, 1, 4294967295, 0, 0⟩)).note 6 0).wake 1).fin true else s)
  else if s.f.op = 8 then (if s.f.line = 0 then (s.did (doA s.L ⟨3, 1, 1, 0, 0⟩)).goto 1 else fqGive 1 true [10] s) else s
theorem fq_others {S0 : List Nat} {w0 w : World} {m a r : Nat} {rs : List Res} {s : Rn} (H : RunHas S0 w0 m a r rs s w) (hn : I64 s.n) (ha : 0 ≤ s.f.a ∧ s.f.a < 4294967296) (hc : s.notes.length ≤ 800) : Calls Try.prog 120 #[.pointer (some ⟨r, 0, none⟩)] w fun e w' => e = .returned (.tuple #[]) ∧ RunHas S0 w0 m a r rs (fqOthers s) w' := by
  unfold fqOthers
  split
  · split
    · exact fq_others20 H rfl rfl (by assumption) (by assumption) hn ha hc
    · exact fq_othersN2 H rfl rfl (by assumption) (by assumption) hn ha hc
  split
  · split
    · exact fq_others80 H rfl rfl (by assumption) (by assumption) hn ha hc
    · exact fq_others8 H rfl rfl (by assumption) (by assumption) hn ha hc
  · exact fq_othersN H rfl rfl (by assumption) (by assumption) hn ha hc

end Go.Proofs.Ytlndihdlodempaa.Z
