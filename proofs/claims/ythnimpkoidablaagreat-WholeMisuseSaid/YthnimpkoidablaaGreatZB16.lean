/- 4 texts of this claim, joined: what Package world needs of them. -/
import Derived.Test.YthnimpkoidablaaGreatZB13
import Derived.Test.YthnimpkoidablaaGreatZB07
import Derived.Deep.RegionHeld3
import Derived.Deep.DrawnRows
import Derived.Test.YthnimpkoidablaaGreatZB11
set_option linter.unusedVariables false
set_option linter.unusedSimpArgs false
namespace Go.Proofs.YthnimpkoidablaaGreat.Z
open Go.RowKit
attribute [local go_sem ↓] Go.wp_at_zero Go.wp_at_succ
def mxOwn (s : Rn) : Int := (s.task + 1) % 4294967296
theorem mxOwn_word (s : Rn) : 0 ≤ mxOwn s ∧ mxOwn s < 4294967296 := by unfold mxOwn; omega
theorem RunHas.sees {S0 : List Nat} {w0 w : World} {m a r : Nat} {rs : List Res} {s : Rn} (H : RunHas S0 w0 m a r rs s w) : w.cell? ⟨r, 1, none⟩ = some (.int .i64 s.n) ∧ w.cell? ⟨r, 3, none⟩ = some (.int .i64 s.task) ∧ w.cell? ⟨r, 6, none⟩ = some (.int .u32 s.f.a) :=
  ⟨(H.whose rfl rfl rfl).1, (H.whose rfl rfl rfl).2.2, (H.facts rfl rfl rfl rfl).2.2.2.2.1⟩
theorem RunHas.sees_did {S0 : List Nat} {w0 w : World} {m a r : Nat} {rs : List Res} {s : Rn} {R : Acc × Bool × List Int} (H : RunHas S0 w0 m a r rs (s.did R) w) : w.cell? ⟨r, 1, none⟩ = some (.int .i64 s.n) ∧ w.cell? ⟨r, 3, none⟩ = some (.int .i64 s.task) ∧ w.cell? ⟨r, 6, none⟩ = some (.int .u32 s.f.a) :=
  ⟨(H.whose rfl rfl rfl).1, (H.whose rfl rfl rfl).2.2, (H.facts rfl rfl rfl rfl).2.2.2.2.1⟩
theorem RunHas.sees_wtd {S0 : List Nat} {w0 w : World} {m a r : Nat} {rs : List Res} {s : Rn} {R : WaitR} (H : RunHas S0 w0 m a r rs (s.waited R) w) : w.cell? ⟨r, 1, none⟩ = some (.int .i64 s.n) ∧ w.cell? ⟨r, 3, none⟩ = some (.int .i64 s.task) ∧ w.cell? ⟨r, 6, none⟩ = some (.int .u32 s.f.a) :=
  ⟨(H.whose rfl rfl rfl).1, (H.whose rfl rfl rfl).2.2, (H.facts rfl rfl rfl rfl).2.2.2.2.1⟩
theorem RunHas.sees_box {S0 : List Nat} {w0 w : World} {m a r : Nat} {rs : List Res} {s : Rn} {b : Nat} (H : RunHas S0 w0 m a r (.blk b #[.pointer (some ⟨r, 4, none⟩)] :: rs) s w) : w.cell? ⟨r, 1, none⟩ = some (.int .i64 s.n) ∧ w.cell? ⟨r, 3, none⟩ = some (.int .i64 s.task) ∧ w.cell? ⟨r, 6, none⟩ = some (.int .u32 s.f.a) ∧ w.cell? ⟨b, 0, none⟩ = some (.pointer (some ⟨r, 4, none⟩)) :=
  ⟨(H.whose rfl rfl rfl).1, (H.whose rfl rfl rfl).2.2, (H.facts rfl rfl rfl rfl).2.2.2.2.1, H.first.own.2.1 0⟩
theorem mx_own {S0 : List Nat} {w0 w : World} {m a r : Nat} {rs : List Res} {s : Rn} (H : RunHas S0 w0 m a r rs s w) :
    Calls Tryz.prog 174 #[.pointer (some ⟨r, 0, none⟩)] w fun e w' => e = .returned (.int .u32 (mxOwn s)) ∧ w = w' := by
  obtain ⟨y1, y2, y3⟩ := H.whose rfl rfl rfl
  go_enter Tryz.func174, Tryz.ntmps174
  go_wp2
  go_ret
  refine ⟨?_, rfl⟩
  show Ending.returned (Value.int .u32 _) = Ending.returned (Value.int .u32 _)
  unfold mxOwn
  have e : wrap64 (s.task + 1) % 4294967296 = (s.task + 1) % 4294967296 := by
    unfold wrap64
    omega
  rw [e]
theorem mx_other (v : Int) (w : World) (hv : 0 ≤ v ∧ v < 4294967296) :
    Calls Tryz.prog 175 #[.int .u32 v] w fun e w' => e = .returned (.int .i64 (v - 1)) ∧ w = w' := by
  go_enter Tryz.func175, Tryz.ntmps175
  go_wp2
  go_ret
  refine ⟨?_, rfl⟩
  go_num
theorem mx_free (v : Int) (w : World) (hv : 0 ≤ v ∧ v < 4294967296) :
    Calls Tryz.prog 176 #[.int .u32 v] w fun e w' => e = .returned (.bool (v == 0)) ∧ Touch [] w w' := by
  go_enter Tryz.func176, Tryz.ntmps176
  go_wp2
  go_ret
  exact ⟨rfl, Touch.refl _ _⟩
theorem RunHas.ne_first {S0 : List Nat} {w0 w : World} {m a r b : Nat} {cs : Array Value} {rs : List Res} {s : Rn} (H : RunHas S0 w0 m a r (.blk b cs :: rs) s w) : r ≠ b := by
  obtain ⟨nv, H⟩ := H
  exact H.ne_at 1 3 rfl rfl (by decide)
theorem RunHas.swap12 {S0 : List Nat} {w0 w : World} {m a r : Nat} {x y : Res} {rs : List Res} {s : Rn} (H : RunHas S0 w0 m a r (x :: y :: rs) s w) : RunHas S0 w0 m a r (y :: x :: rs) s w := by
  obtain ⟨nv, H⟩ := H
  exact ⟨nv, H.perm (((List.Perm.swap y x rs).cons _).cons _ |>.cons _)⟩
set_option maxHeartbeats 800000 in
theorem mx_noted {S0 : List Nat} {w0 w : World} {m a r g n c : Nat} {l : List Int} {rs : List Res} {s : Rn} (H : RunHas S0 w0 m a r (.blk g (i64s l).toArray :: rs) s w) (hn : l.length = n) (hc : s.notes.length + l.length ≤ 1000) :
    Calls Tryz.prog 177 #[.pointer (some ⟨r, 0, none⟩), .slice (some ⟨g, 0, none⟩) n c] w fun e w' => e = .returned (.tuple #[]) ∧ RunHas S0 w0 m a r (.blk g (i64s l).toArray :: rs) (s.noted l) w' := by
  subst hn
  have hll : l.length ≤ 1000 := by omega
  have HC := Lib.hid hc
  have HH := Lib.hid H
  clear hc H
  go_enter Tryz.func177, Tryz.ntmps177
  go_wp2_with fail
  go_loopw [8] (fun i wr => ∃ k : Nat, k ≤ l.length ∧ i = .int .i64 k ∧ RunHas S0 w0 m a r (.blk g (i64s l).toArray :: rs) (s.noted (l.take k)) wr) (fun i _ => l.length - (intOf i).toNat)
  case atStart => exact ⟨0, Nat.zero_le _, rfl, HH.out⟩
  case round =>
    obtain ⟨k, hk, rfl, hH⟩ := hrel
    have HK := Lib.hid hH
    clear hH
    by_cases hlt : k < l.length
    · obtain ⟨b, off, hb, hbl, hcell⟩ := i64s_at (rd_blk HK.out.first) hlt
      simp only [Option.some.injEq, Addr.mk.injEq] at hb
      obtain ⟨rfl, rfl, _⟩ := hb
      obtain ⟨x, hx⟩ : ∃ x, l.getD k 0 = x := ⟨_, rfl⟩
      rw [hx, Nat.zero_add] at hcell
      have HX := Lib.hid hx
      clear hx
      have hi : (k : Int) < (l.length : Int) := by omega
      go_wp2_with fail
      refine (run_note HK.out (by rw [noted_notes]; have := HC.out; simp only [List.length_take]; omega) x 0).mono ?_
      rintro e w1 ⟨rfl, H1⟩
      go_wp2
      go_roundw
      case rel => exact ⟨k + 1, by omega, by go_num, by rw [noted_succ s l k hlt, HX.out]; exact H1⟩
      case measure => simp [intOf]; omega
    · have hkn : k = l.length := by omega
      subst hkn
      have hi : (l.length : Int) ≤ (l.length : Int) := Int.le_refl _
      have H2 := HK.out
      rw [List.take_length] at H2
      clear HK hlt hk
      go_wp2_with fail
      go_end0
      exact ⟨rfl, H2⟩
theorem mx_keeps {m r b : Nat} {nv : Value} {s : Rn} (v : Int) (w : World) (hv : 0 ≤ v ∧ v < 4294967296) (hr : Blk w r (rcells m s nv)) (hb : Blk w b #[.pointer (some ⟨r, 4, none⟩)]) :
    Calls Tryz.prog 178 #[.int .u32 v, .pointer (some ⟨b, 0, none⟩)] w fun e w' => e = .returned (.bool (v != 0)) ∧ Touch [r] w w' ∧ Blk w' r (rcells m (if v != 0 then s.setA v else s) nv) := by
  obtain ⟨n, mode, task, ⟨op, line, fa, fb, st, ⟨on, wc, wi, hit⟩, ret⟩, ⟨ak, ac, ax, ay, ao⟩, notes, L⟩ := s
  obtain ⟨x0, x1, x2⟩ := hb.own
  cases hcm : v != 0 with
  | true =>
    simp only [rcells, if_true, Rn.setA] at hr ⊢
    obtain ⟨y0, y1, y2⟩ := hr.own
    have HR := Lib.hid hr
    clear hr
    go_enter Tryz.func178, Tryz.ntmps178
    go_wp2
    go_ret
    refine ⟨rfl, (Touch.refl _ _).set (by simp) _, ?_⟩
    have := HR.out.set 6 (.int .u32 v)
    simp only [List.setIfInBounds_toArray, List.set_cons_zero, List.set_cons_succ] at this
    exact this
  | false =>
    simp only [rcells, Bool.false_eq_true, if_false] at hr ⊢
    have HR := Lib.hid hr
    clear hr
    go_enter Tryz.func178, Tryz.ntmps178
    go_wp2
    go_ret
    exact ⟨rfl, Touch.refl _ _, HR.out⟩
end Go.Proofs.YthnimpkoidablaaGreat.Z

set_option linter.unusedVariables false
set_option linter.unusedSimpArgs false
namespace Go.Proofs.YthnimpkoidablaaGreat.Z
open Go.RowKit
attribute [local go_sem ↓] Go.wp_at_zero Go.wp_at_succ
def mxE0 (s : Rn) : Rn := (s.did (doA s.L ⟨2, cellP s.n 0 s.task, 0, 0, 0⟩)).goto 1
set_option maxHeartbeats 800000 in
theorem mx_e0 {S0 : List Nat} {w0 w : World} {m a r : Nat} {rs : List Res} {s : Rn} (H : RunHas S0 w0 m a r rs s w) (tail cls : Int) (hl : s.f.line = 0) (hn : I64 s.n) :
    Calls Tryz.prog 142 #[.pointer (some ⟨r, 0, none⟩), .int .i64 tail, .int .i64 cls] w fun e w' => e = .returned (.bool false) ∧ RunHas S0 w0 m a r rs (mxE0 s) w' := by
  obtain ⟨o, hop⟩ : ∃ o, s.f.op = o := ⟨_, rfl⟩
  obtain ⟨z0, z2, z4, z5, z6, z7⟩ := H.facts rfl hl rfl rfl
  obtain ⟨y1, y2, y3⟩ := H.whose rfl rfl rfl
  have HN := Lib.hid hn
  have HH := Lib.hid H
  have HNX := Lib.hid (fun W => mapNext s.n s.task W hn)
  have HST := Lib.hid (fun W (H : RunHas S0 w0 m a r rs s W) => rn_store H (cellP s.n 0 s.task) 0 (by decide))
  clear H hn
  unfold mxE0
  go_enter Tryz.func142, Tryz.ntmps142
  go_wp2_with fail
  go_region_held3 (fun w' => w'.cell? ⟨r, 1, none⟩ = some (.int .i64 s.n) ∧ w'.cell? ⟨r, 3, none⟩ = some (.int .i64 s.task) ∧ w'.cell? ⟨r, 6, none⟩ = some (.int .u32 s.f.a))
    (first | with_reducible exact RunHas.sees HH.out | with_reducible exact RunHas.sees HH.out.drew | (refine RunHas.sees (S0 := S0) (w0 := w0) (m := m) (a := a) (rs := rs) (s := s) ?_; with_reducible assumption) | (refine RunHas.sees_did (S0 := S0) (w0 := w0) (m := m) (a := a) (rs := rs) (s := s) (R := doA s.L ⟨2, cellP s.n 0 s.task, 0, 0, 0⟩) ?_; with_reducible assumption) | (refine RunHas.sees_wtd (S0 := S0) (w0 := w0) (m := m) (a := a) (rs := rs) (s := s) (R := doA s.L ⟨2, cellP s.n 0 s.task, 0, 0, 0⟩) ?_; with_reducible assumption))
    (first | (go_at_call 171; refine (HNX.out _).mono ?_; rintro e w1 ⟨rfl, t1⟩; have H1 := RunHas.grow (by first | with_reducible exact HH.out | with_reducible exact HH.out.drew) t1) | (go_at_call 137; (with_reducible refine (HST.out _ H1).mono ?_); rintro e w2 ⟨rfl, H2⟩))
  go_wp2_with fail
  refine (rn_go H2 1).mono ?_
  rintro e w3 ⟨rfl, H3⟩
  go_wp2_with fail
  go_ret
  exact ⟨rfl, H3⟩
def mxE1 (s : Rn) : Rn := (s.did (doA s.L ⟨2, cellP s.n 1 s.task, 1, 0, 0⟩)).goto 2
set_option maxHeartbeats 800000 in
theorem mx_e1 {S0 : List Nat} {w0 w : World} {m a r : Nat} {rs : List Res} {s : Rn} (H : RunHas S0 w0 m a r rs s w) (tail cls : Int) (hl : s.f.line = 1) (hn : I64 s.n) :
    Calls Tryz.prog 142 #[.pointer (some ⟨r, 0, none⟩), .int .i64 tail, .int .i64 cls] w fun e w' => e = .returned (.bool false) ∧ RunHas S0 w0 m a r rs (mxE1 s) w' := by
  obtain ⟨o, hop⟩ : ∃ o, s.f.op = o := ⟨_, rfl⟩
  obtain ⟨z0, z2, z4, z5, z6, z7⟩ := H.facts rfl hl rfl rfl
  obtain ⟨y1, y2, y3⟩ := H.whose rfl rfl rfl
  have HN := Lib.hid hn
  have HH := Lib.hid H
  have HNX := Lib.hid (fun W => mapBlocked s.n s.task W hn)
  have HST := Lib.hid (fun W (H : RunHas S0 w0 m a r rs s W) => rn_store H (cellP s.n 1 s.task) 1 (by decide))
  clear H hn
  unfold mxE1
  go_enter Tryz.func142, Tryz.ntmps142
  go_wp2_with fail
  go_region_held3 (fun w' => w'.cell? ⟨r, 1, none⟩ = some (.int .i64 s.n) ∧ w'.cell? ⟨r, 3, none⟩ = some (.int .i64 s.task) ∧ w'.cell? ⟨r, 6, none⟩ = some (.int .u32 s.f.a))
    (first | with_reducible exact RunHas.sees HH.out | with_reducible exact RunHas.sees HH.out.drew | (refine RunHas.sees (S0 := S0) (w0 := w0) (m := m) (a := a) (rs := rs) (s := s) ?_; with_reducible assumption) | (refine RunHas.sees_did (S0 := S0) (w0 := w0) (m := m) (a := a) (rs := rs) (s := s) (R := doA s.L ⟨2, cellP s.n 1 s.task, 1, 0, 0⟩) ?_; with_reducible assumption) | (refine RunHas.sees_wtd (S0 := S0) (w0 := w0) (m := m) (a := a) (rs := rs) (s := s) (R := doA s.L ⟨2, cellP s.n 1 s.task, 1, 0, 0⟩) ?_; with_reducible assumption))
    (first | (go_at_call 172; refine (HNX.out _).mono ?_; rintro e w1 ⟨rfl, t1⟩; have H1 := RunHas.grow (by first | with_reducible exact HH.out | with_reducible exact HH.out.drew) t1) | (go_at_call 137; (with_reducible refine (HST.out _ H1).mono ?_); rintro e w2 ⟨rfl, H2⟩))
  go_wp2_with fail
  refine (rn_go H2 2).mono ?_
  rintro e w3 ⟨rfl, H3⟩
  go_wp2_with fail
  go_ret
  exact ⟨rfl, H3⟩
def mxE2 (tail cls : Int) (s : Rn) : Bool × Rn :=
  let s1 := ((s.did (doA s.L ⟨4, tail, mxOwn s, 0, 0⟩)).setA (doA s.L ⟨4, tail, mxOwn s, 0, 0⟩).1.old).note 2 cls
  if (doA s.L ⟨4, tail, mxOwn s, 0, 0⟩).1.old = 0 then (true, s1) else (false, s1.goto 3)
set_option maxHeartbeats 800000 in
theorem mx_e2 {S0 : List Nat} {w0 w : World} {m a r : Nat} {rs : List Res} {s : Rn} (H : RunHas S0 w0 m a r rs s w) (tail cls : Int) (hc : s.notes.length ≤ 900) (hl : s.f.line = 2) (hn : I64 s.n) :
    Calls Tryz.prog 142 #[.pointer (some ⟨r, 0, none⟩), .int .i64 tail, .int .i64 cls] w fun e w' => e = .returned (.bool (mxE2 tail cls s).1) ∧ RunHas S0 w0 m a r rs (mxE2 tail cls s).2 w' := by
  obtain ⟨o, hop⟩ : ∃ o, s.f.op = o := ⟨_, rfl⟩
  obtain ⟨z0, z2, z4, z5, z6, z7⟩ := H.facts rfl hl rfl rfl
  obtain ⟨y1, y2, y3⟩ := H.whose rfl rfl rfl
  have HN := Lib.hid hn
  have HH := Lib.hid H
  have HC := Lib.hid hc
  clear H hn hc
  unfold mxE2
  (try dsimp only)
  by_cases hq : (doA s.L ⟨4, tail, mxOwn s, 0, 0⟩).1.old = 0
  · simp only [if_pos hq]
    have hz : ((doA s.L ⟨4, tail, mxOwn s, 0, 0⟩).1.old == 0) = true := by simpa using hq
    clear hq
    go_enter Tryz.func142, Tryz.ntmps142
    go_wp2_with fail
    refine (mx_own HH.out).mono ?_
    rintro e w9 ⟨rfl, rfl⟩
    go_wp2_with fail
    refine (rn_swap HH.out tail (mxOwn s) (mxOwn_word s)).mono ?_
    rintro e w1 ⟨rfl, H1⟩
    obtain ⟨x0, x2, x4, x5, x6, x7⟩ := H1.facts hop hl rfl rfl
    go_wp2_with fail
    refine (run_note (H1.setA (doA s.L ⟨4, tail, mxOwn s, 0, 0⟩).1.old) (by have := HC.out; first | exact Nat.le_trans this (by decide) | (simp [Rn.note, Rn.did, Rn.setA, Rn.setB, Rn.waited, Rn.goto, Rn.noted]; omega)) 2 cls).mono ?_
    rintro e w2 ⟨rfl, H2⟩
    obtain ⟨x0, x2, x4, x5, x6, x7⟩ := H2.facts hop hl (x := (doA s.L ⟨4, tail, mxOwn s, 0, 0⟩).1.old) rfl rfl
    go_wp2_with fail
    go_ret
    exact ⟨rfl, H2⟩
  · simp only [if_neg hq]
    have hz : ((doA s.L ⟨4, tail, mxOwn s, 0, 0⟩).1.old == 0) = false := by simpa using hq
    clear hq
    go_enter Tryz.func142, Tryz.ntmps142
    go_wp2_with fail
    refine (mx_own HH.out).mono ?_
    rintro e w9 ⟨rfl, rfl⟩
    go_wp2_with fail
    refine (rn_swap HH.out tail (mxOwn s) (mxOwn_word s)).mono ?_
    rintro e w1 ⟨rfl, H1⟩
    obtain ⟨x0, x2, x4, x5, x6, x7⟩ := H1.facts hop hl rfl rfl
    go_wp2_with fail
    refine (run_note (H1.setA (doA s.L ⟨4, tail, mxOwn s, 0, 0⟩).1.old) (by have := HC.out; first | exact Nat.le_trans this (by decide) | (simp [Rn.note, Rn.did, Rn.setA, Rn.setB, Rn.waited, Rn.goto, Rn.noted]; omega)) 2 cls).mono ?_
    rintro e w2 ⟨rfl, H2⟩
    obtain ⟨x0, x2, x4, x5, x6, x7⟩ := H2.facts hop hl (x := (doA s.L ⟨4, tail, mxOwn s, 0, 0⟩).1.old) rfl rfl
    go_wp2_with fail
    refine (rn_go H2 3).mono ?_
    rintro e w3 ⟨rfl, H3⟩
    go_wp2_with fail
    go_ret
    exact ⟨rfl, H3⟩
def mxE3 (s : Rn) : Rn := ((s.did (doA s.L ⟨2, (cellP s.n 0 (s.f.a - 1)), mxOwn s, 0, 0⟩)).wake (cellP s.n 0 (s.f.a - 1))).goto 4
set_option maxHeartbeats 800000 in
theorem mx_e3 {S0 : List Nat} {w0 w : World} {m a r : Nat} {rs : List Res} {s : Rn} (H : RunHas S0 w0 m a r rs s w) (tail cls : Int) (ha : 0 ≤ s.f.a ∧ s.f.a < 4294967296) (hl : s.f.line = 3) (hn : I64 s.n) :
    Calls Tryz.prog 142 #[.pointer (some ⟨r, 0, none⟩), .int .i64 tail, .int .i64 cls] w fun e w' => e = .returned (.bool false) ∧ RunHas S0 w0 m a r rs (mxE3 s) w' := by
  obtain ⟨o, hop⟩ : ∃ o, s.f.op = o := ⟨_, rfl⟩
  obtain ⟨z0, z2, z4, z5, z6, z7⟩ := H.facts rfl hl rfl rfl
  obtain ⟨y1, y2, y3⟩ := H.whose rfl rfl rfl
  have HN := Lib.hid hn
  have HH := Lib.hid H
  have HA := Lib.hid ha
  have HNX := Lib.hid (fun W => mapNext s.n (s.f.a - 1) W hn)
  clear H hn ha
  unfold mxE3
  go_enter Tryz.func142, Tryz.ntmps142
  go_wp2_with fail
  go_region_held3 (fun w' => w'.cell? ⟨r, 1, none⟩ = some (.int .i64 s.n) ∧ w'.cell? ⟨r, 3, none⟩ = some (.int .i64 s.task) ∧ w'.cell? ⟨r, 6, none⟩ = some (.int .u32 s.f.a))
    (first | with_reducible exact RunHas.sees HH.out | with_reducible exact RunHas.sees HH.out.drew | (refine RunHas.sees (S0 := S0) (w0 := w0) (m := m) (a := a) (rs := rs) (s := s) ?_; with_reducible assumption) | (refine RunHas.sees_did (S0 := S0) (w0 := w0) (m := m) (a := a) (rs := rs) (s := s) (R := X) ?_; with_reducible assumption) | (refine RunHas.sees_wtd (S0 := S0) (w0 := w0) (m := m) (a := a) (rs := rs) (s := s) (R := X) ?_; with_reducible assumption))
    (first | (go_at_call 175; refine (mx_other _ _ HA.out).mono ?_; rintro e w9 ⟨rfl, rfl⟩) | (go_at_call 171; refine (HNX.out _).mono ?_; rintro e w1 ⟨rfl, t1⟩; have H1 := RunHas.grow (by first | with_reducible exact HH.out | with_reducible exact HH.out.drew) t1))
  obtain ⟨x0, x2, x4, x5, x6, x7⟩ := H1.facts hop hl rfl rfl
  obtain ⟨v1, v2, v3⟩ := H1.whose rfl rfl rfl
  go_wp2_with fail
  refine (mx_own H1).mono ?_
  rintro e w9 ⟨rfl, rfl⟩
  go_wp2_with fail
  refine (rn_store H1 (cellP s.n 0 (s.f.a - 1)) (mxOwn s) (mxOwn_word s)).mono ?_
  rintro e w2 ⟨rfl, H2⟩
  go_wp2_with fail
  refine (rn_wake H2 (cellP s.n 0 (s.f.a - 1))).mono ?_
  rintro e w3 ⟨rfl, H3⟩
  go_wp2_with fail
  refine (rn_go H3 4).mono ?_
  rintro e w4 ⟨rfl, H4⟩
  go_wp2_with fail
  go_ret
  exact ⟨rfl, H4⟩
def mxE4 (s : Rn) : Bool × Rn := ((waitA s.L s.n s.mode s.task s.f.st (cellP s.n 1 s.task) (fun v => v == 0)).done, s.waited (waitA s.L s.n s.mode s.task s.f.st (cellP s.n 1 s.task) (fun v => v == 0)))
set_option maxHeartbeats 800000 in
theorem mx_e4 {S0 : List Nat} {w0 w : World} {m a r : Nat} {rs : List Res} {s : Rn} (H : RunHas S0 w0 m a r rs s w) (tail cls : Int) (hl : s.f.line = 4) (hn : I64 s.n) :
    Calls Tryz.prog 142 #[.pointer (some ⟨r, 0, none⟩), .int .i64 tail, .int .i64 cls] w fun e w' => e = .returned (.bool (mxE4 s).1) ∧ RunHas S0 w0 m a r rs (mxE4 s).2 w' := by
  obtain ⟨o, hop⟩ : ∃ o, s.f.op = o := ⟨_, rfl⟩
  obtain ⟨z0, z2, z4, z5, z6, z7⟩ := H.facts rfl hl rfl rfl
  obtain ⟨y1, y2, y3⟩ := H.whose rfl rfl rfl
  have HN := Lib.hid hn
  have HH := Lib.hid H
  have HNX := Lib.hid (fun W => mapBlocked s.n s.task W hn)
  have HWT := Lib.hid (fun W (H : RunHas S0 w0 m a r rs s W) => rn_wait H hn (cellP s.n 1 s.task) 176 #[] #[] (fun v => v == 0) (enters_of Tryz.func176 (by kernel_rfl) rfl) (fun W v h0 h1 H => mx_free v W ⟨h0, h1⟩))
  clear H hn
  unfold mxE4
  (try dsimp only)
  go_enter Tryz.func142, Tryz.ntmps142
  go_wp2_with fail
  go_region_held3 (fun w' => w'.cell? ⟨r, 1, none⟩ = some (.int .i64 s.n) ∧ w'.cell? ⟨r, 3, none⟩ = some (.int .i64 s.task) ∧ w'.cell? ⟨r, 6, none⟩ = some (.int .u32 s.f.a))
    (first | with_reducible exact RunHas.sees HH.out | with_reducible exact RunHas.sees HH.out.drew | (refine RunHas.sees (S0 := S0) (w0 := w0) (m := m) (a := a) (rs := rs) (s := s) ?_; with_reducible assumption) | (refine RunHas.sees_did (S0 := S0) (w0 := w0) (m := m) (a := a) (rs := rs) (s := s) (R := (waitA s.L s.n s.mode s.task s.f.st (cellP s.n 1 s.task) (fun v => v == 0))) ?_; with_reducible assumption) | (refine RunHas.sees_wtd (S0 := S0) (w0 := w0) (m := m) (a := a) (rs := rs) (s := s) (R := (waitA s.L s.n s.mode s.task s.f.st (cellP s.n 1 s.task) (fun v => v == 0))) ?_; with_reducible assumption))
    (first | (go_at_call 172; refine (HNX.out _).mono ?_; rintro e w1 ⟨rfl, t1⟩; have H1 := RunHas.grow (by first | with_reducible exact HH.out | with_reducible exact HH.out.drew) t1) | (go_at_call 85; (with_reducible refine (HWT.out _ H1).mono ?_); rintro e w2 ⟨rfl, H2⟩))
  go_wp2_with fail
  go_ret
  exact ⟨rfl, H2⟩
theorem mx_enone {S0 : List Nat} {w0 w : World} {m a r : Nat} {rs : List Res} {s : Rn} (H : RunHas S0 w0 m a r rs s w) (tail cls : Int) {l : Int} (hl : s.f.line = l) (h0 : ¬ l = 0) (h1 : ¬ l = 1) (h2 : ¬ l = 2) (h3 : ¬ l = 3) (h4 : ¬ l = 4) :
    Calls Tryz.prog 142 #[.pointer (some ⟨r, 0, none⟩), .int .i64 tail, .int .i64 cls] w fun e w' => e = .returned (.bool false) ∧ RunHas S0 w0 m a r rs s w' := by
  obtain ⟨z0, z2, z4, z5, z6, z7⟩ := H.facts rfl hl rfl rfl
  have HH := Lib.hid H
  clear H
  go_enter Tryz.func142, Tryz.ntmps142
  go_wp2_with fail
  go_ret
  exact ⟨rfl, HH.out⟩
set_option maxHeartbeats 800000 in
theorem mx_t0 {S0 : List Nat} {w0 w : World} {m a r : Nat} {rs : List Res} {s : Rn} (H : RunHas S0 w0 m a r rs s w) (tail : Int) {l : Int} (hsub : wrap64 l = 0) (hl : s.f.line = l) (hn : I64 s.n) :
    Calls Tryz.prog 144 #[.pointer (some ⟨r, 0, none⟩), .int .i64 tail, .int .i64 0] w fun e w' => e = .returned (.tuple #[.bool false, .bool false]) ∧ RunHas S0 w0 m a r rs (mxE0 s) w' := by
  obtain ⟨o, hop⟩ : ∃ o, s.f.op = o := ⟨_, rfl⟩
  obtain ⟨z0, z2, z4, z5, z6, z7⟩ := H.facts rfl hl rfl rfl
  obtain ⟨y1, y2, y3⟩ := H.whose rfl rfl rfl
  have HN := Lib.hid hn
  have HH := Lib.hid H
  have HNX := Lib.hid (fun W => mapNext s.n s.task W hn)
  have HST := Lib.hid (fun W (H : RunHas S0 w0 m a r rs s W) => rn_store H (cellP s.n 0 s.task) 0 (by decide))
  clear H hn
  unfold mxE0
  go_enter Tryz.func144, Tryz.ntmps144
  go_wp2_with fail
  go_region_held3 (fun w' => w'.cell? ⟨r, 1, none⟩ = some (.int .i64 s.n) ∧ w'.cell? ⟨r, 3, none⟩ = some (.int .i64 s.task) ∧ w'.cell? ⟨r, 6, none⟩ = some (.int .u32 s.f.a))
    (first | with_reducible exact RunHas.sees HH.out | with_reducible exact RunHas.sees HH.out.drew | (refine RunHas.sees (S0 := S0) (w0 := w0) (m := m) (a := a) (rs := rs) (s := s) ?_; with_reducible assumption) | (refine RunHas.sees_did (S0 := S0) (w0 := w0) (m := m) (a := a) (rs := rs) (s := s) (R := doA s.L ⟨2, cellP s.n 0 s.task, 0, 0, 0⟩) ?_; with_reducible assumption) | (refine RunHas.sees_wtd (S0 := S0) (w0 := w0) (m := m) (a := a) (rs := rs) (s := s) (R := doA s.L ⟨2, cellP s.n 0 s.task, 0, 0, 0⟩) ?_; with_reducible assumption))
    (first | (go_at_call 171; refine (HNX.out _).mono ?_; rintro e w1 ⟨rfl, t1⟩; have H1 := RunHas.grow (by first | with_reducible exact HH.out | with_reducible exact HH.out.drew) t1) | (go_at_call 137; (with_reducible refine (HST.out _ H1).mono ?_); rintro e w2 ⟨rfl, H2⟩))
  go_wp2_with fail
  refine (rn_go H2 1).mono ?_
  rintro e w3 ⟨rfl, H3⟩
  go_wp2_with fail
  refine bodyPost_ret (v := .tuple #[.bool false, .bool false]) (by simp [results, Tryz.results144, go_sem]) rfl ⟨rfl, ?_⟩
  exact H3
set_option maxHeartbeats 800000 in
theorem mx_t1 {S0 : List Nat} {w0 w : World} {m a r : Nat} {rs : List Res} {s : Rn} (H : RunHas S0 w0 m a r rs s w) (tail : Int) {l : Int} (hsub : wrap64 l = 1) (hl : s.f.line = l) (hn : I64 s.n) :
    Calls Tryz.prog 144 #[.pointer (some ⟨r, 0, none⟩), .int .i64 tail, .int .i64 0] w fun e w' => e = .returned (.tuple #[.bool true, .bool (casB s.L tail 0 (mxOwn s))]) ∧ RunHas S0 w0 m a r rs (s.did (doA s.L ⟨5, tail, 0, mxOwn s, 0⟩)) w' := by
  obtain ⟨o, hop⟩ : ∃ o, s.f.op = o := ⟨_, rfl⟩
  obtain ⟨z0, z2, z4, z5, z6, z7⟩ := H.facts rfl hl rfl rfl
  obtain ⟨y1, y2, y3⟩ := H.whose rfl rfl rfl
  have HN := Lib.hid hn
  have HH := Lib.hid H
  clear H hn
  go_enter Tryz.func144, Tryz.ntmps144
  go_wp2_with fail
  refine (mx_own HH.out).mono ?_
  rintro e w9 ⟨rfl, rfl⟩
  go_wp2_with fail
  refine (rn_cas HH.out tail 0 (mxOwn s) (by decide) (mxOwn_word s)).mono ?_
  rintro e w1 ⟨rfl, H1⟩
  go_wp2_with fail
  refine bodyPost_ret (v := .tuple #[.bool true, .bool (casB s.L tail 0 (mxOwn s))]) (by simp [results, Tryz.results144, go_sem]) rfl ⟨rfl, ?_⟩
  exact H1
theorem mx_tnone {S0 : List Nat} {w0 w : World} {m a r : Nat} {rs : List Res} {s : Rn} (H : RunHas S0 w0 m a r rs s w) (tail : Int) {l : Int} (hl : s.f.line = l) (h0 : ¬ wrap64 l = 0) (h1 : ¬ wrap64 l = 1) :
    Calls Tryz.prog 144 #[.pointer (some ⟨r, 0, none⟩), .int .i64 tail, .int .i64 0] w fun e w' => e = .returned (.tuple #[.bool false, .bool false]) ∧ RunHas S0 w0 m a r rs s w' := by
  obtain ⟨z0, z2, z4, z5, z6, z7⟩ := H.facts rfl hl rfl rfl
  have HH := Lib.hid H
  clear H
  go_enter Tryz.func144, Tryz.ntmps144
  go_wp2_with fail
  refine bodyPost_ret (v := .tuple #[.bool false, .bool false]) (by simp [results, Tryz.results144, go_sem]) rfl ⟨rfl, ?_⟩
  exact HH.out
def mxEnter (tail cls : Int) (s : Rn) : Bool × Rn :=
  if s.f.line = 0 then (false, mxE0 s) else if s.f.line = 1 then (false, mxE1 s) else if s.f.line = 2 then mxE2 tail cls s else if s.f.line = 3 then (false, mxE3 s) else if s.f.line = 4 then mxE4 s else (false, s)
theorem mx_enter {S0 : List Nat} {w0 w : World} {m a r : Nat} {rs : List Res} {s : Rn} (H : RunHas S0 w0 m a r rs s w) (tail cls : Int) (hn : I64 s.n) (ha : 0 ≤ s.f.a ∧ s.f.a < 4294967296) (hc : s.notes.length ≤ 900) :
    Calls Tryz.prog 142 #[.pointer (some ⟨r, 0, none⟩), .int .i64 tail, .int .i64 cls] w fun e w' => e = .returned (.bool (mxEnter tail cls s).1) ∧ RunHas S0 w0 m a r rs (mxEnter tail cls s).2 w' := by
  unfold mxEnter
  split
  · exact mx_e0 H tail cls (by assumption) hn
  split
  · exact mx_e1 H tail cls (by assumption) hn
  split
  · exact mx_e2 H tail cls hc (by assumption) hn
  split
  · exact mx_e3 H tail cls ha (by assumption) hn
  split
  · exact mx_e4 H tail cls (by assumption) hn
  · exact mx_enone H tail cls rfl (by assumption) (by assumption) (by assumption) (by assumption) (by assumption)
def mxTry (tail : Int) (s : Rn) : Bool × Bool × Rn :=
  if wrap64 s.f.line = 0 then (false, false, mxE0 s) else if wrap64 s.f.line = 1 then (true, casB s.L tail 0 (mxOwn s), s.did (doA s.L ⟨5, tail, 0, mxOwn s, 0⟩)) else (false, false, s)
theorem mx_try {S0 : List Nat} {w0 w : World} {m a r : Nat} {rs : List Res} {s : Rn} (H : RunHas S0 w0 m a r rs s w) (tail : Int) (hn : I64 s.n) :
    Calls Tryz.prog 144 #[.pointer (some ⟨r, 0, none⟩), .int .i64 tail, .int .i64 0] w fun e w' => e = .returned (.tuple #[.bool (mxTry tail s).1, .bool (mxTry tail s).2.1]) ∧ RunHas S0 w0 m a r rs (mxTry tail s).2.2 w' := by
  unfold mxTry
  split
  · exact mx_t0 H tail (by assumption) rfl hn
  split
  · exact mx_t1 H tail (by assumption) rfl hn
  · exact mx_tnone H tail rfl (by assumption) (by assumption)
end Go.Proofs.YthnimpkoidablaaGreat.Z

set_option linter.unusedVariables false
set_option linter.unusedSimpArgs false
namespace Go.Proofs.YthnimpkoidablaaGreat.Z
open Go.RowKit
attribute [local go_sem ↓] Go.wp_at_zero Go.wp_at_succ
def mxG0 (q : Int) (s : Rn) : Rn :=
  let s1 := (s.did (doA s.L ⟨1, (cellP s.n 0 s.task), 0, 0, 0⟩)).setA (doA s.L ⟨1, (cellP s.n 0 s.task), 0, 0, 0⟩).1.old
  if (doA s.L ⟨1, (cellP s.n 0 s.task), 0, 0, 0⟩).1.old = 0 then s1.goto (q + 1) else s1.goto (q + 3)
set_option maxHeartbeats 1600000 in
theorem mx_g0 {S0 : List Nat} {w0 w : World} {m a r : Nat} {rs : List Res} {s : Rn} (tail q : Int) {g nn c : Nat} {nl : List Int} (hnl : nl.length = nn) (hq : 0 ≤ q ∧ q ≤ 100) (hc : s.notes.length + nl.length ≤ 900) (H : RunHas S0 w0 m a r (.blk g (i64s nl).toArray :: rs) s w) {l : Int} (hl : s.f.line = l) (hsub : wrap64 (l - q) = 0) (hn : I64 s.n) (ha : 0 ≤ s.f.a ∧ s.f.a < 4294967296) :
    Calls Tryz.prog 143 #[.pointer (some ⟨r, 0, none⟩), .int .i64 tail, .int .i64 q, .slice (some ⟨g, 0, none⟩) nn c] w fun e w' => e = .returned (.bool false) ∧ RunHas S0 w0 m a r (.blk g (i64s nl).toArray :: rs) (mxG0 q s) w' := by
  obtain ⟨o, hop⟩ : ∃ o, s.f.op = o := ⟨_, rfl⟩
  have hne := H.ne_first
  obtain ⟨z0, z2, z4, z5, z6, z7⟩ := H.facts hop hl rfl rfl
  have HA := Lib.hid ha
  have HC := Lib.hid hc
  have HQ := Lib.hid hq
  have HNX := Lib.hid (fun W => mapNext s.n s.task W hn)
  have HLD := Lib.hid (fun W rs (H : RunHas S0 w0 m a r rs s W) => rn_load H (cellP s.n 0 s.task))
  have HH := Lib.hid (H.box rfl #[.pointer (some ⟨r, 4, none⟩)] 150)
  clear H ha hc hn
  unfold mxG0
  (try dsimp only)
  by_cases hz : (doA s.L ⟨1, (cellP s.n 0 s.task), 0, 0, 0⟩).1.old = 0
  · simp only [if_pos hz]
    have hzb : ((doA s.L ⟨1, (cellP s.n 0 s.task), 0, 0, 0⟩).1.old != 0) = false := by simpa using hz
    clear hz
    go_enter Tryz.func143, Tryz.ntmps143
    go_wp2_with fail
    have HW := HH.out
    generalize w.heap.size = tb at HW ⊢
    generalize w.alloc _ = W at HW ⊢
    obtain ⟨z0, z2, z4, z5, z6, z7⟩ := HW.facts hop hl rfl rfl
    obtain ⟨y1, y2, y3⟩ := HW.whose rfl rfl rfl
    obtain ⟨u0, u1, u2⟩ := HW.first.own
    go_region_held3 (fun w' => w'.cell? ⟨r, 1, none⟩ = some (.int .i64 s.n) ∧ w'.cell? ⟨r, 3, none⟩ = some (.int .i64 s.task) ∧ w'.cell? ⟨r, 6, none⟩ = some (.int .u32 s.f.a) ∧ w'.cell? ⟨tb, 0, none⟩ = some (.pointer (some ⟨r, 4, none⟩)))
      (first | (refine RunHas.sees_box (S0 := S0) (w0 := w0) (m := m) (a := a) (rs := .blk g (i64s nl).toArray :: rs) (s := s) ?_; first | with_reducible assumption | with_reducible exact HW.drew))
      (first | (go_at_call 171; refine (HNX.out _).mono ?_; rintro e w1 ⟨rfl, t1⟩; have H1 := RunHas.grow HW.drew t1))
    clear u0 u1 u2 z0 z2 z4 z5 z6 z7 y1 y2 y3
    obtain ⟨x0, x2, x4, x5, x6, x7⟩ := H1.facts hop hl rfl rfl
    obtain ⟨v1, v2, v3⟩ := H1.whose rfl rfl rfl
    obtain ⟨u0, u1, u2⟩ := H1.first.own
    go_wp2_with fail
    have hne2 := H1.ne_first
    go_region_held3 (fun w' => ∀ i, w'.cell? ⟨tb, i, none⟩ = (#[.pointer (some ⟨r, 4, none⟩)] : Array Value)[i]?)
      (first | assumption | (intro i; rw [World.cell?_setCell_far _ _ _ _ (by exact hne2)]; apply_assumption) | (intro i; apply_assumption))
      (first | (go_at_call 96; (with_reducible refine (HLD.out _ _ H1.drew).mono ?_); rintro e w2 ⟨rfl, H2⟩; obtain ⟨v0, v1, v2⟩ := H2.first.own; obtain ⟨x0, x2, x4, x5, x6, x7⟩ := H2.facts hop hl rfl rfl))
    have H3 := H2.setA (doA s.L ⟨1, (cellP s.n 0 s.task), 0, 0, 0⟩).1.old
    go_wp2_with fail
    refine (rn_go H3 (q + 1)).mono ?_
    rintro e w4 ⟨rfl, H4⟩
    go_wp2_with fail
    go_ret
    exact ⟨rfl, H4.unbox⟩
  · simp only [if_neg hz]
    have hzb : ((doA s.L ⟨1, (cellP s.n 0 s.task), 0, 0, 0⟩).1.old != 0) = true := by simpa using hz
    clear hz
    go_enter Tryz.func143, Tryz.ntmps143
    go_wp2_with fail
    have HW := HH.out
    generalize w.heap.size = tb at HW ⊢
    generalize w.alloc _ = W at HW ⊢
    obtain ⟨z0, z2, z4, z5, z6, z7⟩ := HW.facts hop hl rfl rfl
    obtain ⟨y1, y2, y3⟩ := HW.whose rfl rfl rfl
    obtain ⟨u0, u1, u2⟩ := HW.first.own
    go_region_held3 (fun w' => w'.cell? ⟨r, 1, none⟩ = some (.int .i64 s.n) ∧ w'.cell? ⟨r, 3, none⟩ = some (.int .i64 s.task) ∧ w'.cell? ⟨r, 6, none⟩ = some (.int .u32 s.f.a) ∧ w'.cell? ⟨tb, 0, none⟩ = some (.pointer (some ⟨r, 4, none⟩)))
      (first | (refine RunHas.sees_box (S0 := S0) (w0 := w0) (m := m) (a := a) (rs := .blk g (i64s nl).toArray :: rs) (s := s) ?_; first | with_reducible assumption | with_reducible exact HW.drew))
      (first | (go_at_call 171; refine (HNX.out _).mono ?_; rintro e w1 ⟨rfl, t1⟩; have H1 := RunHas.grow HW.drew t1))
    clear u0 u1 u2 z0 z2 z4 z5 z6 z7 y1 y2 y3
    obtain ⟨x0, x2, x4, x5, x6, x7⟩ := H1.facts hop hl rfl rfl
    obtain ⟨v1, v2, v3⟩ := H1.whose rfl rfl rfl
    obtain ⟨u0, u1, u2⟩ := H1.first.own
    go_wp2_with fail
    have hne2 := H1.ne_first
    go_region_held3 (fun w' => ∀ i, w'.cell? ⟨tb, i, none⟩ = (#[.pointer (some ⟨r, 4, none⟩)] : Array Value)[i]?)
      (first | assumption | (intro i; rw [World.cell?_setCell_far _ _ _ _ (by exact hne2)]; apply_assumption) | (intro i; apply_assumption))
      (first | (go_at_call 96; (with_reducible refine (HLD.out _ _ H1.drew).mono ?_); rintro e w2 ⟨rfl, H2⟩; obtain ⟨v0, v1, v2⟩ := H2.first.own; obtain ⟨x0, x2, x4, x5, x6, x7⟩ := H2.facts hop hl rfl rfl))
    have H3 := H2.setA (doA s.L ⟨1, (cellP s.n 0 s.task), 0, 0, 0⟩).1.old
    go_wp2_with fail
    refine (rn_go H3 (q + 3)).mono ?_
    rintro e w4 ⟨rfl, H4⟩
    go_wp2_with fail
    go_ret
    exact ⟨rfl, H4.unbox⟩
def mxG1 (tail q : Int) (nl : List Int) (s : Rn) : Bool × Rn :=
  if casB s.L tail (mxOwn s) 0 then (true, (s.did (doA s.L ⟨5, tail, mxOwn s, 0, 0⟩)).noted nl) else (false, (s.did (doA s.L ⟨5, tail, mxOwn s, 0, 0⟩)).goto (q + 2))
set_option maxHeartbeats 1600000 in
theorem mx_g1 {S0 : List Nat} {w0 w : World} {m a r : Nat} {rs : List Res} {s : Rn} (tail q : Int) {g nn c : Nat} {nl : List Int} (hnl : nl.length = nn) (hq : 0 ≤ q ∧ q ≤ 100) (hc : s.notes.length + nl.length ≤ 900) (H : RunHas S0 w0 m a r (.blk g (i64s nl).toArray :: rs) s w) {l : Int} (hl : s.f.line = l) (hsub : wrap64 (l - q) = 1) (hn : I64 s.n) (ha : 0 ≤ s.f.a ∧ s.f.a < 4294967296) :
    Calls Tryz.prog 143 #[.pointer (some ⟨r, 0, none⟩), .int .i64 tail, .int .i64 q, .slice (some ⟨g, 0, none⟩) nn c] w fun e w' => e = .returned (.bool (mxG1 tail q nl s).1) ∧ RunHas S0 w0 m a r (.blk g (i64s nl).toArray :: rs) (mxG1 tail q nl s).2 w' := by
  obtain ⟨o, hop⟩ : ∃ o, s.f.op = o := ⟨_, rfl⟩
  have hne := H.ne_first
  obtain ⟨z0, z2, z4, z5, z6, z7⟩ := H.facts hop hl rfl rfl
  have HA := Lib.hid ha
  have HC := Lib.hid hc
  have HQ := Lib.hid hq
  have HNX := Lib.hid (fun W => mapNext s.n s.task W hn)
  have hcas := fun W rs (H : RunHas S0 w0 m a r rs s W) => rn_cas H tail (mxOwn s) 0 (mxOwn_word s) (by decide)
  have HH := Lib.hid (H.box rfl #[.pointer (some ⟨r, 4, none⟩)] 150)
  clear H ha hc hn
  unfold mxG1
  cases hb : casB s.L tail (mxOwn s) 0 with
  | true =>
    rw [hb] at hcas
    simp only [if_true]
    have HCAS := Lib.hid hcas
    clear hcas hb
    go_enter Tryz.func143, Tryz.ntmps143
    go_wp2_with fail
    have HW := HH.out
    generalize w.heap.size = tb at HW ⊢
    generalize w.alloc _ = W at HW ⊢
    obtain ⟨z0, z2, z4, z5, z6, z7⟩ := HW.facts hop hl rfl rfl
    obtain ⟨y1, y2, y3⟩ := HW.whose rfl rfl rfl
    obtain ⟨u0, u1, u2⟩ := HW.first.own
    go_region_held3 (fun w' => w'.cell? ⟨r, 1, none⟩ = some (.int .i64 s.n) ∧ w'.cell? ⟨r, 3, none⟩ = some (.int .i64 s.task) ∧ w'.cell? ⟨r, 6, none⟩ = some (.int .u32 s.f.a) ∧ w'.cell? ⟨tb, 0, none⟩ = some (.pointer (some ⟨r, 4, none⟩)))
      (first | (refine RunHas.sees_box (S0 := S0) (w0 := w0) (m := m) (a := a) (rs := .blk g (i64s nl).toArray :: rs) (s := s) ?_; first | with_reducible assumption | with_reducible exact HW.drew))
      (first | (go_at_call 171; refine (HNX.out _).mono ?_; rintro e w1 ⟨rfl, t1⟩; have H1 := RunHas.grow HW.drew t1))
    clear u0 u1 u2 z0 z2 z4 z5 z6 z7 y1 y2 y3
    obtain ⟨x0, x2, x4, x5, x6, x7⟩ := H1.facts hop hl rfl rfl
    obtain ⟨v1, v2, v3⟩ := H1.whose rfl rfl rfl
    obtain ⟨u0, u1, u2⟩ := H1.first.own
    go_wp2_with fail
    refine (mx_own H1).mono ?_
    rintro e w9 ⟨rfl, rfl⟩
    go_wp2_with fail
    refine (HCAS.out _ _ H1).mono ?_
    rintro e w2 ⟨rfl, H2⟩
    go_wp2_with fail
    refine (mx_noted H2.swap12 hnl (by have := HC.out; simp [Rn.did]; omega)).mono ?_
    rintro e w3 ⟨rfl, H3⟩
    go_wp2_with fail
    go_ret
    exact ⟨rfl, H3.swap12.unbox⟩
  | false =>
    rw [hb] at hcas
    simp only [Bool.false_eq_true, if_false]
    have HCAS := Lib.hid hcas
    clear hcas hb
    go_enter Tryz.func143, Tryz.ntmps143
    go_wp2_with fail
    have HW := HH.out
    generalize w.heap.size = tb at HW ⊢
    generalize w.alloc _ = W at HW ⊢
    obtain ⟨z0, z2, z4, z5, z6, z7⟩ := HW.facts hop hl rfl rfl
    obtain ⟨y1, y2, y3⟩ := HW.whose rfl rfl rfl
    obtain ⟨u0, u1, u2⟩ := HW.first.own
    go_region_held3 (fun w' => w'.cell? ⟨r, 1, none⟩ = some (.int .i64 s.n) ∧ w'.cell? ⟨r, 3, none⟩ = some (.int .i64 s.task) ∧ w'.cell? ⟨r, 6, none⟩ = some (.int .u32 s.f.a) ∧ w'.cell? ⟨tb, 0, none⟩ = some (.pointer (some ⟨r, 4, none⟩)))
      (first | (refine RunHas.sees_box (S0 := S0) (w0 := w0) (m := m) (a := a) (rs := .blk g (i64s nl).toArray :: rs) (s := s) ?_; first | with_reducible assumption | with_reducible exact HW.drew))
      (first | (go_at_call 171; refine (HNX.out _).mono ?_; rintro e w1 ⟨rfl, t1⟩; have H1 := RunHas.grow HW.drew t1))
    clear u0 u1 u2 z0 z2 z4 z5 z6 z7 y1 y2 y3
    obtain ⟨x0, x2, x4, x5, x6, x7⟩ := H1.facts hop hl rfl rfl
    obtain ⟨v1, v2, v3⟩ := H1.whose rfl rfl rfl
    obtain ⟨u0, u1, u2⟩ := H1.first.own
    go_wp2_with fail
    refine (mx_own H1).mono ?_
    rintro e w9 ⟨rfl, rfl⟩
    go_wp2_with fail
    refine (HCAS.out _ _ H1).mono ?_
    rintro e w2 ⟨rfl, H2⟩
    go_wp2_with fail
    refine (rn_go H2 (q + 2)).mono ?_
    rintro e w3 ⟨rfl, H3⟩
    go_wp2_with fail
    go_ret
    exact ⟨rfl, H3.unbox⟩
def mxG2 (q : Int) (s : Rn) : Rn :=
  let s1 := (s.keep (waitA s.L s.n s.mode s.task s.f.st (cellP s.n 0 s.task) (fun v => v != 0))).waited (waitA s.L s.n s.mode s.task s.f.st (cellP s.n 0 s.task) (fun v => v != 0))
  if (waitA s.L s.n s.mode s.task s.f.st (cellP s.n 0 s.task) (fun v => v != 0)).done then s1.goto (q + 3) else s1
set_option maxHeartbeats 1600000 in
theorem mx_g2 {S0 : List Nat} {w0 w : World} {m a r : Nat} {rs : List Res} {s : Rn} (tail q : Int) {g nn c : Nat} {nl : List Int} (hnl : nl.length = nn) (hq : 0 ≤ q ∧ q ≤ 100) (hc : s.notes.length + nl.length ≤ 900) (H : RunHas S0 w0 m a r (.blk g (i64s nl).toArray :: rs) s w) {l : Int} (hl : s.f.line = l) (hsub : wrap64 (l - q) = 2) (hn : I64 s.n) (ha : 0 ≤ s.f.a ∧ s.f.a < 4294967296) :
    Calls Tryz.prog 143 #[.pointer (some ⟨r, 0, none⟩), .int .i64 tail, .int .i64 q, .slice (some ⟨g, 0, none⟩) nn c] w fun e w' => e = .returned (.bool false) ∧ RunHas S0 w0 m a r (.blk g (i64s nl).toArray :: rs) (mxG2 q s) w' := by
  obtain ⟨o, hop⟩ : ∃ o, s.f.op = o := ⟨_, rfl⟩
  have hne := H.ne_first
  obtain ⟨z0, z2, z4, z5, z6, z7⟩ := H.facts hop hl rfl rfl
  have HA := Lib.hid ha
  have HC := Lib.hid hc
  have HQ := Lib.hid hq
  have HNX := Lib.hid (fun W => mapNext s.n s.task W hn)
  have hwt := fun (tb : Nat) W (H : RunHas S0 w0 m a r (.blk tb #[.pointer (some ⟨r, 4, none⟩)] :: .blk g (i64s nl).toArray :: rs) s W) => rn_wait_keep H hn (cellP s.n 0 s.task) 178 #[] #[.pointer (some ⟨tb, 0, none⟩)] (fun v => v != 0) (enters_of Tryz.func178 (by kernel_rfl) rfl) (fun W nv v h0 h1 HX => mx_keeps v W ⟨h0, h1⟩ HX.blk1 (HX.at_ 3 rfl))
  have HH := Lib.hid (H.box rfl #[.pointer (some ⟨r, 4, none⟩)] 150)
  clear H ha hc hn
  unfold mxG2
  (try dsimp only)
  generalize (waitA s.L s.n s.mode s.task s.f.st (cellP s.n 0 s.task) (fun v => v != 0)).seen = sn at hwt
  cases hd : (waitA s.L s.n s.mode s.task s.f.st (cellP s.n 0 s.task) (fun v => v != 0)).done <;> rw [hd] at hwt <;> simp only [if_true, Bool.false_eq_true, if_false] <;> (have HWT := Lib.hid hwt) <;> clear hwt hd
  · go_enter Tryz.func143, Tryz.ntmps143
    go_wp2_with fail
    have HW := HH.out
    generalize w.heap.size = tb at HW ⊢
    generalize w.alloc _ = W at HW ⊢
    obtain ⟨z0, z2, z4, z5, z6, z7⟩ := HW.facts hop hl rfl rfl
    obtain ⟨y1, y2, y3⟩ := HW.whose rfl rfl rfl
    obtain ⟨u0, u1, u2⟩ := HW.first.own
    go_region_held3 (fun w' => w'.cell? ⟨r, 1, none⟩ = some (.int .i64 s.n) ∧ w'.cell? ⟨r, 3, none⟩ = some (.int .i64 s.task) ∧ w'.cell? ⟨r, 6, none⟩ = some (.int .u32 s.f.a) ∧ w'.cell? ⟨tb, 0, none⟩ = some (.pointer (some ⟨r, 4, none⟩)))
      (first | (refine RunHas.sees_box (S0 := S0) (w0 := w0) (m := m) (a := a) (rs := .blk g (i64s nl).toArray :: rs) (s := s) ?_; first | with_reducible assumption | with_reducible exact HW.drew))
      (first | (go_at_call 171; refine (HNX.out _).mono ?_; rintro e w1 ⟨rfl, t1⟩; have H1 := RunHas.grow HW.drew t1))
    clear u0 u1 u2 z0 z2 z4 z5 z6 z7 y1 y2 y3
    obtain ⟨x0, x2, x4, x5, x6, x7⟩ := H1.facts hop hl rfl rfl
    obtain ⟨v1, v2, v3⟩ := H1.whose rfl rfl rfl
    obtain ⟨u0, u1, u2⟩ := H1.first.own
    go_wp2_with fail
    refine (HWT.out _ _ H1).mono ?_
    rintro e w2 ⟨rfl, H2⟩
    go_wp2_with fail
    go_ret
    exact ⟨rfl, H2.unbox⟩
  · go_enter Tryz.func143, Tryz.ntmps143
    go_wp2_with fail
    have HW := HH.out
    generalize w.heap.size = tb at HW ⊢
    generalize w.alloc _ = W at HW ⊢
    obtain ⟨z0, z2, z4, z5, z6, z7⟩ := HW.facts hop hl rfl rfl
    obtain ⟨y1, y2, y3⟩ := HW.whose rfl rfl rfl
    obtain ⟨u0, u1, u2⟩ := HW.first.own
    go_region_held3 (fun w' => w'.cell? ⟨r, 1, none⟩ = some (.int .i64 s.n) ∧ w'.cell? ⟨r, 3, none⟩ = some (.int .i64 s.task) ∧ w'.cell? ⟨r, 6, none⟩ = some (.int .u32 s.f.a) ∧ w'.cell? ⟨tb, 0, none⟩ = some (.pointer (some ⟨r, 4, none⟩)))
      (first | (refine RunHas.sees_box (S0 := S0) (w0 := w0) (m := m) (a := a) (rs := .blk g (i64s nl).toArray :: rs) (s := s) ?_; first | with_reducible assumption | with_reducible exact HW.drew))
      (first | (go_at_call 171; refine (HNX.out _).mono ?_; rintro e w1 ⟨rfl, t1⟩; have H1 := RunHas.grow HW.drew t1))
    clear u0 u1 u2 z0 z2 z4 z5 z6 z7 y1 y2 y3
    obtain ⟨x0, x2, x4, x5, x6, x7⟩ := H1.facts hop hl rfl rfl
    obtain ⟨v1, v2, v3⟩ := H1.whose rfl rfl rfl
    obtain ⟨u0, u1, u2⟩ := H1.first.own
    go_wp2_with fail
    refine (HWT.out _ _ H1).mono ?_
    rintro e w2 ⟨rfl, H2⟩
    go_wp2_with fail
    refine (rn_go H2 (q + 3)).mono ?_
    rintro e w3 ⟨rfl, H3⟩
    go_wp2_with fail
    go_ret
    exact ⟨rfl, H3.unbox⟩
def mxG3 (nl : List Int) (s : Rn) : Rn := ((s.did (doA s.L ⟨2, (cellP s.n 1 (s.f.a - 1)), 0, 0, 0⟩)).noted nl).wake (cellP s.n 1 (s.f.a - 1))
set_option maxHeartbeats 1600000 in
theorem mx_g3 {S0 : List Nat} {w0 w : World} {m a r : Nat} {rs : List Res} {s : Rn} (tail q : Int) {g nn c : Nat} {nl : List Int} (hnl : nl.length = nn) (hq : 0 ≤ q ∧ q ≤ 100) (hc : s.notes.length + nl.length ≤ 900) (H : RunHas S0 w0 m a r (.blk g (i64s nl).toArray :: rs) s w) {l : Int} (hl : s.f.line = l) (hsub : wrap64 (l - q) = 3) (hn : I64 s.n) (ha : 0 ≤ s.f.a ∧ s.f.a < 4294967296) :
    Calls Tryz.prog 143 #[.pointer (some ⟨r, 0, none⟩), .int .i64 tail, .int .i64 q, .slice (some ⟨g, 0, none⟩) nn c] w fun e w' => e = .returned (.bool true) ∧ RunHas S0 w0 m a r (.blk g (i64s nl).toArray :: rs) (mxG3 nl s) w' := by
  obtain ⟨o, hop⟩ : ∃ o, s.f.op = o := ⟨_, rfl⟩
  have hne := H.ne_first
  obtain ⟨z0, z2, z4, z5, z6, z7⟩ := H.facts hop hl rfl rfl
  have HA := Lib.hid ha
  have HC := Lib.hid hc
  have HQ := Lib.hid hq
  have HNX := Lib.hid (fun W => mapNext s.n s.task W hn)
  have HBL := Lib.hid (fun W => mapBlocked s.n (s.f.a - 1) W hn)
  have HH := Lib.hid (H.box rfl #[.pointer (some ⟨r, 4, none⟩)] 150)
  clear H ha hc hn
  unfold mxG3
  go_enter Tryz.func143, Tryz.ntmps143
  go_wp2_with fail
  have HW := HH.out
  generalize w.heap.size = tb at HW ⊢
  generalize w.alloc _ = W at HW ⊢
  obtain ⟨z0, z2, z4, z5, z6, z7⟩ := HW.facts hop hl rfl rfl
  obtain ⟨y1, y2, y3⟩ := HW.whose rfl rfl rfl
  obtain ⟨u0, u1, u2⟩ := HW.first.own
  go_region_held3 (fun w' => w'.cell? ⟨r, 1, none⟩ = some (.int .i64 s.n) ∧ w'.cell? ⟨r, 3, none⟩ = some (.int .i64 s.task) ∧ w'.cell? ⟨r, 6, none⟩ = some (.int .u32 s.f.a) ∧ w'.cell? ⟨tb, 0, none⟩ = some (.pointer (some ⟨r, 4, none⟩)))
    (first | (refine RunHas.sees_box (S0 := S0) (w0 := w0) (m := m) (a := a) (rs := .blk g (i64s nl).toArray :: rs) (s := s) ?_; first | with_reducible assumption | with_reducible exact HW.drew | with_reducible exact H1.drew))
    (first | (go_at_call 171; refine (HNX.out _).mono ?_; rintro e w1 ⟨rfl, t1⟩; have H1 := RunHas.grow HW.drew t1))
  clear u0 u1 u2 z0 z2 z4 z5 z6 z7 y1 y2 y3
  obtain ⟨x0, x2, x4, x5, x6, x7⟩ := H1.facts hop hl rfl rfl
  obtain ⟨v1, v2, v3⟩ := H1.whose rfl rfl rfl
  obtain ⟨u0, u1, u2⟩ := H1.first.own
  go_wp2_with fail
  go_region_held3 (fun w' => w'.cell? ⟨r, 1, none⟩ = some (.int .i64 s.n) ∧ w'.cell? ⟨r, 3, none⟩ = some (.int .i64 s.task) ∧ w'.cell? ⟨r, 6, none⟩ = some (.int .u32 s.f.a) ∧ w'.cell? ⟨tb, 0, none⟩ = some (.pointer (some ⟨r, 4, none⟩)))
    (first | (refine RunHas.sees_box (S0 := S0) (w0 := w0) (m := m) (a := a) (rs := .blk g (i64s nl).toArray :: rs) (s := s) ?_; first | with_reducible assumption | with_reducible exact HW.drew | with_reducible exact H1.drew))
    (first | (go_at_call 175; refine (mx_other _ _ HA.out).mono ?_; rintro e w9 ⟨rfl, rfl⟩) | (go_at_call 172; refine (HBL.out _).mono ?_; rintro e w2 ⟨rfl, t2⟩; have H2 := RunHas.grow H1.drew t2))
  obtain ⟨p0, p2, p4, p5, p6, p7⟩ := H2.facts hop hl rfl rfl
  go_wp2_with fail
  refine (rn_store H2 (cellP s.n 1 (s.f.a - 1)) 0 (by decide)).mono ?_
  rintro e w3 ⟨rfl, H3⟩
  go_wp2_with fail
  refine (mx_noted H3.swap12 hnl (by have := HC.out; simp [Rn.did]; omega)).mono ?_
  rintro e w4 ⟨rfl, H4⟩
  go_wp2_with fail
  refine (rn_wake H4.swap12 (cellP s.n 1 (s.f.a - 1))).mono ?_
  rintro e w5 ⟨rfl, H5⟩
  go_wp2_with fail
  go_ret
  exact ⟨rfl, H5.unbox⟩
set_option maxHeartbeats 1600000 in
theorem mx_gnone {S0 : List Nat} {w0 w : World} {m a r : Nat} {rs : List Res} {s : Rn} (tail q : Int) {g nn c : Nat} {nl : List Int} (hnl : nl.length = nn) (hq : 0 ≤ q ∧ q ≤ 100) (hc : s.notes.length + nl.length ≤ 900) (H : RunHas S0 w0 m a r (.blk g (i64s nl).toArray :: rs) s w) {l : Int} (hl : s.f.line = l) (k0 : ¬ wrap64 (l - q) = 0) (k1 : ¬ wrap64 (l - q) = 1) (k2 : ¬ wrap64 (l - q) = 2) (k3 : ¬ wrap64 (l - q) = 3) (hn : I64 s.n) (ha : 0 ≤ s.f.a ∧ s.f.a < 4294967296) :
    Calls Tryz.prog 143 #[.pointer (some ⟨r, 0, none⟩), .int .i64 tail, .int .i64 q, .slice (some ⟨g, 0, none⟩) nn c] w fun e w' => e = .returned (.bool false) ∧ RunHas S0 w0 m a r (.blk g (i64s nl).toArray :: rs) s w' := by
  obtain ⟨o, hop⟩ : ∃ o, s.f.op = o := ⟨_, rfl⟩
  have hne := H.ne_first
  obtain ⟨z0, z2, z4, z5, z6, z7⟩ := H.facts hop hl rfl rfl
  have HA := Lib.hid ha
  have HC := Lib.hid hc
  have HQ := Lib.hid hq
  have HNX := Lib.hid (fun W => mapNext s.n s.task W hn)
  have HH := Lib.hid (H.box rfl #[.pointer (some ⟨r, 4, none⟩)] 150)
  clear H ha hc hn
  go_enter Tryz.func143, Tryz.ntmps143
  go_wp2_with fail
  have HW := HH.out
  generalize w.heap.size = tb at HW ⊢
  generalize w.alloc _ = W at HW ⊢
  obtain ⟨z0, z2, z4, z5, z6, z7⟩ := HW.facts hop hl rfl rfl
  obtain ⟨y1, y2, y3⟩ := HW.whose rfl rfl rfl
  obtain ⟨u0, u1, u2⟩ := HW.first.own
  go_region_held3 (fun w' => w'.cell? ⟨r, 1, none⟩ = some (.int .i64 s.n) ∧ w'.cell? ⟨r, 3, none⟩ = some (.int .i64 s.task) ∧ w'.cell? ⟨r, 6, none⟩ = some (.int .u32 s.f.a) ∧ w'.cell? ⟨tb, 0, none⟩ = some (.pointer (some ⟨r, 4, none⟩)))
    (first | (refine RunHas.sees_box (S0 := S0) (w0 := w0) (m := m) (a := a) (rs := .blk g (i64s nl).toArray :: rs) (s := s) ?_; first | with_reducible assumption | with_reducible exact HW.drew))
    (first | (go_at_call 171; refine (HNX.out _).mono ?_; rintro e w1 ⟨rfl, t1⟩; have H1 := RunHas.grow HW.drew t1))
  clear u0 u1 u2 z0 z2 z4 z5 z6 z7 y1 y2 y3
  obtain ⟨x0, x2, x4, x5, x6, x7⟩ := H1.facts hop hl rfl rfl
  obtain ⟨v1, v2, v3⟩ := H1.whose rfl rfl rfl
  obtain ⟨u0, u1, u2⟩ := H1.first.own
  go_wp2_with fail
  go_ret
  exact ⟨rfl, H1.unbox⟩
def mxGive (tail q : Int) (nl : List Int) (s : Rn) : Bool × Rn :=
  if wrap64 (s.f.line - q) = 0 then (false, mxG0 q s) else if wrap64 (s.f.line - q) = 1 then mxG1 tail q nl s else if wrap64 (s.f.line - q) = 2 then (false, mxG2 q s) else if wrap64 (s.f.line - q) = 3 then (true, mxG3 nl s) else (false, s)
theorem mx_give {S0 : List Nat} {w0 w : World} {m a r : Nat} {rs : List Res} {s : Rn} (tail q : Int) {g nn c : Nat} {nl : List Int} (hnl : nl.length = nn) (hq : 0 ≤ q ∧ q ≤ 100) (hc : s.notes.length + nl.length ≤ 900) (H : RunHas S0 w0 m a r (.blk g (i64s nl).toArray :: rs) s w) (hn : I64 s.n) (ha : 0 ≤ s.f.a ∧ s.f.a < 4294967296) :
    Calls Tryz.prog 143 #[.pointer (some ⟨r, 0, none⟩), .int .i64 tail, .int .i64 q, .slice (some ⟨g, 0, none⟩) nn c] w fun e w' => e = .returned (.bool (mxGive tail q nl s).1) ∧ RunHas S0 w0 m a r (.blk g (i64s nl).toArray :: rs) (mxGive tail q nl s).2 w' := by
  unfold mxGive
  split
  · exact mx_g0 tail q hnl hq hc H rfl (by assumption) hn ha
  split
  · exact mx_g1 tail q hnl hq hc H rfl (by assumption) hn ha
  split
  · exact mx_g2 tail q hnl hq hc H rfl (by assumption) hn ha
  split
  · exact mx_g3 tail q hnl hq hc H rfl (by assumption) hn ha
  · exact mx_gnone tail q hnl hq hc H rfl (by assumption) (by assumption) (by assumption) (by assumption) hn ha
end Go.Proofs.YthnimpkoidablaaGreat.Z

set_option linter.unusedVariables false
set_option linter.unusedSimpArgs false
namespace Go.Proofs.YthnimpkoidablaaGreat.Z
open Go.RowKit
theorem keep_fine {s : Rn} (hw : Words s.L) {n mode task st c : Int} {p : Int → Bool} (h2 : 0 ≤ s.f.a ∧ s.f.a < 4294967296) : 0 ≤ (s.keep (waitA s.L n mode task st c p)).f.a ∧ (s.keep (waitA s.L n mode task st c p)).f.a < 4294967296 := by
  unfold Rn.keep
  split
  · rcases stageA_is mode st with e | e | e | e | e
    · rw [waitA0 e]; exact doA_old s.L hw _
    · rw [waitA1 e]; exact doA_old s.L hw _
    · rw [waitA2 e]; exact doA_old s.L hw _
    · rename_i h; rw [waitA3 e] at h; cases h
    · rw [waitA4 e]; exact doA_old s.L hw _
  · exact h2
theorem keep_rest (s : Rn) (R : WaitR) : (s.keep R).n = s.n ∧ (s.keep R).f.b = s.f.b ∧ (s.keep R).notes = s.notes := by
  unfold Rn.keep
  split <;> exact ⟨rfl, rfl, rfl⟩
def FK (k : Nat) (s s' : Rn) : Prop := (s'.n = s.n ∧ s'.mode = s.mode ∧ s'.task = s.task) ∧ ((0 ≤ s'.f.a ∧ s'.f.a < 4294967296) ∧ (0 ≤ s'.f.b ∧ s'.f.b < 4294967296)) ∧ s'.notes.length ≤ s.notes.length + k
section
variable {k : Nat} {s s' : Rn}
theorem FK.refl (h : (0 ≤ s.f.a ∧ s.f.a < 4294967296) ∧ (0 ≤ s.f.b ∧ s.f.b < 4294967296)) : FK 0 s s := ⟨⟨rfl, rfl, rfl⟩, h, Nat.le_refl _⟩
theorem FK.goto (h : FK k s s') (l : Int) : FK k s (s'.goto l) := h
theorem FK.fin (h : FK k s s') (b : Bool) : FK k s (s'.fin b) := h
theorem FK.wake (h : FK k s s') (c : Int) : FK k s (s'.wake c) := h
theorem FK.did (h : FK k s s') (R : Acc × Bool × List Int) : FK k s (s'.did R) := h
theorem FK.waited (h : FK k s s') (R : WaitR) : FK k s (s'.waited R) := h
theorem FK.setA (h : FK k s s') {v : Int} (hv : 0 ≤ v ∧ v < 4294967296) : FK k s (s'.setA v) := ⟨h.1, ⟨hv, h.2.1.2⟩, h.2.2⟩
theorem FK.setB (h : FK k s s') {v : Int} (hv : 0 ≤ v ∧ v < 4294967296) : FK k s (s'.setB v) := ⟨h.1, ⟨h.2.1.1, hv⟩, h.2.2⟩
theorem FK.note (h : FK k s s') (x y : Int) : FK (k + 1) s (s'.note x y) := ⟨h.1, h.2.1, by have := h.2.2; simp [Rn.note]; omega⟩
theorem FK.more (h : FK k s s') {j : Nat} (hj : k ≤ j) : FK j s s' := ⟨h.1, h.2.1, Nat.le_trans h.2.2 (Nat.add_le_add_left hj _)⟩
theorem FK.noted (h : FK k s s') (l : List Int) : FK (k + l.length) s (s'.noted l) := by
  induction l generalizing s' k with
  | nil => exact h
  | cons x l ih => exact (ih (h.note x 0)).more (by simp; omega)
theorem FK.keep (h : FK k s s') (hw : Words s'.L) (n mode task st c : Int) (p : Int → Bool) : FK k s (s'.keep (waitA s'.L n mode task st c p)) := by
  have h1 := keep_fine (s := s') hw (n := n) (mode := mode) (task := task) (st := st) (c := c) (p := p) h.2.1.1
  have h2 := keep_rest s' (waitA s'.L n mode task st c p)
  unfold Rn.keep at h1 h2 ⊢
  split
  · rename_i hs
    rw [if_pos hs] at h1
    exact h.setA h1
  · exact h
end
variable {s : Rn}
theorem mxEnter_fk (tail cls : Int) (hw : Words s.L) (h : (0 ≤ s.f.a ∧ s.f.a < 4294967296) ∧ (0 ≤ s.f.b ∧ s.f.b < 4294967296)) : FK 1 s (mxEnter tail cls s).2 := by
  have R := FK.refl h
  have hold := fun b => doA_old s.L hw b
  unfold mxEnter
  split
  · exact ((R.did _).goto _).more (by decide)
  split
  · exact ((R.did _).goto _).more (by decide)
  split
  · unfold mxE2
    dsimp only
    split
    · exact ((R.did _).setA (hold _)).note _ _
    · exact (((R.did _).setA (hold _)).note _ _).goto _
  split
  · exact (((R.did _).wake _).goto _).more (by decide)
  split
  · exact (R.waited _).more (by decide)
  · exact R.more (by decide)
theorem mxTry_fk (tail : Int) (h : (0 ≤ s.f.a ∧ s.f.a < 4294967296) ∧ (0 ≤ s.f.b ∧ s.f.b < 4294967296)) : FK 0 s (mxTry tail s).2.2 := by
  have R := FK.refl h
  unfold mxTry
  split
  · exact (R.did _).goto _
  split
  · exact R.did _
  · exact R
theorem mxGive_fk (tail q : Int) (nl : List Int) (hw : Words s.L) (h : (0 ≤ s.f.a ∧ s.f.a < 4294967296) ∧ (0 ≤ s.f.b ∧ s.f.b < 4294967296)) : FK nl.length s (mxGive tail q nl s).2 := by
  have R := FK.refl h
  have hold := fun b => doA_old s.L hw b
  unfold mxGive
  split
  · unfold mxG0
    dsimp only
    split
    · exact (((R.did _).setA (hold _)).goto _).more (Nat.zero_le _)
    · exact (((R.did _).setA (hold _)).goto _).more (Nat.zero_le _)
  split
  · unfold mxG1
    split
    · exact ((R.did _).noted nl).more (by omega)
    · exact ((R.did _).goto _).more (Nat.zero_le _)
  split
  · unfold mxG2
    dsimp only
    split
    · exact (((R.keep hw _ _ _ _ _ _).waited _).goto _).more (Nat.zero_le _)
    · exact ((R.keep hw _ _ _ _ _ _).waited _).more (Nat.zero_le _)
  split
  · exact (((R.did _).noted nl).wake _).more (by omega)
  · exact R.more (Nat.zero_le _)
end Go.Proofs.YthnimpkoidablaaGreat.Z
