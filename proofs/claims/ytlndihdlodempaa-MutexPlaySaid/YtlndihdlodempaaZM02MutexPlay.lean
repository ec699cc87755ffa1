/- 6 texts of this claim, joined: what each shows stands at its own head. -/
import Derived.Test.YtlndihdlodempaaZM01MutexPlay
import Derived.Deep.RegionHeld3
import Derived.Deep.DrawnRows
import Derived.Test.YtlndihdlodempaaZM00MutexPlay
import Derived.Test.YtlndihdlodempaaZLive
import Derived.Test.YtlndihdlodempaaZMat
/- Package mutex: its small functions. -/
set_option linter.unusedVariables false
set_option linter.unusedSimpArgs false
namespace Go.Proofs.Ytlndihdlodempaa.Z
open Go.RowKit
attribute [local go_sem ↓] Go.wp_at_zero Go.wp_at_succ

/-- A task's number in the queue. -/
def mxOwn (s : Rn) : Int := (s.task + 1) % 4294967296
theorem mxOwn_word (s : Rn) : 0 ≤ mxOwn s ∧ mxOwn s < 4294967296 := by unfold mxOwn; omega

/-- What the walks of the mutex read. -/
theorem RunHas.sees {S0 : List Nat} {w0 w : World} {m a r : Nat} {rs : List Res} {s : Rn} (H : RunHas S0 w0 m a r rs s w) : w.cell? ⟨r, 1, none⟩ = some (.int .i64 s.n) ∧ w.cell? ⟨r, 3, none⟩ = some (.int .i64 s.task) ∧ w.cell? ⟨r, 6, none⟩ = some (.int .u32 s.f.a) :=
  ⟨(H.whose rfl rfl rfl).1, (H.whose rfl rfl rfl).2.2, (H.facts rfl rfl rfl rfl).2.2.2.2.1⟩
theorem RunHas.sees_did {S0 : List Nat} {w0 w : World} {m a r : Nat} {rs : List Res} {s : Rn} {R : Acc × Bool × List Int} (H : RunHas S0 w0 m a r rs (s.did R) w) : w.cell? ⟨r, 1, none⟩ = some (.int .i64 s.n) ∧ w.cell? ⟨r, 3, none⟩ = some (.int .i64 s.task) ∧ w.cell? ⟨r, 6, none⟩ = some (.int .u32 s.f.a) :=
  ⟨(H.whose rfl rfl rfl).1, (H.whose rfl rfl rfl).2.2, (H.facts rfl rfl rfl rfl).2.2.2.2.1⟩
theorem RunHas.sees_wtd {S0 : List Nat} {w0 w : World} {m a r : Nat} {rs : List Res} {s : Rn} {R : WaitR} (H : RunHas S0 w0 m a r rs (s.waited R) w) : w.cell? ⟨r, 1, none⟩ = some (.int .i64 s.n) ∧ w.cell? ⟨r, 3, none⟩ = some (.int .i64 s.task) ∧ w.cell? ⟨r, 6, none⟩ = some (.int .u32 s.f.a) :=
  ⟨(H.whose rfl rfl rfl).1, (H.whose rfl rfl rfl).2.2, (H.facts rfl rfl rfl rfl).2.2.2.2.1⟩
theorem RunHas.sees_box {S0 : List Nat} {w0 w : World} {m a r : Nat} {rs : List Res} {s : Rn} {b : Nat} (H : RunHas S0 w0 m a r (.blk b #[.pointer (some ⟨r, 4, none⟩)] :: rs) s w) : w.cell? ⟨r, 1, none⟩ = some (.int .i64 s.n) ∧ w.cell? ⟨r, 3, none⟩ = some (.int .i64 s.task) ∧ w.cell? ⟨r, 6, none⟩ = some (.int .u32 s.f.a) ∧ w.cell? ⟨b, 0, none⟩ = some (.pointer (some ⟨r, 4, none⟩)) :=
  ⟨(H.whose rfl rfl rfl).1, (H.whose rfl rfl rfl).2.2, (H.facts rfl rfl rfl rfl).2.2.2.2.1, H.first.own.2.1 0⟩
theorem mx_own {S0 : List Nat} {w0 w : World} {m a r : Nat} {rs : List Res} {s : Rn} (H : RunHas S0 w0 m a r rs s w) :
    Calls Try.prog 77 #[.pointer (some ⟨r, 0, none⟩)] w fun e w' => e = .returned (.int .u32 (mxOwn s)) ∧ w = w' := by
  obtain ⟨y1, y2, y3⟩ := H.whose rfl rfl rfl
  go_enter Try.func77, Try.ntmps77
  go_wp2
  go_ret
  refine ⟨?_, rfl⟩
  show Ending.returned (Value.int .u32 _) = Ending.returned (Value.int .u32 _)
  unfold mxOwn
  have e : wrap64 (s.task + 1) % 4294967296 = (s.task + 1) % 4294967296 := by
    unfold wrap64
    omega
  rw [e]
theorem mx_other (v : Int) (w : World) (hv : 0 ≤ v ∧ v < 4294967296) :
    Calls Try.prog 78 #[.int .u32 v] w fun e w' => e = .returned (.int .i64 (v - 1)) ∧ w = w' := by
  go_enter Try.func78, Try.ntmps78
  go_wp2
  go_ret
  refine ⟨?_, rfl⟩
  go_num
theorem mx_free (v : Int) (w : World) (hv : 0 ≤ v ∧ v < 4294967296) :
    Calls Try.prog 79 #[.int .u32 v] w fun e w' => e = .returned (.bool (v == 0)) ∧ Touch [] w w' := by
  go_enter Try.func79, Try.ntmps79
  go_wp2
  go_ret
  exact ⟨rfl, Touch.refl _ _⟩

theorem RunHas.ne_first {S0 : List Nat} {w0 w : World} {m a r b : Nat} {cs : Array Value} {rs : List Res} {s : Rn} (H : RunHas S0 w0 m a r (.blk b cs :: rs) s w) : r ≠ b := by
  obtain ⟨nv, H⟩ := H
  exact H.ne_at 1 3 rfl rfl (by decide)
theorem RunHas.swap12 {S0 : List Nat} {w0 w : World} {m a r : Nat} {x y : Res} {rs : List Res} {s : Rn} (H : RunHas S0 w0 m a r (x :: y :: rs) s w) : RunHas S0 w0 m a r (y :: x :: rs) s w := by
  obtain ⟨nv, H⟩ := H
  exact ⟨nv, H.perm (((List.Perm.swap y x rs).cons _).cons _ |>.cons _)⟩

set_option maxHeartbeats 800000 in
theorem mx_noted {S0 : List Nat} {w0 w : World} {m a r g n c : Nat} {l : List Int} {rs : List Res} {s : Rn} (H : RunHas S0 w0 m a r (.blk g (i64s l).toArray :: rs) s w) (hn : l.length = n) (hc : s.notes.length + l.length ≤ 1000) :
    Calls Try.prog 83 #[.pointer (some ⟨r, 0, none⟩), .slice (some ⟨g, 0, none⟩) n c] w fun e w' => e = .returned (.tuple #[]) ∧ RunHas S0 w0 m a r (.blk g (i64s l).toArray :: rs) (s.noted l) w' := by
  subst hn
  have hll : l.length ≤ 1000 := by omega
  have HC := Lib.hid hc
  have HH := Lib.hid H
  clear hc H
  go_enter Try.func83, Try.ntmps83
  go_wp2_with fail
  go_loopw [8] (fun i wr => ∃ k : Nat, k ≤ l.length ∧ i = .int .i64 k ∧ RunHas S0 w0 m a r (.blk g (i64s l).toArray :: rs) (s.noted (l.take k)) wr) (fun i _ => l.length - (intOf i).toNat)
  case atStart => exact ⟨0, Nat.zero_le _, rfl, HH.out⟩
  case round =>
    obtain ⟨k, hk, rfl, hH⟩ := hrel
    have HK := Lib.hid hH
    clear hH
    by_cases hlt : k < l.length
    · obtain ⟨b, off, hb, hbl, hcell⟩ := i64s_at (rd_blk HK.out.first) hlt
      simp only [Option.some.injEq, Addr.mk.injEq] at hb
      obtain ⟨rfl, rfl, _⟩ := hb
      obtain ⟨x, hx⟩ : ∃ x, l.getD k 0 = x := ⟨_, rfl⟩
      rw [hx, Nat.zero_add] at hcell
      have HX := Lib.hid hx
      clear hx
      have hi : (k : Int) < (l.length : Int) := by omega
      go_wp2_with fail
      refine (run_note HK.out (by rw [noted_notes]; have := HC.out; simp only [List.length_take]; omega) x 0).mono ?_
      rintro e w1 ⟨rfl, H1⟩
      go_wp2
      go_roundw
      case rel => exact ⟨k + 1, by omega, by go_num, by rw [noted_succ s l k hlt, HX.out]; exact H1⟩
      case measure => simp [intOf]; omega
    · have hkn : k = l.length := by omega
      subst hkn
      have hi : (l.length : Int) ≤ (l.length : Int) := Int.le_refl _
      have H2 := HK.out
      rw [List.take_length] at H2
      clear HK hlt hk
      go_wp2_with fail
      go_end0
      exact ⟨rfl, H2⟩

theorem mx_keeps {m r b : Nat} {nv : Value} {s : Rn} (v : Int) (w : World) (hv : 0 ≤ v ∧ v < 4294967296) (hr : Blk w r (rcells m s nv)) (hb : Blk w b #[.pointer (some ⟨r, 4, none⟩)]) :
    Calls Try.prog 84 #[.int .u32 v, .pointer (some ⟨b, 0, none⟩)] w fun e w' => e = .returned (.bool (v != 0)) ∧ Touch [r] w w' ∧ Blk w' r (rcells m (if v != 0 then s.setA v else s) nv) := by
  obtain ⟨n, mode, task, ⟨op, line, fa, fb, st, ⟨on, wc, wi, hit⟩, ret⟩, ⟨ak, ac, ax, ay, ao⟩, notes, L⟩ := s
  obtain ⟨x0, x1, x2⟩ := hb.own
  cases hcm : v != 0 with
  | true =>
    simp only [rcells, if_true, Rn.setA] at hr ⊢
    obtain ⟨y0, y1, y2⟩ := hr.own
    have HR := Lib.hid hr
    clear hr
    go_enter Try.func84, Try.ntmps84
    go_wp2
    go_ret
    refine ⟨rfl, (Touch.refl _ _).set (by simp) _, ?_⟩
    have := HR.out.set 6 (.int .u32 v)
    simp only [List.setIfInBounds_toArray, List.set_cons_zero, List.set_cons_succ] at this
    exact this
  | false =>
    simp only [rcells, Bool.false_eq_true, if_false] at hr ⊢
    have HR := Lib.hid hr
    clear hr
    go_enter Try.func84, Try.ntmps84
    go_wp2
    go_ret
    exact ⟨rfl, Touch.refl _ _, HR.out⟩

end Go.Proofs.Ytlndihdlodempaa.Z

/- Package mutex: the lines of who gives the queue on. Written by genmx.py. -/
set_option linter.unusedVariables false
set_option linter.unusedSimpArgs false
namespace Go.Proofs.Ytlndihdlodempaa.Z
open Go.RowKit

attribute [local go_sem ↓] Go.wp_at_zero Go.wp_at_succ

def mxG0 (q : Int) (s : Rn) : Rn :=
  let s1 := (s.did (doA s.L ⟨1, (cellP s.n 0 s.task), 0, 0, 0⟩)).setA (doA s.L ⟨1, (cellP s.n 0 s.task), 0, 0, 0⟩).1.old
  if (doA s.L ⟨1, (cellP s.n 0 s.task), 0, 0, 0⟩).1.old = 0 then s1.goto (q + 1) else s1.goto (q + 3)
set_option maxHeartbeats 1600000 in
theorem mx_g0 {S0 : List Nat} {w0 w : World} {m a r : Nat} {rs : List Res} {s : Rn} (tail q : Int) {g nn c : Nat} {nl : List Int} (hnl : nl.length = nn) (hq : 0 ≤ q ∧ q ≤ 100) (hc : s.notes.length + nl.length ≤ 900) (H : RunHas S0 w0 m a r (.blk g (i64s nl).toArray :: rs) s w) {l : Int} (hl : s.f.line = l) (hsub : wrap64 (l - q) = 0) (hn : I64 s.n) (ha : 0 ≤ s.f.a ∧ s.f.a < 4294967296) :
    Calls Try.prog 28 #[.pointer (some ⟨r, 0, none⟩), .int .i64 tail, .int .i64 q, .slice (some ⟨g, 0, none⟩) nn c] w fun e w' => e = .returned (.bool false) ∧ RunHas S0 w0 m a r (.blk g (i64s nl).toArray :: rs) (mxG0 q s) w' := by
  obtain ⟨o, hop⟩ : ∃ o, s.f.op = o := ⟨_, rfl⟩
  have hne := H.ne_first
  obtain ⟨z0, z2, z4, z5, z6, z7⟩ := H.facts hop hl rfl rfl
  have HA := Lib.hid ha
  have HC := Lib.hid hc
  have HQ := Lib.hid hq
  have HNX := Lib.hid (fun W => mapNext s.n s.task W hn)
  have HLD := Lib.hid (fun W rs (H : RunHas S0 w0 m a r rs s W) => rn_load H (cellP s.n 0 s.task))
  have HH := Lib.hid (H.box rfl #[.pointer (some ⟨r, 4, none⟩)] 102)
  clear H ha hc hn
  unfold mxG0
  (try dsimp only)
  by_cases hz : (doA s.L ⟨1, (cellP s.n 0 s.task), 0, 0, 0⟩).1.old = 0
  · simp only [if_pos hz]
    have hzb : ((doA s.L ⟨1, (cellP s.n 0 s.task), 0, 0, 0⟩).1.old != 0) = false := by simpa using hz
    clear hz
    go_enter Try.func28, Try.ntmps28
    go_wp2_with fail
    have HW := HH.out
    generalize w.heap.size = tb at HW ⊢
    generalize w.alloc _ = W at HW ⊢
    obtain ⟨z0, z2, z4, z5, z6, z7⟩ := HW.facts hop hl rfl rfl
    obtain ⟨y1, y2, y3⟩ := HW.whose rfl rfl rfl
    obtain ⟨u0, u1, u2⟩ := HW.first.own
    go_region_held3 (fun w' => w'.cell? ⟨r, 1, none⟩ = some (.int .i64 s.n) ∧ w'.cell? ⟨r, 3, none⟩ = some (.int .i64 s.task) ∧ w'.cell? ⟨r, 6, none⟩ = some (.int .u32 s.f.a) ∧ w'.cell? ⟨tb, 0, none⟩ = some (.pointer (some ⟨r, 4, none⟩)))
      (first | (refine RunHas.sees_box (S0 := S0) (w0 := w0) (m := m) (a := a) (rs := .blk g (i64s nl).toArray :: rs) (s := s) ?_; first | with_reducible assumption | with_reducible exact HW.drew))
      (first | (go_at_call 75; refine (HNX.out _).mono ?_; rintro e w1 ⟨rfl, t1⟩; have H1 := RunHas.grow HW.drew t1))
    clear u0 u1 u2 z0 z2 z4 z5 z6 z7 y1 y2 y3
    obtain ⟨x0, x2, x4, x5, x6, x7⟩ := H1.facts hop hl rfl rfl
    obtain ⟨v1, v2, v3⟩ := H1.whose rfl rfl rfl
    obtain ⟨u0, u1, u2⟩ := H1.first.own
    go_wp2_with fail
    have hne2 := H1.ne_first
    go_region_held3 (fun w' => ∀ i, w'.cell? ⟨tb, i, none⟩ = (#[.pointer (some ⟨r, 4, none⟩)] : Array Value)[i]?)
      (first | assumption | (intro i; rw [World.cell?_setCell_far _ _ _ _ (by exact hne2)]; apply_assumption) | (intro i; apply_assumption))
      (first | (go_at_call 53; (with_reducible refine (HLD.out _ _ H1.drew).mono ?_); rintro e w2 ⟨rfl, H2⟩; obtain ⟨v0, v1, v2⟩ := H2.first.own; obtain ⟨x0, x2, x4, x5, x6, x7⟩ := H2.facts hop hl rfl rfl))
    have H3 := H2.setA (doA s.L ⟨1, (cellP s.n 0 s.task), 0, 0, 0⟩).1.old
    go_wp2_with fail
    refine (rn_go H3 (q + 1)).mono ?_
    rintro e w4 ⟨rfl, H4⟩
    go_wp2_with fail
    go_ret
    exact ⟨rfl, H4.unbox⟩
  · simp only [if_neg hz]
    have hzb : ((doA s.L ⟨1, (cellP s.n 0 s.task), 0, 0, 0⟩).1.old != 0) = true := by simpa using hz
    clear hz
    go_enter Try.func28, Try.ntmps28
    go_wp2_with fail
    have HW := HH.out
    generalize w.heap.size = tb at HW ⊢
    generalize w.alloc _ = W at HW ⊢
    obtain ⟨z0, z2, z4, z5, z6, z7⟩ := HW.facts hop hl rfl rfl
    obtain ⟨y1, y2, y3⟩ := HW.whose rfl rfl rfl
    obtain ⟨u0, u1, u2⟩ := HW.first.own
    go_region_held3 (fun w' => w'.cell? ⟨r, 1, none⟩ = some (.int .i64 s.n) ∧ w'.cell? ⟨r, 3, none⟩ = some (.int .i64 s.task) ∧ w'.cell? ⟨r, 6, none⟩ = some (.int .u32 s.f.a) ∧ w'.cell? ⟨tb, 0, none⟩ = some (.pointer (some ⟨r, 4, none⟩)))
      (first | (refine RunHas.sees_box (S0 := S0) (w0 := w0) (m := m) (a := a) (rs := .blk g (i64s nl).toArray :: rs) (s := s) ?_; first | with_reducible assumption | with_reducible exact HW.drew))
      (first | (go_at_call 75; refine (HNX.out _).mono ?_; rintro e w1 ⟨rfl, t1⟩; have H1 := RunHas.grow HW.drew t1))
    clear u0 u1 u2 z0 z2 z4 z5 z6 z7 y1 y2 y3
    obtain ⟨x0, x2, x4, x5, x6, x7⟩ := H1.facts hop hl rfl rfl
    obtain ⟨v1, v2, v3⟩ := H1.whose rfl rfl rfl
    obtain ⟨u0, u1, u2⟩ := H1.first.own
    go_wp2_with fail
    have hne2 := H1.ne_first
    go_region_held3 (fun w' => ∀ i, w'.cell? ⟨tb, i, none⟩ = (#[.pointer (some ⟨r, 4, none⟩)] : Array Value)[i]?)
      (first | assumption | (intro i; rw [World.cell?_setCell_far _ _ _ _ (by exact hne2)]; apply_assumption) | (intro i; apply_assumption))
      (first | (go_at_call 53; (with_reducible refine (HLD.out _ _ H1.drew).mono ?_); rintro e w2 ⟨rfl, H2⟩; obtain ⟨v0, v1, v2⟩ := H2.first.own; obtain ⟨x0, x2, x4, x5, x6, x7⟩ := H2.facts hop hl rfl rfl))
    have H3 := H2.setA (doA s.L ⟨1, (cellP s.n 0 s.task), 0, 0, 0⟩).1.old
    go_wp2_with fail
    refine (rn_go H3 (q + 3)).mono ?_
    rintro e w4 ⟨rfl, H4⟩
    go_wp2_with fail
    go_ret
    exact ⟨rfl, H4.unbox⟩

def mxG1 (tail q : Int) (nl : List Int) (s : Rn) : Bool × Rn :=
  if casB s.L tail (mxOwn s) 0 then (true, (s.did (doA s.L ⟨5, tail, mxOwn s, 0, 0⟩)).noted nl) else (false, (s.did (doA s.L ⟨5, tail, mxOwn s, 0, 0⟩)).goto (q + 2))
set_option maxHeartbeats 1600000 in
theorem mx_g1 {S0 : List Nat} {w0 w : World} {m a r : Nat} {rs : List Res} {s : Rn} (tail q : Int) {g nn c : Nat} {nl : List Int} (hnl : nl.length = nn) (hq : 0 ≤ q ∧ q ≤ 100) (hc : s.notes.length + nl.length ≤ 900) (H : RunHas S0 w0 m a r (.blk g (i64s nl).toArray :: rs) s w) {l : Int} (hl : s.f.line = l) (hsub : wrap64 (l - q) = 1) (hn : I64 s.n) (ha : 0 ≤ s.f.a ∧ s.f.a < 4294967296) :
    Calls Try.prog 28 #[.pointer (some ⟨r, 0, none⟩), .int .i64 tail, .int .i64 q, .slice (some ⟨g, 0, none⟩) nn c] w fun e w' => e = .returned (.bool (mxG1 tail q nl s).1) ∧ RunHas S0 w0 m a r (.blk g (i64s nl).toArray :: rs) (mxG1 tail q nl s).2 w' := by
  obtain ⟨o, hop⟩ : ∃ o, s.f.op = o := ⟨_, rfl⟩
  have hne := H.ne_first
  obtain ⟨z0, z2, z4, z5, z6, z7⟩ := H.facts hop hl rfl rfl
  have HA := Lib.hid ha
  have HC := Lib.hid hc
  have HQ := Lib.hid hq
  have HNX := Lib.hid (fun W => mapNext s.n s.task W hn)
  have hcas := fun W rs (H : RunHas S0 w0 m a r rs s W) => rn_cas H tail (mxOwn s) 0 (mxOwn_word s) (by decide)
  have HH := Lib.hid (H.box rfl #[.pointer (some ⟨r, 4, none⟩)] 102)
  clear H ha hc hn
  unfold mxG1
  cases hb : casB s.L tail (mxOwn s) 0 with
  | true =>
    rw [hb] at hcas
    simp only [if_true]
    have HCAS := Lib.hid hcas
    clear hcas hb
    go_enter Try.func28, Try.ntmps28
    go_wp2_with fail
    have HW := HH.out
    generalize w.heap.size = tb at HW ⊢
    generalize w.alloc _ = W at HW ⊢
    obtain ⟨z0, z2, z4, z5, z6, z7⟩ := HW.facts hop hl rfl rfl
    obtain ⟨y1, y2, y3⟩ := HW.whose rfl rfl rfl
    obtain ⟨u0, u1, u2⟩ := HW.first.own
    go_region_held3 (fun w' => w'.cell? ⟨r, 1, none⟩ = some (.int .i64 s.n) ∧ w'.cell? ⟨r, 3, none⟩ = some (.int .i64 s.task) ∧ w'.cell? ⟨r, 6, none⟩ = some (.int .u32 s.f.a) ∧ w'.cell? ⟨tb, 0, none⟩ = some (.pointer (some ⟨r, 4, none⟩)))
      (first | (refine RunHas.sees_box (S0 := S0) (w0 := w0) (m := m) (a := a) (rs := .blk g (i64s nl).toArray :: rs) (s := s) ?_; first | with_reducible assumption | with_reducible exact HW.drew))
      (first | (go_at_call 75; refine (HNX.out _).mono ?_; rintro e w1 ⟨rfl, t1⟩; have H1 := RunHas.grow HW.drew t1))
    clear u0 u1 u2 z0 z2 z4 z5 z6 z7 y1 y2 y3
    obtain ⟨x0, x2, x4, x5, x6, x7⟩ := H1.facts hop hl rfl rfl
    obtain ⟨v1, v2, v3⟩ := H1.whose rfl rfl rfl
    obtain ⟨u0, u1, u2⟩ := H1.first.own
    go_wp2_with fail
    refine (mx_own H1).mono ?_
    rintro e w9 ⟨rfl, rfl⟩
    go_wp2_with fail
    refine (HCAS.out _ _ H1).mono ?_
    rintro e w2 ⟨rfl, H2⟩
    go_wp2_with fail
    refine (mx_noted H2.swap12 hnl (by have := HC.out; simp [Rn.did]; omega)).mono ?_
    rintro e w3 ⟨rfl, H3⟩
    go_wp2_with fail
    go_ret
    exact ⟨rfl, H3.swap12.unbox⟩
  | false =>
    rw [hb] at hcas
    simp only [Bool.false_eq_true, if_false]
    have HCAS := Lib.hid hcas
    clear hcas hb
    go_enter Try.func28, Try.ntmps28
    go_wp2_with fail
    have HW := HH.out
    generalize w.heap.size = tb at HW ⊢
    generalize w.alloc _ = W at HW ⊢
    obtain ⟨z0, z2, z4, z5, z6, z7⟩ := HW.facts hop hl rfl rfl
    obtain ⟨y1, y2, y3⟩ := HW.whose rfl rfl rfl
    obtain ⟨u0, u1, u2⟩ := HW.first.own
    go_region_held3 (fun w' => w'.cell? ⟨r, 1, none⟩ = some (.int .i64 s.n) ∧ w'.cell? ⟨r, 3, none⟩ = some (.int .i64 s.task) ∧ w'.cell? ⟨r, 6, none⟩ = some (.int .u32 s.f.a) ∧ w'.cell? ⟨tb, 0, none⟩ = some (.pointer (some ⟨r, 4, none⟩)))
      (first | (refine RunHas.sees_box (S0 := S0) (w0 := w0) (m := m) (a := a) (rs := .blk g (i64s nl).toArray :: rs) (s := s) ?_; first | with_reducible assumption | with_reducible exact HW.drew))
      (first | (go_at_call 75; refine (HNX.out _).mono ?_; rintro e w1 ⟨rfl, t1⟩; have H1 := RunHas.grow HW.drew t1))
    clear u0 u1 u2 z0 z2 z4 z5 z6 z7 y1 y2 y3
    obtain ⟨x0, x2, x4, x5, x6, x7⟩ := H1.facts hop hl rfl rfl
    obtain ⟨v1, v2, v3⟩ := H1.whose rfl rfl rfl
    obtain ⟨u0, u1, u2⟩ := H1.first.own
    go_wp2_with fail
    refine (mx_own H1).mono ?_
    rintro e w9 ⟨rfl, rfl⟩
    go_wp2_with fail
    refine (HCAS.out _ _ H1).mono ?_
    rintro e w2 ⟨rfl, H2⟩
    go_wp2_with fail
    refine (rn_go H2 (q + 2)).mono ?_
    rintro e w3 ⟨rfl, H3⟩
    go_wp2_with fail
    go_ret
    exact ⟨rfl, H3.unbox⟩

def mxG2 (q : Int) (s : Rn) : Rn :=
  let s1 := (s.keep (waitA s.L s.n s.mode s.task s.f.st (cellP s.n 0 s.task) (fun v => v != 0))).waited (waitA s.L s.n s.mode s.task s.f.st (cellP s.n 0 s.task) (fun v => v != 0))
  if (waitA s.L s.n s.mode s.task s.f.st (cellP s.n 0 s.task) (fun v => v != 0)).done then s1.goto (q + 3) else s1
set_option maxHeartbeats 1600000 in
theorem mx_g2 {S0 : List Nat} {w0 w : World} {m a r : Nat} {rs : List Res} {s : Rn} (tail q : Int) {g nn c : Nat} {nl : List Int} (hnl : nl.length = nn) (hq : 0 ≤ q ∧ q ≤ 100) (hc : s.notes.length + nl.length ≤ 900) (H : RunHas S0 w0 m a r (.blk g (i64s nl).toArray :: rs) s w) {l : Int} (hl : s.f.line = l) (hsub : wrap64 (l - q) = 2) (hn : I64 s.n) (ha : 0 ≤ s.f.a ∧ s.f.a < 4294967296) :
    Calls Try.prog 28 #[.pointer (some ⟨r, 0, none⟩), .int .i64 tail, .int .i64 q, .slice (some ⟨g, 0, none⟩) nn c] w fun e w' => e = .returned (.bool false) ∧ RunHas S0 w0 m a r (.blk g (i64s nl).toArray :: rs) (mxG2 q s) w' := by
  obtain ⟨o, hop⟩ : ∃ o, s.f.op = o := ⟨_, rfl⟩
  have hne := H.ne_first
  obtain ⟨z0, z2, z4, z5, z6, z7⟩ := H.facts hop hl rfl rfl
  have HA := Lib.hid ha
  have HC := Lib.hid hc
  have HQ := Lib.hid hq
  have HNX := Lib.hid (fun W => mapNext s.n s.task W hn)
  have hwt := fun (tb : Nat) W (H : RunHas S0 w0 m a r (.blk tb #[.pointer (some ⟨r, 4, none⟩)] :: .blk g (i64s nl).toArray :: rs) s W) => rn_wait_keep H hn (cellP s.n 0 s.task) 84 #[] #[.pointer (some ⟨tb, 0, none⟩)] (fun v => v != 0) (enters_of Try.func84 (by kernel_rfl) rfl) (fun W nv v h0 h1 HX => mx_keeps v W ⟨h0, h1⟩ HX.blk1 (HX.at_ 3 rfl))
  have HH := Lib.hid (H.box rfl #[.pointer (some ⟨r, 4, none⟩)] 102)
  clear H ha hc hn
  unfold mxG2
  (try dsimp only)
  generalize (waitA s.L s.n s.mode s.task s.f.st (cellP s.n 0 s.task) (fun v => v != 0)).seen = sn at hwt
  cases hd : (waitA s.L s.n s.mode s.task s.f.st (cellP s.n 0 s.task) (fun v => v != 0)).done <;> rw [hd] at hwt <;> simp only [if_true, Bool.false_eq_true, if_false] <;> (have HWT := Lib.hid hwt) <;> clear hwt hd
  · go_enter Try.func28, Try.ntmps28
    go_wp2_with fail
    have HW := HH.out
    generalize w.heap.size = tb at HW ⊢
    generalize w.alloc _ = W at HW ⊢
    obtain ⟨z0, z2, z4, z5, z6, z7⟩ := HW.facts hop hl rfl rfl
    obtain ⟨y1, y2, y3⟩ := HW.whose rfl rfl rfl
    obtain ⟨u0, u1, u2⟩ := HW.first.own
    go_region_held3 (fun w' => w'.cell? ⟨r, 1, none⟩ = some (.int .i64 s.n) ∧ w'.cell? ⟨r, 3, none⟩ = some (.int .i64 s.task) ∧ w'.cell? ⟨r, 6, none⟩ = some (.int .u32 s.f.a) ∧ w'.cell? ⟨tb, 0, none⟩ = some (.pointer (some ⟨r, 4, none⟩)))
      (first | (refine RunHas.sees_box (S0 := S0) (w0 := w0) (m := m) (a := a) (rs := .blk g (i64s nl).toArray :: rs) (s := s) ?_; first | with_reducible assumption | with_reducible exact HW.drew))
      (first | (go_at_call 75; refine (HNX.out _).mono ?_; rintro e w1 ⟨rfl, t1⟩; have H1 := RunHas.grow HW.drew t1))
    clear u0 u1 u2 z0 z2 z4 z5 z6 z7 y1 y2 y3
    obtain ⟨x0, x2, x4, x5, x6, x7⟩ := H1.facts hop hl rfl rfl
    obtain ⟨v1, v2, v3⟩ := H1.whose rfl rfl rfl
    obtain ⟨u0, u1, u2⟩ := H1.first.own
    go_wp2_with fail
    refine (HWT.out _ _ H1).mono ?_
    rintro e w2 ⟨rfl, H2⟩
    go_wp2_with fail
    go_ret
    exact ⟨rfl, H2.unbox⟩
  · go_enter Try.func28, Try.ntmps28
    go_wp2_with fail
    have HW := HH.out
    generalize w.heap.size = tb at HW ⊢
    generalize w.alloc _ = W at HW ⊢
    obtain ⟨z0, z2, z4, z5, z6, z7⟩ := HW.facts hop hl rfl rfl
    obtain ⟨y1, y2, y3⟩ := HW.whose rfl rfl rfl
    obtain ⟨u0, u1, u2⟩ := HW.first.own
    go_region_held3 (fun w' => w'.cell? ⟨r, 1, none⟩ = some (.int .i64 s.n) ∧ w'.cell? ⟨r, 3, none⟩ = some (.int .i64 s.task) ∧ w'.cell? ⟨r, 6, none⟩ = some (.int .u32 s.f.a) ∧ w'.cell? ⟨tb, 0, none⟩ = some (.pointer (some ⟨r, 4, none⟩)))
      (first | (refine RunHas.sees_box (S0 := S0) (w0 := w0) (m := m) (a := a) (rs := .blk g (i64s nl).toArray :: rs) (s := s) ?_; first | with_reducible assumption | with_reducible exact HW.drew))
      (first | (go_at_call 75; refine (HNX.out _).mono ?_; rintro e w1 ⟨rfl, t1⟩; have H1 := RunHas.grow HW.drew t1))
    clear u0 u1 u2 z0 z2 z4 z5 z6 z7 y1 y2 y3
    obtain ⟨x0, x2, x4, x5, x6, x7⟩ := H1.facts hop hl rfl rfl
    obtain ⟨v1, v2, v3⟩ := H1.whose rfl rfl rfl
    obtain ⟨u0, u1, u2⟩ := H1.first.own
    go_wp2_with fail
    refine (HWT.out _ _ H1).mono ?_
    rintro e w2 ⟨rfl, H2⟩
    go_wp2_with fail
    refine (rn_go H2 (q + 3)).mono ?_
    rintro e w3 ⟨rfl, H3⟩
    go_wp2_with fail
    go_ret
    exact ⟨rfl, H3.unbox⟩

def mxG3 (nl : List Int) (s : Rn) : Rn := ((s.did (doA s.L ⟨2, (cellP s.n 1 (s.f.a - 1)), 0, 0, 0⟩)).noted nl).wake (cellP s.n 1 (s.f.a - 1))
set_option maxHeartbeats 1600000 in
theorem mx_g3 {S0 : List Nat} {w0 w : World} {m a r : Nat} {rs : List Res} {s : Rn} (tail q : Int) {g nn c : Nat} {nl : List Int} (hnl : nl.length = nn) (hq : 0 ≤ q ∧ q ≤ 100) (hc : s.notes.length + nl.length ≤ 900) (H : RunHas S0 w0 m a r (.blk g (i64s nl).toArray :: rs) s w) {l : Int} (hl : s.f.line = l) (hsub : wrap64 (l - q) = 3) (hn : I64 s.n) (ha : 0 ≤ s.f.a ∧ s.f.a < 4294967296) :
    Calls Try.prog 28 #[.pointer (some ⟨r, 0, none⟩), .int .i64 tail, .int .i64 q, .slice (some ⟨g, 0, none⟩) nn c] w fun e w' => e = .returned (.bool true) ∧ RunHas S0 w0 m a r (.blk g (i64s nl).toArray :: rs) (mxG3 nl s) w' := by
  obtain ⟨o, hop⟩ : ∃ o, s.f.op = o := ⟨_, rfl⟩
  have hne := H.ne_first
  obtain ⟨z0, z2, z4, z5, z6, z7⟩ := H.facts hop hl rfl rfl
  have HA := Lib.hid ha
  have HC := Lib.hid hc
  have HQ := Lib.hid hq
  have HNX := Lib.hid (fun W => mapNext s.n s.task W hn)
  have HBL := Lib.hid (fun W => mapBlocked s.n (s.f.a - 1) W hn)
  have HH := Lib.hid (H.box rfl #[.pointer (some ⟨r, 4, none⟩)] 102)
  clear H ha hc hn
  unfold mxG3
  go_enter Try.func28, Try.ntmps28
  go_wp2_with fail
  have HW := HH.out
  generalize w.heap.size = tb at HW ⊢
  generalize w.alloc _ = W at HW ⊢
  obtain ⟨z0, z2, z4, z5, z6, z7⟩ := HW.facts hop hl rfl rfl
  obtain ⟨y1, y2, y3⟩ := HW.whose rfl rfl rfl
  obtain ⟨u0, u1, u2⟩ := HW.first.own
  go_region_held3 (fun w' => w'.cell? ⟨r, 1, none⟩ = some (.int .i64 s.n) ∧ w'.cell? ⟨r, 3, none⟩ = some (.int .i64 s.task) ∧ w'.cell? ⟨r, 6, none⟩ = some (.int .u32 s.f.a) ∧ w'.cell? ⟨tb, 0, none⟩ = some (.pointer (some ⟨r, 4, none⟩)))
    (first | (refine RunHas.sees_box (S0 := S0) (w0 := w0) (m := m) (a := a) (rs := .blk g (i64s nl).toArray :: rs) (s := s) ?_; first | with_reducible assumption | with_reducible exact HW.drew | with_reducible exact H1.drew))
    (first | (go_at_call 75; refine (HNX.out _).mono ?_; rintro e w1 ⟨rfl, t1⟩; have H1 := RunHas.grow HW.drew t1))
  clear u0 u1 u2 z0 z2 z4 z5 z6 z7 y1 y2 y3
  obtain ⟨x0, x2, x4, x5, x6, x7⟩ := H1.facts hop hl rfl rfl
  obtain ⟨v1, v2, v3⟩ := H1.whose rfl rfl rfl
  obtain ⟨u0, u1, u2⟩ := H1.first.own
  go_wp2_with fail
  go_region_held3 (fun w' => w'.cell? ⟨r, 1, none⟩ = some (.int .i64 s.n) ∧ w'.cell? ⟨r, 3, none⟩ = some (.int .i64 s.task) ∧ w'.cell? ⟨r, 6, none⟩ = some (.int .u32 s.f.a) ∧ w'.cell? ⟨tb, 0, none⟩ = some (.pointer (some ⟨r, 4, none⟩)))
    (first | (refine RunHas.sees_box (S0 := S0) (w0 := w0) (m := m) (a := a) (rs := .blk g (i64s nl).toArray :: rs) (s := s) ?_; first | with_reducible assumption | with_reducible exact HW.drew | with_reducible exact H1.drew))
    (first | (go_at_call 78; refine (mx_other _ _ HA.out).mono ?_; rintro e w9 ⟨rfl, rfl⟩) | (go_at_call 76; refine (HBL.out _).mono ?_; rintro e w2 ⟨rfl, t2⟩; have H2 := RunHas.grow H1.drew t2))
  obtain ⟨p0, p2, p4, p5, p6, p7⟩ := H2.facts hop hl rfl rfl
  go_wp2_with fail
  refine (rn_store H2 (cellP s.n 1 (s.f.a - 1)) 0 (by decide)).mono ?_
  rintro e w3 ⟨rfl, H3⟩
  go_wp2_with fail
  refine (mx_noted H3.swap12 hnl (by have := HC.out; simp [Rn.did]; omega)).mono ?_
  rintro e w4 ⟨rfl, H4⟩
  go_wp2_with fail
  refine (rn_wake H4.swap12 (cellP s.n 1 (s.f.a - 1))).mono ?_
  rintro e w5 ⟨rfl, H5⟩
  go_wp2_with fail
  go_ret
  exact ⟨rfl, H5.unbox⟩

def mxGnone (s : Rn) : Rn := s
set_option maxHeartbeats 1600000 in
theorem mx_gnone {S0 : List Nat} {w0 w : World} {m a r : Nat} {rs : List Res} {s : Rn} (tail q : Int) {g nn c : Nat} {nl : List Int} (hnl : nl.length = nn) (hq : 0 ≤ q ∧ q ≤ 100) (hc : s.notes.length + nl.length ≤ 900) (H : RunHas S0 w0 m a r (.blk g (i64s nl).toArray :: rs) s w) {l : Int} (hl : s.f.line = l) (k0 : ¬ wrap64 (l - q) = 0) (k1 : ¬ wrap64 (l - q) = 1) (k2 : ¬ wrap64 (l - q) = 2) (k3 : ¬ wrap64 (l - q) = 3) (hn : I64 s.n) (ha : 0 ≤ s.f.a ∧ s.f.a < 4294967296) :
    Calls Try.prog 28 #[.pointer (some ⟨r, 0, none⟩), .int .i64 tail, .int .i64 q, .slice (some ⟨g, 0, none⟩) nn c] w fun e w' => e = .returned (.bool false) ∧ RunHas S0 w0 m a r (.blk g (i64s nl).toArray :: rs) s w' := by
  obtain ⟨o, hop⟩ : ∃ o, s.f.op = o := ⟨_, rfl⟩
  have hne := H.ne_first
  obtain ⟨z0, z2, z4, z5, z6, z7⟩ := H.facts hop hl rfl rfl
  have HA := Lib.hid ha
  have HC := Lib.hid hc
  have HQ := Lib.hid hq
  have HNX := Lib.hid (fun W => mapNext s.n s.task W hn)
  have HH := Lib.hid (H.box rfl #[.pointer (some ⟨r, 4, none⟩)] 102)
  clear H ha hc hn
  go_enter Try.func28, Try.ntmps28
  go_wp2_with fail
  have HW := HH.out
  generalize w.heap.size = tb at HW ⊢
  generalize w.alloc _ = W at HW ⊢
  obtain ⟨z0, z2, z4, z5, z6, z7⟩ := HW.facts hop hl rfl rfl
  obtain ⟨y1, y2, y3⟩ := HW.whose rfl rfl rfl
  obtain ⟨u0, u1, u2⟩ := HW.first.own
  go_region_held3 (fun w' => w'.cell? ⟨r, 1, none⟩ = some (.int .i64 s.n) ∧ w'.cell? ⟨r, 3, none⟩ = some (.int .i64 s.task) ∧ w'.cell? ⟨r, 6, none⟩ = some (.int .u32 s.f.a) ∧ w'.cell? ⟨tb, 0, none⟩ = some (.pointer (some ⟨r, 4, none⟩)))
    (first | (refine RunHas.sees_box (S0 := S0) (w0 := w0) (m := m) (a := a) (rs := .blk g (i64s nl).toArray :: rs) (s := s) ?_; first | with_reducible assumption | with_reducible exact HW.drew))
    (first | (go_at_call 75; refine (HNX.out _).mono ?_; rintro e w1 ⟨rfl, t1⟩; have H1 := RunHas.grow HW.drew t1))
  clear u0 u1 u2 z0 z2 z4 z5 z6 z7 y1 y2 y3
  obtain ⟨x0, x2, x4, x5, x6, x7⟩ := H1.facts hop hl rfl rfl
  obtain ⟨v1, v2, v3⟩ := H1.whose rfl rfl rfl
  obtain ⟨u0, u1, u2⟩ := H1.first.own
  go_wp2_with fail
  go_ret
  exact ⟨rfl, H1.unbox⟩

/-- A line of who gives the queue on. -/
def mxGive (tail q : Int) (nl : List Int) (s : Rn) : Bool × Rn :=
  if wrap64 (s.f.line - q) = 0 then (false, mxG0 q s) else if wrap64 (s.f.line - q) = 1 then mxG1 tail q nl s else if wrap64 (s.f.line - q) = 2 then (false, mxG2 q s) else if wrap64 (s.f.line - q) = 3 then (true, mxG3 nl s) else (false, s)
theorem mx_give {S0 : List Nat} {w0 w : World} {m a r : Nat} {rs : List Res} {s : Rn} (tail q : Int) {g nn c : Nat} {nl : List Int} (hnl : nl.length = nn) (hq : 0 ≤ q ∧ q ≤ 100) (hc : s.notes.length + nl.length ≤ 900) (H : RunHas S0 w0 m a r (.blk g (i64s nl).toArray :: rs) s w) (hn : I64 s.n) (ha : 0 ≤ s.f.a ∧ s.f.a < 4294967296) :
    Calls Try.prog 28 #[.pointer (some ⟨r, 0, none⟩), .int .i64 tail, .int .i64 q, .slice (some ⟨g, 0, none⟩) nn c] w fun e w' => e = .returned (.bool (mxGive tail q nl s).1) ∧ RunHas S0 w0 m a r (.blk g (i64s nl).toArray :: rs) (mxGive tail q nl s).2 w' := by
  unfold mxGive
  split
  · exact mx_g0 tail q hnl hq hc H rfl (by assumption) hn ha
  split
  · exact mx_g1 tail q hnl hq hc H rfl (by assumption) hn ha
  split
  · exact mx_g2 tail q hnl hq hc H rfl (by assumption) hn ha
  split
  · exact mx_g3 tail q hnl hq hc H rfl (by assumption) hn ha
  · exact mx_gnone tail q hnl hq hc H rfl (by assumption) (by assumption) (by assumption) (by assumption) hn ha

end Go.Proofs.Ytlndihdlodempaa.Z

/- Package mutex: the lines of who enters, of who tries. Written by genmx.py. -/
set_option linter.unusedVariables false
set_option linter.unusedSimpArgs false
namespace Go.Proofs.Ytlndihdlodempaa.Z
open Go.RowKit

attribute [local go_sem ↓] Go.wp_at_zero Go.wp_at_succ

def mxE0 (s : Rn) : Rn := (s.did (doA s.L ⟨2, cellP s.n 0 s.task, 0, 0, 0⟩)).goto 1
set_option maxHeartbeats 800000 in
theorem mx_e0 {S0 : List Nat} {w0 w : World} {m a r : Nat} {rs : List Res} {s : Rn} (H : RunHas S0 w0 m a r rs s w) (tail cls : Int) (hl : s.f.line = 0) (hn : I64 s.n) :
    Calls Try.prog 26 #[.pointer (some ⟨r, 0, none⟩), .int .i64 tail, .int .i64 cls] w fun e w' => e = .returned (.bool false) ∧ RunHas S0 w0 m a r rs (mxE0 s) w' := by
  obtain ⟨o, hop⟩ : ∃ o, s.f.op = o := ⟨_, rfl⟩
  obtain ⟨z0, z2, z4, z5, z6, z7⟩ := H.facts rfl hl rfl rfl
  obtain ⟨y1, y2, y3⟩ := H.whose rfl rfl rfl
  have HN := Lib.hid hn
  have HH := Lib.hid H
  have HNX := Lib.hid (fun W => mapNext s.n s.task W hn)
  have HST := Lib.hid (fun W (H : RunHas S0 w0 m a r rs s W) => rn_store H (cellP s.n 0 s.task) 0 (by decide))
  clear H hn
  unfold mxE0
  go_enter Try.func26, Try.ntmps26
  go_wp2_with fail
  go_region_held3 (fun w' => w'.cell? ⟨r, 1, none⟩ = some (.int .i64 s.n) ∧ w'.cell? ⟨r, 3, none⟩ = some (.int .i64 s.task) ∧ w'.cell? ⟨r, 6, none⟩ = some (.int .u32 s.f.a))
    (first | with_reducible exact RunHas.sees HH.out | with_reducible exact RunHas.sees HH.out.drew | (refine RunHas.sees (S0 := S0) (w0 := w0) (m := m) (a := a) (rs := rs) (s := s) ?_; with_reducible assumption) | (refine RunHas.sees_did (S0 := S0) (w0 := w0) (m := m) (a := a) (rs := rs) (s := s) (R := doA s.L ⟨2, cellP s.n 0 s.task, 0, 0, 0⟩) ?_; with_reducible assumption) | (refine RunHas.sees_wtd (S0 := S0) (w0 := w0) (m := m) (a := a) (rs := rs) (s := s) (R := doA s.L ⟨2, cellP s.n 0 s.task, 0, 0, 0⟩) ?_; with_reducible assumption))
    (first | (go_at_call 75; refine (HNX.out _).mono ?_; rintro e w1 ⟨rfl, t1⟩; have H1 := RunHas.grow (by first | with_reducible exact HH.out | with_reducible exact HH.out.drew) t1) | (go_at_call 47; (with_reducible refine (HST.out _ H1).mono ?_); rintro e w2 ⟨rfl, H2⟩))
  go_wp2_with fail
  refine (rn_go H2 1).mono ?_
  rintro e w3 ⟨rfl, H3⟩
  go_wp2_with fail
  go_ret
  exact ⟨rfl, H3⟩

def mxE1 (s : Rn) : Rn := (s.did (doA s.L ⟨2, cellP s.n 1 s.task, 1, 0, 0⟩)).goto 2
set_option maxHeartbeats 800000 in
theorem mx_e1 {S0 : List Nat} {w0 w : World} {m a r : Nat} {rs : List Res} {s : Rn} (H : RunHas S0 w0 m a r rs s w) (tail cls : Int) (hl : s.f.line = 1) (hn : I64 s.n) :
    Calls Try.prog 26 #[.pointer (some ⟨r, 0, none⟩), .int .i64 tail, .int .i64 cls] w fun e w' => e = .returned (.bool false) ∧ RunHas S0 w0 m a r rs (mxE1 s) w' := by
  obtain ⟨o, hop⟩ : ∃ o, s.f.op = o := ⟨_, rfl⟩
  obtain ⟨z0, z2, z4, z5, z6, z7⟩ := H.facts rfl hl rfl rfl
  obtain ⟨y1, y2, y3⟩ := H.whose rfl rfl rfl
  have HN := Lib.hid hn
  have HH := Lib.hid H
  have HNX := Lib.hid (fun W => mapBlocked s.n s.task W hn)
  have HST := Lib.hid (fun W (H : RunHas S0 w0 m a r rs s W) => rn_store H (cellP s.n 1 s.task) 1 (by decide))
  clear H hn
  unfold mxE1
  go_enter Try.func26, Try.ntmps26
  go_wp2_with fail
  go_region_held3 (fun w' => w'.cell? ⟨r, 1, none⟩ = some (.int .i64 s.n) ∧ w'.cell? ⟨r, 3, none⟩ = some (.int .i64 s.task) ∧ w'.cell? ⟨r, 6, none⟩ = some (.int .u32 s.f.a))
    (first | with_reducible exact RunHas.sees HH.out | with_reducible exact RunHas.sees HH.out.drew | (refine RunHas.sees (S0 := S0) (w0 := w0) (m := m) (a := a) (rs := rs) (s := s) ?_; with_reducible assumption) | (refine RunHas.sees_did (S0 := S0) (w0 := w0) (m := m) (a := a) (rs := rs) (s := s) (R := doA s.L ⟨2, cellP s.n 1 s.task, 1, 0, 0⟩) ?_; with_reducible assumption) | (refine RunHas.sees_wtd (S0 := S0) (w0 := w0) (m := m) (a := a) (rs := rs) (s := s) (R := doA s.L ⟨2, cellP s.n 1 s.task, 1, 0, 0⟩) ?_; with_reducible assumption))
    (first | (go_at_call 76; refine (HNX.out _).mono ?_; rintro e w1 ⟨rfl, t1⟩; have H1 := RunHas.grow (by first | with_reducible exact HH.out | with_reducible exact HH.out.drew) t1) | (go_at_call 47; (with_reducible refine (HST.out _ H1).mono ?_); rintro e w2 ⟨rfl, H2⟩))
  go_wp2_with fail
  refine (rn_go H2 2).mono ?_
  rintro e w3 ⟨rfl, H3⟩
  go_wp2_with fail
  go_ret
  exact ⟨rfl, H3⟩

def mxE2 (tail cls : Int) (s : Rn) : Bool × Rn :=
  let s1 := ((s.did (doA s.L ⟨4, tail, mxOwn s, 0, 0⟩)).setA (doA s.L ⟨4, tail, mxOwn s, 0, 0⟩).1.old).note 2 cls
  if (doA s.L ⟨4, tail, mxOwn s, 0, 0⟩).1.old = 0 then (true, s1) else (false, s1.goto 3)
set_option maxHeartbeats 800000 in
theorem mx_e2 {S0 : List Nat} {w0 w : World} {m a r : Nat} {rs : List Res} {s : Rn} (H : RunHas S0 w0 m a r rs s w) (tail cls : Int) (hc : s.notes.length ≤ 900) (hl : s.f.line = 2) (hn : I64 s.n) :
    Calls Try.prog 26 #[.pointer (some ⟨r, 0, none⟩), .int .i64 tail, .int .i64 cls] w fun e w' => e = .returned (.bool (mxE2 tail cls s).1) ∧ RunHas S0 w0 m a r rs (mxE2 tail cls s).2 w' := by
  obtain ⟨o, hop⟩ : ∃ o, s.f.op = o := ⟨_, rfl⟩
  obtain ⟨z0, z2, z4, z5, z6, z7⟩ := H.facts rfl hl rfl rfl
  obtain ⟨y1, y2, y3⟩ := H.whose rfl rfl rfl
  have HN := Lib.hid hn
  have HH := Lib.hid H
  have HC := Lib.hid hc
  clear H hn hc
  unfold mxE2
  (try dsimp only)
  by_cases hq : (doA s.L ⟨4, tail, mxOwn s, 0, 0⟩).1.old = 0
  · simp only [if_pos hq]
    have hz : ((doA s.L ⟨4, tail, mxOwn s, 0, 0⟩).1.old == 0) = true := by simpa using hq
    clear hq
    go_enter Try.func26, Try.ntmps26
    go_wp2_with fail
    refine (mx_own HH.out).mono ?_
    rintro e w9 ⟨rfl, rfl⟩
    go_wp2_with fail
    refine (rn_swap HH.out tail (mxOwn s) (mxOwn_word s)).mono ?_
    rintro e w1 ⟨rfl, H1⟩
    obtain ⟨x0, x2, x4, x5, x6, x7⟩ := H1.facts hop hl rfl rfl
    go_wp2_with fail
    refine (run_note (H1.setA (doA s.L ⟨4, tail, mxOwn s, 0, 0⟩).1.old) (by have := HC.out; first | exact Nat.le_trans this (by decide) | (simp [Rn.note, Rn.did, Rn.setA, Rn.setB, Rn.waited, Rn.goto, Rn.noted]; omega)) 2 cls).mono ?_
    rintro e w2 ⟨rfl, H2⟩
    obtain ⟨x0, x2, x4, x5, x6, x7⟩ := H2.facts hop hl (x := (doA s.L ⟨4, tail, mxOwn s, 0, 0⟩).1.old) rfl rfl
    go_wp2_with fail
    go_ret
    exact ⟨rfl, H2⟩
  · simp only [if_neg hq]
    have hz : ((doA s.L ⟨4, tail, mxOwn s, 0, 0⟩).1.old == 0) = false := by simpa using hq
    clear hq
    go_enter Try.func26, Try.ntmps26
    go_wp2_with fail
    refine (mx_own HH.out).mono ?_
    rintro e w9 ⟨rfl, rfl⟩
    go_wp2_with fail
    refine (rn_swap HH.out tail (mxOwn s) (mxOwn_word s)).mono ?_
    rintro e w1 ⟨rfl, H1⟩
    obtain ⟨x0, x2, x4, x5, x6, x7⟩ := H1.facts hop hl rfl rfl
    go_wp2_with fail
    refine (run_note (H1.setA (doA s.L ⟨4, tail, mxOwn s, 0, 0⟩).1.old) (by have := HC.out; first | exact Nat.le_trans this (by decide) | (simp [Rn.note, Rn.did, Rn.setA, Rn.setB, Rn.waited, Rn.goto, Rn.noted]; omega)) 2 cls).mono ?_
    rintro e w2 ⟨rfl, H2⟩
    obtain ⟨x0, x2, x4, x5, x6, x7⟩ := H2.facts hop hl (x := (doA s.L ⟨4, tail, mxOwn s, 0, 0⟩).1.old) rfl rfl
    go_wp2_with fail
    refine (rn_go H2 3).mono ?_
    rintro e w3 ⟨rfl, H3⟩
    go_wp2_with fail
    go_ret
    exact ⟨rfl, H3⟩

def mxE3 (s : Rn) : Rn := ((s.did (doA s.L ⟨2, (cellP s.n 0 (s.f.a - 1)), mxOwn s, 0, 0⟩)).wake (cellP s.n 0 (s.f.a - 1))).goto 4
set_option maxHeartbeats 800000 in
theorem mx_e3 {S0 : List Nat} {w0 w : World} {m a r : Nat} {rs : List Res} {s : Rn} (H : RunHas S0 w0 m a r rs s w) (tail cls : Int) (ha : 0 ≤ s.f.a ∧ s.f.a < 4294967296) (hl : s.f.line = 3) (hn : I64 s.n) :
    Calls Try.prog 26 #[.pointer (some ⟨r, 0, none⟩), .int .i64 tail, .int .i64 cls] w fun e w' => e = .returned (.bool false) ∧ RunHas S0 w0 m a r rs (mxE3 s) w' := by
  obtain ⟨o, hop⟩ : ∃ o, s.f.op = o := ⟨_, rfl⟩
  obtain ⟨z0, z2, z4, z5, z6, z7⟩ := H.facts rfl hl rfl rfl
  obtain ⟨y1, y2, y3⟩ := H.whose rfl rfl rfl
  have HN := Lib.hid hn
  have HH := Lib.hid H
  have HA := Lib.hid ha
  have HNX := Lib.hid (fun W => mapNext s.n (s.f.a - 1) W hn)
  clear H hn ha
  unfold mxE3
  go_enter Try.func26, Try.ntmps26
  go_wp2_with fail
  go_region_held3 (fun w' => w'.cell? ⟨r, 1, none⟩ = some (.int .i64 s.n) ∧ w'.cell? ⟨r, 3, none⟩ = some (.int .i64 s.task) ∧ w'.cell? ⟨r, 6, none⟩ = some (.int .u32 s.f.a))
    (first | with_reducible exact RunHas.sees HH.out | with_reducible exact RunHas.sees HH.out.drew | (refine RunHas.sees (S0 := S0) (w0 := w0) (m := m) (a := a) (rs := rs) (s := s) ?_; with_reducible assumption) | (refine RunHas.sees_did (S0 := S0) (w0 := w0) (m := m) (a := a) (rs := rs) (s := s) (R := X) ?_; with_reducible assumption) | (refine RunHas.sees_wtd (S0 := S0) (w0 := w0) (m := m) (a := a) (rs := rs) (s := s) (R := X) ?_; with_reducible assumption))
    (first | (go_at_call 78; refine (mx_other _ _ HA.out).mono ?_; rintro e w9 ⟨rfl, rfl⟩) | (go_at_call 75; refine (HNX.out _).mono ?_; rintro e w1 ⟨rfl, t1⟩; have H1 := RunHas.grow (by first | with_reducible exact HH.out | with_reducible exact HH.out.drew) t1))
  obtain ⟨x0, x2, x4, x5, x6, x7⟩ := H1.facts hop hl rfl rfl
  obtain ⟨v1, v2, v3⟩ := H1.whose rfl rfl rfl
  go_wp2_with fail
  refine (mx_own H1).mono ?_
  rintro e w9 ⟨rfl, rfl⟩
  go_wp2_with fail
  refine (rn_store H1 (cellP s.n 0 (s.f.a - 1)) (mxOwn s) (mxOwn_word s)).mono ?_
  rintro e w2 ⟨rfl, H2⟩
  go_wp2_with fail
  refine (rn_wake H2 (cellP s.n 0 (s.f.a - 1))).mono ?_
  rintro e w3 ⟨rfl, H3⟩
  go_wp2_with fail
  refine (rn_go H3 4).mono ?_
  rintro e w4 ⟨rfl, H4⟩
  go_wp2_with fail
  go_ret
  exact ⟨rfl, H4⟩

def mxE4 (s : Rn) : Bool × Rn := ((waitA s.L s.n s.mode s.task s.f.st (cellP s.n 1 s.task) (fun v => v == 0)).done, s.waited (waitA s.L s.n s.mode s.task s.f.st (cellP s.n 1 s.task) (fun v => v == 0)))
set_option maxHeartbeats 800000 in
theorem mx_e4 {S0 : List Nat} {w0 w : World} {m a r : Nat} {rs : List Res} {s : Rn} (H : RunHas S0 w0 m a r rs s w) (tail cls : Int) (hl : s.f.line = 4) (hn : I64 s.n) :
    Calls Try.prog 26 #[.pointer (some ⟨r, 0, none⟩), .int .i64 tail, .int .i64 cls] w fun e w' => e = .returned (.bool (mxE4 s).1) ∧ RunHas S0 w0 m a r rs (mxE4 s).2 w' := by
  obtain ⟨o, hop⟩ : ∃ o, s.f.op = o := ⟨_, rfl⟩
  obtain ⟨z0, z2, z4, z5, z6, z7⟩ := H.facts rfl hl rfl rfl
  obtain ⟨y1, y2, y3⟩ := H.whose rfl rfl rfl
  have HN := Lib.hid hn
  have HH := Lib.hid H
  have HNX := Lib.hid (fun W => mapBlocked s.n s.task W hn)
  have HWT := Lib.hid (fun W (H : RunHas S0 w0 m a r rs s W) => rn_wait H hn (cellP s.n 1 s.task) 79 #[] #[] (fun v => v == 0) (enters_of Try.func79 (by kernel_rfl) rfl) (fun W v h0 h1 H => mx_free v W ⟨h0, h1⟩))
  clear H hn
  unfold mxE4
  (try dsimp only)
  go_enter Try.func26, Try.ntmps26
  go_wp2_with fail
  go_region_held3 (fun w' => w'.cell? ⟨r, 1, none⟩ = some (.int .i64 s.n) ∧ w'.cell? ⟨r, 3, none⟩ = some (.int .i64 s.task) ∧ w'.cell? ⟨r, 6, none⟩ = some (.int .u32 s.f.a))
    (first | with_reducible exact RunHas.sees HH.out | with_reducible exact RunHas.sees HH.out.drew | (refine RunHas.sees (S0 := S0) (w0 := w0) (m := m) (a := a) (rs := rs) (s := s) ?_; with_reducible assumption) | (refine RunHas.sees_did (S0 := S0) (w0 := w0) (m := m) (a := a) (rs := rs) (s := s) (R := (waitA s.L s.n s.mode s.task s.f.st (cellP s.n 1 s.task) (fun v => v == 0))) ?_; with_reducible assumption) | (refine RunHas.sees_wtd (S0 := S0) (w0 := w0) (m := m) (a := a) (rs := rs) (s := s) (R := (waitA s.L s.n s.mode s.task s.f.st (cellP s.n 1 s.task) (fun v => v == 0))) ?_; with_reducible assumption))
    (first | (go_at_call 76; refine (HNX.out _).mono ?_; rintro e w1 ⟨rfl, t1⟩; have H1 := RunHas.grow (by first | with_reducible exact HH.out | with_reducible exact HH.out.drew) t1) | (go_at_call 57; (with_reducible refine (HWT.out _ H1).mono ?_); rintro e w2 ⟨rfl, H2⟩))
  go_wp2_with fail
  go_ret
  exact ⟨rfl, H2⟩

theorem mx_enone {S0 : List Nat} {w0 w : World} {m a r : Nat} {rs : List Res} {s : Rn} (H : RunHas S0 w0 m a r rs s w) (tail cls : Int) {l : Int} (hl : s.f.line = l) (h0 : ¬ l = 0) (h1 : ¬ l = 1) (h2 : ¬ l = 2) (h3 : ¬ l = 3) (h4 : ¬ l = 4) :
    Calls Try.prog 26 #[.pointer (some ⟨r, 0, none⟩), .int .i64 tail, .int .i64 cls] w fun e w' => e = .returned (.bool false) ∧ RunHas S0 w0 m a r rs s w' := by
  obtain ⟨z0, z2, z4, z5, z6, z7⟩ := H.facts rfl hl rfl rfl
  have HH := Lib.hid H
  clear H
  go_enter Try.func26, Try.ntmps26
  go_wp2_with fail
  go_ret
  exact ⟨rfl, HH.out⟩

def mxT0 (s : Rn) : Rn := mxE0 s
set_option maxHeartbeats 800000 in
theorem mx_t0 {S0 : List Nat} {w0 w : World} {m a r : Nat} {rs : List Res} {s : Rn} (H : RunHas S0 w0 m a r rs s w) (tail : Int) {l : Int} (hsub : wrap64 l = 0) (hl : s.f.line = l) (hn : I64 s.n) :
    Calls Try.prog 30 #[.pointer (some ⟨r, 0, none⟩), .int .i64 tail, .int .i64 0] w fun e w' => e = .returned (.tuple #[.bool false, .bool false]) ∧ RunHas S0 w0 m a r rs (mxE0 s) w' := by
  obtain ⟨o, hop⟩ : ∃ o, s.f.op = o := ⟨_, rfl⟩
  obtain ⟨z0, z2, z4, z5, z6, z7⟩ := H.facts rfl hl rfl rfl
  obtain ⟨y1, y2, y3⟩ := H.whose rfl rfl rfl
  have HN := Lib.hid hn
  have HH := Lib.hid H
  have HNX := Lib.hid (fun W => mapNext s.n s.task W hn)
  have HST := Lib.hid (fun W (H : RunHas S0 w0 m a r rs s W) => rn_store H (cellP s.n 0 s.task) 0 (by decide))
  clear H hn
  unfold mxE0
  go_enter Try.func30, Try.ntmps30
  go_wp2_with fail
  go_region_held3 (fun w' => w'.cell? ⟨r, 1, none⟩ = some (.int .i64 s.n) ∧ w'.cell? ⟨r, 3, none⟩ = some (.int .i64 s.task) ∧ w'.cell? ⟨r, 6, none⟩ = some (.int .u32 s.f.a))
    (first | with_reducible exact RunHas.sees HH.out | with_reducible exact RunHas.sees HH.out.drew | (refine RunHas.sees (S0 := S0) (w0 := w0) (m := m) (a := a) (rs := rs) (s := s) ?_; with_reducible assumption) | (refine RunHas.sees_did (S0 := S0) (w0 := w0) (m := m) (a := a) (rs := rs) (s := s) (R := doA s.L ⟨2, cellP s.n 0 s.task, 0, 0, 0⟩) ?_; with_reducible assumption) | (refine RunHas.sees_wtd (S0 := S0) (w0 := w0) (m := m) (a := a) (rs := rs) (s := s) (R := doA s.L ⟨2, cellP s.n 0 s.task, 0, 0, 0⟩) ?_; with_reducible assumption))
    (first | (go_at_call 75; refine (HNX.out _).mono ?_; rintro e w1 ⟨rfl, t1⟩; have H1 := RunHas.grow (by first | with_reducible exact HH.out | with_reducible exact HH.out.drew) t1) | (go_at_call 47; (with_reducible refine (HST.out _ H1).mono ?_); rintro e w2 ⟨rfl, H2⟩))
  go_wp2_with fail
  refine (rn_go H2 1).mono ?_
  rintro e w3 ⟨rfl, H3⟩
  go_wp2_with fail
  refine bodyPost_ret (v := .tuple #[.bool false, .bool false]) (by simp [results, Try.results30, go_sem]) rfl ⟨rfl, ?_⟩
  exact H3

def mxT1 (s : Rn) : Rn := s
set_option maxHeartbeats 800000 in
theorem mx_t1 {S0 : List Nat} {w0 w : World} {m a r : Nat} {rs : List Res} {s : Rn} (H : RunHas S0 w0 m a r rs s w) (tail : Int) {l : Int} (hsub : wrap64 l = 1) (hl : s.f.line = l) (hn : I64 s.n) :
    Calls Try.prog 30 #[.pointer (some ⟨r, 0, none⟩), .int .i64 tail, .int .i64 0] w fun e w' => e = .returned (.tuple #[.bool true, .bool (casB s.L tail 0 (mxOwn s))]) ∧ RunHas S0 w0 m a r rs (s.did (doA s.L ⟨5, tail, 0, mxOwn s, 0⟩)) w' := by
  obtain ⟨o, hop⟩ : ∃ o, s.f.op = o := ⟨_, rfl⟩
  obtain ⟨z0, z2, z4, z5, z6, z7⟩ := H.facts rfl hl rfl rfl
  obtain ⟨y1, y2, y3⟩ := H.whose rfl rfl rfl
  have HN := Lib.hid hn
  have HH := Lib.hid H
  clear H hn
  go_enter Try.func30, Try.ntmps30
  go_wp2_with fail
  refine (mx_own HH.out).mono ?_
  rintro e w9 ⟨rfl, rfl⟩
  go_wp2_with fail
  refine (rn_cas HH.out tail 0 (mxOwn s) (by decide) (mxOwn_word s)).mono ?_
  rintro e w1 ⟨rfl, H1⟩
  go_wp2_with fail
  refine bodyPost_ret (v := .tuple #[.bool true, .bool (casB s.L tail 0 (mxOwn s))]) (by simp [results, Try.results30, go_sem]) rfl ⟨rfl, ?_⟩
  exact H1

theorem mx_tnone {S0 : List Nat} {w0 w : World} {m a r : Nat} {rs : List Res} {s : Rn} (H : RunHas S0 w0 m a r rs s w) (tail : Int) {l : Int} (hl : s.f.line = l) (h0 : ¬ wrap64 l = 0) (h1 : ¬ wrap64 l = 1) :
    Calls Try.prog 30 #[.pointer (some ⟨r, 0, none⟩), .int .i64 tail, .int .i64 0] w fun e w' => e = .returned (.tuple #[.bool false, .bool false]) ∧ RunHas S0 w0 m a r rs s w' := by
  obtain ⟨z0, z2, z4, z5, z6, z7⟩ := H.facts rfl hl rfl rfl
  have HH := Lib.hid H
  clear H
  go_enter Try.func30, Try.ntmps30
  go_wp2_with fail
  refine bodyPost_ret (v := .tuple #[.bool false, .bool false]) (by simp [results, Try.results30, go_sem]) rfl ⟨rfl, ?_⟩
  exact HH.out

/-- A line of who enters. -/
def mxEnter (tail cls : Int) (s : Rn) : Bool × Rn :=
  if s.f.line = 0 then (false, mxE0 s) else if s.f.line = 1 then (false, mxE1 s) else if s.f.line = 2 then mxE2 tail cls s else if s.f.line = 3 then (false, mxE3 s) else if s.f.line = 4 then mxE4 s else (false, s)
theorem mx_enter {S0 : List Nat} {w0 w : World} {m a r : Nat} {rs : List Res} {s : Rn} (H : RunHas S0 w0 m a r rs s w) (tail cls : Int) (hn : I64 s.n) (ha : 0 ≤ s.f.a ∧ s.f.a < 4294967296) (hc : s.notes.length ≤ 900) :
    Calls Try.prog 26 #[.pointer (some ⟨r, 0, none⟩), .int .i64 tail, .int .i64 cls] w fun e w' => e = .returned (.bool (mxEnter tail cls s).1) ∧ RunHas S0 w0 m a r rs (mxEnter tail cls s).2 w' := by
  unfold mxEnter
  split
  · exact mx_e0 H tail cls (by assumption) hn
  split
  · exact mx_e1 H tail cls (by assumption) hn
  split
  · exact mx_e2 H tail cls hc (by assumption) hn
  split
  · exact mx_e3 H tail cls ha (by assumption) hn
  split
  · exact mx_e4 H tail cls (by assumption) hn
  · exact mx_enone H tail cls rfl (by assumption) (by assumption) (by assumption) (by assumption) (by assumption)
/-- A line of who tries: done, in. -/
def mxTry (tail : Int) (s : Rn) : Bool × Bool × Rn :=
  if wrap64 s.f.line = 0 then (false, false, mxE0 s) else if wrap64 s.f.line = 1 then (true, casB s.L tail 0 (mxOwn s), s.did (doA s.L ⟨5, tail, 0, mxOwn s, 0⟩)) else (false, false, s)
theorem mx_try {S0 : List Nat} {w0 w : World} {m a r : Nat} {rs : List Res} {s : Rn} (H : RunHas S0 w0 m a r rs s w) (tail : Int) (hn : I64 s.n) :
    Calls Try.prog 30 #[.pointer (some ⟨r, 0, none⟩), .int .i64 tail, .int .i64 0] w fun e w' => e = .returned (.tuple #[.bool (mxTry tail s).1, .bool (mxTry tail s).2.1]) ∧ RunHas S0 w0 m a r rs (mxTry tail s).2.2 w' := by
  unfold mxTry
  split
  · exact mx_t0 H tail (by assumption) rfl hn
  split
  · exact mx_t1 H tail (by assumption) rfl hn
  · exact mx_tnone H tail rfl (by assumption) (by assumption)

end Go.Proofs.Ytlndihdlodempaa.Z

/- The mutex's game: tasks that enter, are in, and give on: what holds, and stays so. -/
set_option linter.unusedVariables false
set_option linter.unusedSimpArgs false
namespace Go.Proofs.Ytlndihdlodempaa.Z
open Go.RowKit

/-- The game: the tasks (what each holds is its state: 0 enters, 1 is in, 2 gives on, 3 is done and wakes), how often each got in, who is registered and not yet in, who is inside. -/
structure Gm where
  M : Mt
  times : List Int
  order : List Int
  inside : Int

def Gm.st (G : Gm) (k : Nat) : Int := G.M.hold.getD k 0
def Gm.f (G : Gm) (k : Nat) : Fr := G.M.fs.getD k Fr.zero
def fr6 : Fr := ⟨0, 6, 0, 0, 0, Wk.zero, 0⟩
/-- A step of a task. -/
def gmLine (st : Int) (s : Rn) : Bool × Rn := if s.f.wk.on = true then (false, s.woke) else if st = 0 then mxEnter 0 2 s else mxGive 0 6 [8] s
def Gm.step (G : Gm) (k : Nat) : Bool × Rn := gmLine (G.st k) (G.M.run k (G.f k))
def regs (s : Rn) : Bool := s.notes.any (fun x => x.what == 2)
def gmOrder (G : Gm) (k : Nat) (s : Rn) : List Int := if regs s = true then G.order ++ [(k : Int)] else G.order
def gmAfter (G : Gm) (k : Nat) (b : Bool) (s : Rn) : Gm :=
  if b = true ∧ G.st k = 0 then { M := G.M.put k Fr.zero 1 s.L, times := G.times.set k (G.times.getD k 0 + 1), order := (gmOrder G k s).tail, inside := k }
  else if (if b = true then 3 else G.st k) = 3 ∧ s.f.wk.on = false then { M := G.M.put k Fr.zero 0 s.L, times := G.times, order := gmOrder G k s, inside := G.inside }
  else { M := G.M.put k s.f (if b = true then 3 else G.st k) s.L, times := G.times, order := gmOrder G k s, inside := G.inside }
def Gm.pick (G : Gm) (k : Nat) : Gm :=
  if G.st k = 1 then { G with M := G.M.put k fr6 2 G.M.L, inside := -1 } else gmAfter G k (G.step k).1 (G.step k).2
/-- Who gets in is the first one, and nobody else is in. -/
def Gm.good (G : Gm) (k : Nat) : Prop := G.st k ≠ 1 → (G.step k).1 = true → G.st k = 0 → G.inside = -1 ∧ ∃ r, gmOrder G k (G.step k).2 = (k : Int) :: r

/-- Where a task is with the queue. -/
def mkG (st : Int) (f : Fr) : Mk :=
  if st = 1 then .hd else if st = 2 then (if f.line = 6 then .hd else if f.line = 7 then .g1 else if f.line = 8 then .g2 else .g3 f.a)
  else if st = 0 then (if f.line = 0 then .out else if f.line = 1 then .nx else if f.line = 2 then .nb else if f.line = 3 then .e3 f.a else .e4) else .out

structure TkOk (n : Nat) (mode : Int) (m : Nat → Int) (j : Nat) (st : Int) (f : Fr) : Prop where
  shape : (st = 0 ∧ 0 ≤ f.line ∧ f.line ≤ 4) ∨ st = 1 ∨ (st = 2 ∧ 6 ≤ f.line ∧ f.line ≤ 9) ∨ (st = 3 ∧ f.wk.on = true)
  wk : f.wk.on = true → (st = 3 ∨ (st = 0 ∧ f.line = 4)) ∧ 0 ≤ f.wk.i ∧ f.wk.i < n
  st0 : (st = 0 ∧ f.line ≠ 4) ∨ (st = 2 ∧ f.line ≠ 8) → f.st = 0
  w4 : st = 0 → f.line = 4 → stageA mode f.st = 4 → m (8 + n + j) = 0
  w8 : st = 2 → f.line = 8 → stageA mode f.st = 4 → f.a = m (8 + j) ∧ f.a ≠ 0

def nts_ (Q : List Nat) : List Int := Q.map (fun x : Nat => (x : Int))
def Ord (n : Nat) (ks : Nat → Mk) (Q : List Nat) (order : List Int) : Prop :=
  (∀ x r, Q = x :: r → (ks x).turn = true → order = nts_ r) ∧ ((∀ i, i < n → (ks i).turn = false) → order = nts_ Q)
def Ins (n : Nat) (hold : Nat → Int) (inside : Int) : Prop := (inside = -1 ∧ ∀ j, j < n → hold j ≠ 1) ∨ ∃ j, j < n ∧ inside = (j : Int) ∧ hold j = 1

structure GInv (n : Nat) (G : Gm) (Q : List Nat) : Prop where
  num : G.M.n = (n : Int)
  h1 : 1 ≤ n
  h2 : n ≤ 64
  fsl : G.M.fs.length = n
  hol : G.M.hold.length = n
  tml : G.times.length = n
  len : G.M.L.length = 8 + 4 * n
  tk : ∀ j, j < n → TkOk n G.M.mode (mainOf n G.M.L) j (G.st j) (G.f j)
  mx : MxIs n (fun j => mkG (G.st j) (G.f j)) (mainOf n G.M.L 0) (nxOf n (mainOf n G.M.L)) (blOf n (mainOf n G.M.L)) Q
  ord : Ord n (fun j => mkG (G.st j) (G.f j)) Q G.order
  ins : Ins n G.st G.inside

theorem TkOk.mono {n : Nat} {mode : Int} {m m' : Nat → Int} {j : Nat} {st : Int} {f : Fr} (H : TkOk n mode m j st f) (h1 : m (8 + n + j) = 0 → m' (8 + n + j) = 0) (h2 : m (8 + j) ≠ 0 → m' (8 + j) = m (8 + j)) : TkOk n mode m' j st f :=
  ⟨H.shape, H.wk, H.st0, fun a b c => h1 (H.w4 a b c), fun a b c => by
    obtain ⟨k1, k2⟩ := H.w8 a b c
    exact ⟨by rw [h2 (by rw [← k1]; exact k2)]; exact k1, k2⟩⟩

section
variable {n : Nat} {G : Gm} {Q : List Nat} {k : Nat}

theorem st_put {f' : Fr} {s' : Int} {L' : List Int} {t' o' : List Int} {i' : Int} (H : GInv n G Q) (hk : k < n) (j : Nat) : (Gm.mk (G.M.put k f' s' L') t' o' i').st j = if j = k then s' else G.st j := by
  show (G.M.hold.set k s').getD j 0 = _
  rw [getDsetG (by rw [H.hol]; exact hk)]
  by_cases h : k = j
  · rw [if_pos h, if_pos h.symm]
  · rw [if_neg h, if_neg (fun e => h e.symm)]; rfl
theorem f_put {f' : Fr} {s' : Int} {L' : List Int} {t' o' : List Int} {i' : Int} (H : GInv n G Q) (hk : k < n) (j : Nat) : (Gm.mk (G.M.put k f' s' L') t' o' i').f j = if j = k then f' else G.f j := by
  show (G.M.fs.set k f').getD j Fr.zero = _
  rw [getDsetG (by rw [H.fsl]; exact hk)]
  by_cases h : k = j
  · rw [if_pos h, if_pos h.symm]
  · rw [if_neg h, if_neg (fun e => h e.symm)]; rfl

/-- What a task's turn brings. -/
theorem GInv.put (H : GInv n G Q) (hk : k < n) {f' : Fr} {s' : Int} {L' : List Int} {t' o' : List Int} {i' : Int} {Q' : List Nat} {ks' : Nat → Mk} (hL : L'.length = 8 + 4 * n) (ht : t'.length = n)
    (hks : ∀ j, ks' j = if j = k then mkG s' f' else mkG (G.st j) (G.f j))
    (htk : TkOk n G.M.mode (mainOf n L') k s' f') (hoth : ∀ j, j < n → j ≠ k → TkOk n G.M.mode (mainOf n L') j (G.st j) (G.f j))
    (hmx : MxIs n ks' (mainOf n L' 0) (nxOf n (mainOf n L')) (blOf n (mainOf n L')) Q') (hord : Ord n ks' Q' o') (hins : Ins n (fun j => if j = k then s' else G.st j) i') :
    GInv n ⟨G.M.put k f' s' L', t', o', i'⟩ Q' := by
  have e : (fun j => mkG ((Gm.mk (G.M.put k f' s' L') t' o' i').st j) ((Gm.mk (G.M.put k f' s' L') t' o' i').f j)) = ks' := by
    funext j
    rw [st_put H hk, f_put H hk, hks]
    by_cases h : j = k
    · rw [if_pos h, if_pos h, if_pos h]
    · rw [if_neg h, if_neg h, if_neg h]
  refine ⟨H.num, H.h1, H.h2, by show (G.M.fs.set k f').length = n; rw [List.length_set]; exact H.fsl, by show (G.M.hold.set k s').length = n; rw [List.length_set]; exact H.hol, ht, hL, fun j hj => ?_, by rw [e]; exact hmx, by rw [e]; exact hord, ?_⟩
  · rw [st_put H hk, f_put H hk]
    by_cases h : j = k
    · rw [if_pos h, if_pos h, h]; exact htk
    · rw [if_neg h, if_neg h]; exact hoth j hj h
  · have e2 : (Gm.mk (G.M.put k f' s' L') t' o' i').st = fun j => if j = k then s' else G.st j := by funext j; exact st_put H hk j
    rw [e2]
    exact hins

theorem Ins.keep {hold : Nat → Int} {i s' : Int} (H : Ins n hold i) (h0 : hold k ≠ 1) (h1 : s' ≠ 1) : Ins n (fun j => if j = k then s' else hold j) i := by
  rcases H with ⟨h2, h3⟩ | ⟨j, h2, h3, h4⟩
  · refine Or.inl ⟨h2, fun j hj => ?_⟩
    show (if j = k then s' else hold j) ≠ 1
    split
    · exact h1
    · exact h3 j hj
  · refine Or.inr ⟨j, h2, h3, ?_⟩
    show (if j = k then s' else hold j) = 1
    rw [if_neg (by rintro rfl; exact h0 h4)]
    exact h4

/-- Where nobody's turn changes, the order is that of the queue. -/
theorem Ord.same {ks ks' : Nat → Mk} {o : List Int} (H : Ord n ks Q o) (h : ∀ j, (ks' j).turn = (ks j).turn) : Ord n ks' Q o :=
  ⟨fun x r hq ht => H.1 x r hq (by rw [← h]; exact ht), fun ha => H.2 (fun i hi => by rw [← h]; exact ha i hi)⟩

/-- A wait: the words that matter are as they were; it is done if what is waited for is so. -/
theorem waitG {t c : Nat} {L : List Int} {mode st : Int} {p : Int → Bool} (h1 : 1 ≤ n) (h2 : n ≤ 64) (ht : t < n) (hl : L.length = 8 + 4 * n) (hc : c < 8 + 2 * n) :
    mainOf n (waitA L n mode t st c p).words = mainOf n L ∧ (waitA L n mode t st c p).words.length = L.length ∧
    ((waitA L n mode t st c p).done = true → (waitA L n mode t st c p).stage = 0 ∧ ((stageA mode st = 4 ∧ (waitA L n mode t st c p).seen = false) ∨ ((waitA L n mode t st c p).seen = true ∧ p (mainOf n L c) = true ∧ (waitA L n mode t st c p).acc.old = mainOf n L c))) ∧
    ((waitA L n mode t st c p).done = false → ((waitA L n mode t st c p).seen = true → p (mainOf n L c) = true ∧ (waitA L n mode t st c p).acc.old = mainOf n L c) ∧ ((waitA L n mode t st c p).seen = false → stageA mode (waitA L n mode t st c p).stage ≠ 4)) := by
  have hmv : mainOf n L c = L.getD c 0 := by unfold mainOf; rw [if_pos hc]
  have e1 := doA_at (L := L) (kind := 1) (c := (c : Int)) (x := 0) (y := 0) ⟨by omega, by omega⟩
  simp only [if_true, Int.toNat_natCast] at e1
  have e2 : ∀ x, doA L ⟨2, cellP n 2 t, x, 0, 0⟩ = (⟨2, cellP n 2 t, x, 0, L.getD (8 + 2 * n + t) 0⟩, true, L.set (8 + 2 * n + t) x) := fun x => by
    have hcell : cellP n 2 t = ((8 + 2 * n + t : Nat) : Int) := by rw [cell_row h1 h2 (by omega) (by omega)]; omega
    have hn : (cellP n 2 t).toNat = 8 + 2 * n + t := by rw [hcell]; exact Int.toNat_natCast _
    have := doA_at (L := L) (kind := 2) (c := cellP n 2 t) (x := x) (y := 0) (by rw [hcell]; omega)
    rw [hn] at this
    simpa using this
  have e3 : (takeA L n t).2.2 = L ∨ (takeA L n t).2.2 = L.set (8 + 3 * n + t) 0 := by
    unfold takeA
    split
    · right
      have hcell : cellP n 3 t = ((8 + 3 * n + t : Nat) : Int) := by rw [cell_row h1 h2 (by omega) (by omega)]; omega
      have hn : (cellP n 3 t).toNat = 8 + 3 * n + t := by rw [hcell]; exact Int.toNat_natCast _
      have := doA_at (L := L) (kind := 4) (c := cellP n 3 t) (x := 0) (y := 0) (by rw [hcell]; omega)
      rw [hn] at this
      rw [this]
      rfl
    · left; rfl
  have st4 : ∀ x : Int, x ≠ 4 → stageA mode x ≠ 4 := fun x hx => by unfold stageA; split <;> omega
  rw [hmv]
  unfold waitA
  simp only [e1, e2]
  by_cases a1 : stageA mode st = 1
  · simp only [if_pos a1]
    refine ⟨main_far (by omega), by simp, ?_⟩
    simp [st4]
  simp only [if_neg a1]
  by_cases a2 : stageA mode st = 2
  · simp only [if_pos a2]
    refine ⟨trivial, trivial, ?_⟩
    cases hp : p (L.getD c 0) <;> simp [st4]
  simp only [if_neg a2]
  by_cases a3 : stageA mode st = 3
  · simp only [if_pos a3]
    refine ⟨?_, ?_, ?_⟩
    · rcases e3 with h | h
      · rw [h]
      · rw [h]; exact main_far (by omega)
    · rcases e3 with h | h
      · rw [h]
      · rw [h]; simp
    · cases hb : (takeA L n t).2.1 <;> simp [st4]
  simp only [if_neg a3]
  by_cases a4 : stageA mode st = 4
  · simp only [if_pos a4]
    refine ⟨main_far (by omega), by simp, ?_⟩
    simp [a4]
  simp only [if_neg a4]
  refine ⟨trivial, trivial, ?_⟩
  cases hp : p (L.getD c 0)
  · simp only [Bool.false_eq_true, if_false]
    by_cases hm : mode = 2 <;> simp [hm, st4]
    · have := st4 1 (by decide)
      rw [hm] at this
      exact this
  · simp

theorem wakeG {L : List Int} {w : Wk} (h1 : 1 ≤ n) (h2 : n ≤ 64) (hl : L.length = 8 + 4 * n) (hk : w.on = true) (h0 : 0 ≤ w.i) (hi : w.i < n) :
    mainOf n (wakeA L n w).2.2 = mainOf n L ∧ (wakeA L n w).2.2.length = L.length ∧ ((wakeA L n w).1.on = true → 0 ≤ (wakeA L n w).1.i ∧ (wakeA L n w).1.i < n) := by
  have hnx : (nextA n w).on = true → 0 ≤ (nextA n w).i ∧ (nextA n w).i < n := by
    unfold nextA
    split
    · intro h; cases h
    · intro _; constructor <;> simp only <;> omega
  rw [wake_is h1 h2 hl hk h0 hi]
  split
  · exact ⟨main_far (by omega), by simp, hnx⟩
  · refine ⟨rfl, rfl, ?_⟩
    simp only
    split
    · intro _; exact ⟨h0, hi⟩
    · exact hnx
end
end Go.Proofs.Ytlndihdlodempaa.Z

/- The mutex's game: what each line does. -/
set_option linter.unusedVariables false
set_option linter.unusedSimpArgs false
namespace Go.Proofs.Ytlndihdlodempaa.Z
open Go.RowKit

section
variable {n k c : Nat} {mode : Int} {f : Fr} {L : List Int}
theorem cell0G (h1 : 1 ≤ n) (h2 : n ≤ 64) (hk : k < n) : cellP n 0 k = ((8 + k : Nat) : Int) := by rw [cell_row h1 h2 (by omega) (by omega)]; omega
theorem cell1G (h1 : 1 ≤ n) (h2 : n ≤ 64) (hk : k < n) : cellP n 1 k = ((8 + n + k : Nat) : Int) := by rw [cell_row h1 h2 (by omega) (by omega)]; omega
theorem do1 (hc : c < L.length) : doA L ⟨1, (c : Int), 0, 0, 0⟩ = (⟨1, c, 0, 0, L.getD c 0⟩, true, L) := by
  have := doA_at (L := L) (kind := 1) (c := (c : Int)) (x := 0) (y := 0) ⟨by omega, by omega⟩
  simpa using this
theorem do2 {x : Int} (hc : c < L.length) : doA L ⟨2, (c : Int), x, 0, 0⟩ = (⟨2, c, x, 0, L.getD c 0⟩, true, L.set c x) := by
  have := doA_at (L := L) (kind := 2) (c := (c : Int)) (x := x) (y := 0) ⟨by omega, by omega⟩
  simpa using this
theorem do4 {x : Int} (hc : c < L.length) : doA L ⟨4, (c : Int), x, 0, 0⟩ = (⟨4, c, x, 0, L.getD c 0⟩, true, L.set c x) := by
  have := doA_at (L := L) (kind := 4) (c := (c : Int)) (x := x) (y := 0) ⟨by omega, by omega⟩
  simpa using this
theorem do5 {x y : Int} (hc : c < L.length) : doA L ⟨5, (c : Int), x, y, 0⟩ = (⟨5, c, x, y, L.getD c 0⟩, true, if L.getD c 0 = x then L.set c y else L) := by
  have := doA_at (L := L) (kind := 5) (c := (c : Int)) (x := x) (y := y) ⟨by omega, by omega⟩
  simpa using this

/-- A line: is it got, the frame, the notes, the words. -/
def Ln (st : Int) (n k : Nat) (mode : Int) (f : Fr) (L : List Int) (b : Bool) (f' : Fr) (N : List Nt) (L' : List Int) : Prop := ∃ acc, gmLine st ⟨n, mode, k, f, Acc.zero, [], L⟩ = (b, ⟨n, mode, k, f', acc, N, L'⟩)

theorem ownG (hk : k < 64) : ((k : Int) + 1) % 4294967296 = (k : Int) + 1 := by omega
theorem ln_wake (st : Int) (hw : f.wk.on = true) : Ln st n k mode f L false { f with wk := (wakeA L n f.wk).1 } [] (wakeA L n f.wk).2.2 := by
  unfold Ln gmLine
  rw [if_pos hw]
  exact ⟨_, rfl⟩
theorem ln_e0 (h1 : 1 ≤ n) (h2 : n ≤ 64) (hk : k < n) (hl : L.length = 8 + 4 * n) (hw : f.wk.on = false) (hln : f.line = 0) : Ln 0 n k mode f L false { f with line := 1 } [] (L.set (8 + k) 0) := by
  unfold Ln gmLine
  rw [if_neg (by simp [hw]), if_pos rfl]
  unfold mxEnter
  rw [if_pos hln]
  unfold mxE0 Rn.did Rn.goto
  simp only [cell0G h1 h2 hk, do2 (show 8 + k < L.length by omega)]
  exact ⟨_, rfl⟩
theorem ln_e1 (h1 : 1 ≤ n) (h2 : n ≤ 64) (hk : k < n) (hl : L.length = 8 + 4 * n) (hw : f.wk.on = false) (hln : f.line = 1) : Ln 0 n k mode f L false { f with line := 2 } [] (L.set (8 + n + k) 1) := by
  unfold Ln gmLine
  rw [if_neg (by simp [hw]), if_pos rfl]
  unfold mxEnter
  rw [if_neg (by simp [hln]), if_pos hln]
  unfold mxE1 Rn.did Rn.goto
  simp only [cell1G h1 h2 hk, do2 (show 8 + n + k < L.length by omega)]
  exact ⟨_, rfl⟩
theorem ln_e2a (h1 : 1 ≤ n) (h2 : n ≤ 64) (hk : k < n) (hl : L.length = 8 + 4 * n) (hw : f.wk.on = false) (hln : f.line = 2) (hz : L.getD 0 0 = 0) : Ln 0 n k mode f L true { f with a := L.getD 0 0 } [⟨k, 2, 0, 2⟩] (L.set 0 (k + 1)) := by
  unfold Ln gmLine
  rw [if_neg (by simp [hw]), if_pos rfl]
  unfold mxEnter
  rw [if_neg (by simp [hln]), if_neg (by simp [hln]), if_pos hln]
  have hd := do4 (c := 0) (L := L) (x := (k : Int) + 1) (by omega)
  rw [Int.natCast_zero] at hd
  unfold mxE2 mxOwn Rn.did Rn.goto Rn.setA Rn.note
  simp only [ownG (show k < 64 by omega), hd, hz, if_true]
  exact ⟨_, rfl⟩
theorem ln_e2b (h1 : 1 ≤ n) (h2 : n ≤ 64) (hk : k < n) (hl : L.length = 8 + 4 * n) (hw : f.wk.on = false) (hln : f.line = 2) (hz : L.getD 0 0 ≠ 0) : Ln 0 n k mode f L false { f with a := L.getD 0 0, line := 3 } [⟨k, 2, 0, 2⟩] (L.set 0 (k + 1)) := by
  unfold Ln gmLine
  rw [if_neg (by simp [hw]), if_pos rfl]
  unfold mxEnter
  rw [if_neg (by simp [hln]), if_neg (by simp [hln]), if_pos hln]
  have hd := do4 (c := 0) (L := L) (x := (k : Int) + 1) (by omega)
  rw [Int.natCast_zero] at hd
  unfold mxE2 mxOwn Rn.did Rn.goto Rn.setA Rn.note
  simp only [ownG (show k < 64 by omega), hd, if_neg hz]
  exact ⟨_, rfl⟩
theorem ln_e3 {p : Nat} (h1 : 1 ≤ n) (h2 : n ≤ 64) (hk : k < n) (hp : p < n) (hl : L.length = 8 + 4 * n) (hw : f.wk.on = false) (hln : f.line = 3) (ha : f.a = (p : Int) + 1) : Ln 0 n k mode f L false { f with line := 4, wk := beginA mode ((8 + p : Nat) : Int) } [] (L.set (8 + p) (k + 1)) := by
  unfold Ln gmLine
  rw [if_neg (by simp [hw]), if_pos rfl]
  unfold mxEnter
  rw [if_neg (by simp [hln]), if_neg (by simp [hln]), if_neg (by simp [hln]), if_pos hln]
  unfold mxE3 mxOwn Rn.did Rn.goto Rn.wake
  simp only [ha, show (p : Int) + 1 - 1 = p by omega, ownG (show k < 64 by omega), cell0G h1 h2 hp, do2 (show 8 + p < L.length by omega)]
  exact ⟨_, rfl⟩
theorem ln_e4 (h1 : 1 ≤ n) (h2 : n ≤ 64) (hk : k < n) (hw : f.wk.on = false) (hln : f.line = 4) : Ln 0 n k mode f L (waitA L n mode k f.st (8 + n + k : Nat) (fun v => v == 0)).done { f with st := (waitA L n mode k f.st (8 + n + k : Nat) (fun v => v == 0)).stage } [] (waitA L n mode k f.st (8 + n + k : Nat) (fun v => v == 0)).words := by
  unfold Ln gmLine
  rw [if_neg (by simp [hw]), if_pos rfl]
  unfold mxEnter
  rw [if_neg (by simp [hln]), if_neg (by simp [hln]), if_neg (by simp [hln]), if_neg (by simp [hln]), if_pos hln]
  unfold mxE4 Rn.waited
  simp only [cell1G h1 h2 hk]
  exact ⟨_, rfl⟩
theorem give_at (s : Rn) (hw : s.f.wk.on = false) {j : Int} (hl : s.f.line = 6 + j) (hj : 0 ≤ j ∧ j ≤ 3) : gmLine 2 s = if j = 0 then (false, mxG0 6 s) else if j = 1 then mxG1 0 6 [8] s else if j = 2 then (false, mxG2 6 s) else (true, mxG3 [8] s) := by
  unfold gmLine
  rw [if_neg (by simp [hw]), if_neg (by decide)]
  unfold mxGive
  have e : wrap64 (s.f.line - 6) = j := by rw [hl]; unfold wrap64; omega
  rw [e]
  by_cases j0 : j = 0
  · rw [if_pos j0, if_pos j0]
  rw [if_neg j0, if_neg j0]
  by_cases j1 : j = 1
  · rw [if_pos j1, if_pos j1]
  rw [if_neg j1, if_neg j1]
  by_cases j2 : j = 2
  · rw [if_pos j2, if_pos j2]
  rw [if_neg j2, if_neg j2, if_pos (by omega)]
theorem ln_g6a (h1 : 1 ≤ n) (h2 : n ≤ 64) (hk : k < n) (hl : L.length = 8 + 4 * n) (hw : f.wk.on = false) (hln : f.line = 6) (hz : L.getD (8 + k) 0 = 0) : Ln 2 n k mode f L false { f with a := L.getD (8 + k) 0, line := 7 } [] L := by
  unfold Ln
  rw [give_at _ hw (j := 0) hln (by decide), if_pos rfl]
  unfold mxG0 Rn.did Rn.goto Rn.setA
  simp only [cell0G h1 h2 hk, do1 (show 8 + k < L.length by omega), hz, if_true]
  exact ⟨_, rfl⟩
theorem ln_g6b (h1 : 1 ≤ n) (h2 : n ≤ 64) (hk : k < n) (hl : L.length = 8 + 4 * n) (hw : f.wk.on = false) (hln : f.line = 6) (hz : L.getD (8 + k) 0 ≠ 0) : Ln 2 n k mode f L false { f with a := L.getD (8 + k) 0, line := 9 } [] L := by
  unfold Ln
  rw [give_at _ hw (j := 0) hln (by decide), if_pos rfl]
  unfold mxG0 Rn.did Rn.goto Rn.setA
  simp only [cell0G h1 h2 hk, do1 (show 8 + k < L.length by omega), if_neg hz]
  exact ⟨_, rfl⟩
theorem ln_g7a (h1 : 1 ≤ n) (h2 : n ≤ 64) (hk : k < n) (hl : L.length = 8 + 4 * n) (hw : f.wk.on = false) (hln : f.line = 7) (hz : L.getD 0 0 = k + 1) : Ln 2 n k mode f L true f [⟨k, 8, 0, 0⟩] (L.set 0 0) := by
  unfold Ln
  rw [give_at _ hw (j := 1) hln (by decide), if_neg (by decide), if_pos rfl]
  have hd := do5 (c := 0) (L := L) (x := (k : Int) + 1) (y := 0) (by omega)
  rw [Int.natCast_zero] at hd
  unfold mxG1 casB mxOwn Rn.did Rn.noted
  simp only [ownG (show k < 64 by omega), hd, hz, if_true, beq_self_eq_true, Bool.and_self, List.foldl]
  exact ⟨_, rfl⟩
theorem ln_g7b (h1 : 1 ≤ n) (h2 : n ≤ 64) (hk : k < n) (hl : L.length = 8 + 4 * n) (hw : f.wk.on = false) (hln : f.line = 7) (hz : L.getD 0 0 ≠ k + 1) : Ln 2 n k mode f L false { f with line := 8 } [] L := by
  unfold Ln
  rw [give_at _ hw (j := 1) hln (by decide), if_neg (by decide), if_pos rfl]
  have hd := do5 (c := 0) (L := L) (x := (k : Int) + 1) (y := 0) (by omega)
  rw [Int.natCast_zero] at hd
  have hb : (L.getD 0 0 == (k : Int) + 1) = false := by simpa using hz
  unfold mxG1 casB mxOwn Rn.did Rn.goto
  simp only [ownG (show k < 64 by omega), hd, if_neg hz, hb, Bool.and_false, Bool.false_eq_true, if_false]
  exact ⟨_, rfl⟩
theorem ln_g8 (h1 : 1 ≤ n) (h2 : n ≤ 64) (hk : k < n) (hw : f.wk.on = false) (hln : f.line = 8) : ∃ f', f' = ({ f with a := if (waitA L n mode k f.st (8 + k : Nat) (fun v => v != 0)).seen = true then (waitA L n mode k f.st (8 + k : Nat) (fun v => v != 0)).acc.old else f.a, st := (waitA L n mode k f.st (8 + k : Nat) (fun v => v != 0)).stage, line := if (waitA L n mode k f.st (8 + k : Nat) (fun v => v != 0)).done = true then 9 else 8 } : Fr) ∧ Ln 2 n k mode f L false f' [] (waitA L n mode k f.st (8 + k : Nat) (fun v => v != 0)).words := by
  refine ⟨_, rfl, ?_⟩
  unfold Ln
  rw [give_at _ hw (j := 2) hln (by decide), if_neg (by decide), if_neg (by decide), if_pos rfl]
  unfold mxG2 Rn.keep Rn.waited Rn.goto Rn.setA
  simp only [cell0G h1 h2 hk]
  cases (waitA L n mode k f.st (8 + k : Nat) (fun v => v != 0)).seen <;> cases (waitA L n mode k f.st (8 + k : Nat) (fun v => v != 0)).done <;> simp only [if_true, Bool.false_eq_true, if_false] <;> first | exact ⟨_, rfl⟩ | (rw [← hln]; exact ⟨_, rfl⟩)
theorem ln_g9 {y : Nat} (h1 : 1 ≤ n) (h2 : n ≤ 64) (hk : k < n) (hy : y < n) (hl : L.length = 8 + 4 * n) (hw : f.wk.on = false) (hln : f.line = 9) (ha : f.a = (y : Int) + 1) : Ln 2 n k mode f L true { f with wk := beginA mode ((8 + n + y : Nat) : Int) } [⟨k, 8, 0, 0⟩] (L.set (8 + n + y) 0) := by
  unfold Ln
  rw [give_at _ hw (j := 3) hln (by decide), if_neg (by decide), if_neg (by decide), if_neg (by decide)]
  unfold mxG3 Rn.did Rn.noted Rn.wake
  simp only [ha, show (y : Int) + 1 - 1 = y by omega, cell1G h1 h2 hy, do2 (show 8 + n + y < L.length by omega), List.foldl, Rn.note]
  exact ⟨_, rfl⟩
end
end Go.Proofs.Ytlndihdlodempaa.Z

/- The mutex's game: each turn keeps what holds; who gets in is the first one. -/
set_option linter.unusedVariables false
set_option linter.unusedSimpArgs false
namespace Go.Proofs.Ytlndihdlodempaa.Z
open Go.RowKit

section
variable {n k : Nat} {G : Gm} {Q : List Nat} {s : Rn}
theorem pick_go (h1 : G.st k ≠ 1) (hs : G.step k = (false, s)) (h : ¬ (G.st k = 3 ∧ s.f.wk.on = false)) : G.pick k = ⟨G.M.put k s.f (G.st k) s.L, G.times, gmOrder G k s, G.inside⟩ := by
  unfold Gm.pick
  rw [if_neg h1, hs]
  unfold gmAfter
  simp only [Bool.false_eq_true, false_and, if_false]
  rw [if_neg h]
theorem pick_done (hs : G.step k = (false, s)) (h3 : G.st k = 3) (hw : s.f.wk.on = false) : G.pick k = ⟨G.M.put k Fr.zero 0 s.L, G.times, gmOrder G k s, G.inside⟩ := by
  unfold Gm.pick
  rw [if_neg (by omega), hs]
  unfold gmAfter
  simp only [Bool.false_eq_true, false_and, if_false]
  rw [if_pos ⟨h3, hw⟩]
theorem pick_in (hs : G.step k = (true, s)) (h0 : G.st k = 0) : G.pick k = ⟨G.M.put k Fr.zero 1 s.L, G.times.set k (G.times.getD k 0 + 1), (gmOrder G k s).tail, k⟩ := by
  unfold Gm.pick
  rw [if_neg (by omega), hs]
  unfold gmAfter
  rw [if_pos ⟨rfl, h0⟩]
theorem pick_out (hs : G.step k = (true, s)) (h2 : G.st k = 2) (hw : s.f.wk.on = false) : G.pick k = ⟨G.M.put k Fr.zero 0 s.L, G.times, gmOrder G k s, G.inside⟩ := by
  unfold Gm.pick
  rw [if_neg (by omega), hs]
  unfold gmAfter
  rw [if_neg (by simp only; omega), if_pos ⟨rfl, hw⟩]
theorem pick_wakes (hs : G.step k = (true, s)) (h2 : G.st k = 2) (hw : s.f.wk.on = true) : G.pick k = ⟨G.M.put k s.f 3 s.L, G.times, gmOrder G k s, G.inside⟩ := by
  unfold Gm.pick
  rw [if_neg (by omega), hs]
  unfold gmAfter
  rw [if_neg (by simp only; omega), if_neg (by rw [hw]; simp)]
  rfl
theorem good_false (hs : G.step k = (false, s)) : G.good k := fun _ h => by rw [hs] at h; cases h
theorem good_not (h : G.st k ≠ 0) : G.good k := fun _ _ h0 => absurd h0 h
theorem order_no (h : regs s = false) : gmOrder G k s = G.order := by unfold gmOrder; rw [h]; rfl
theorem order_yes (h : regs s = true) : gmOrder G k s = G.order ++ [(k : Int)] := by unfold gmOrder; rw [if_pos h]

theorem step_of {b : Bool} {f' : Fr} {N : List Nt} {L' : List Int} (H : GInv n G Q) (h : Ln (G.st k) n k G.M.mode (G.f k) G.M.L b f' N L') : ∃ acc, G.step k = (b, ⟨n, G.M.mode, k, f', acc, N, L'⟩) := by
  obtain ⟨acc, h⟩ := h
  refine ⟨acc, ?_⟩
  unfold Gm.step Mt.run
  rw [H.num]
  exact h


variable {m : Nat → Int} {p : Nat} {v : Int}
theorem nx_upd_nx (hp : p < n) : nxOf n (upd m (8 + p) v) = fun j => if j = p then v else nxOf n m j := by
  funext j
  unfold nxOf upd
  by_cases h : j = p
  · subst h; simp [hp]
  · rw [if_neg h]
    by_cases hj : j < n
    · rw [if_pos hj, if_pos hj, if_neg (by omega)]
    · rw [if_neg hj, if_neg hj]
theorem bl_upd_nx (hp : p < n) : blOf n (upd m (8 + p) v) = blOf n m := by
  funext j
  unfold blOf upd
  by_cases hj : j < n
  · rw [if_pos hj, if_pos hj, if_neg (by omega)]
  · rw [if_neg hj, if_neg hj]
theorem bl_upd_bl (hp : p < n) : blOf n (upd m (8 + n + p) v) = fun j => if j = p then v else blOf n m j := by
  funext j
  unfold blOf upd
  by_cases h : j = p
  · subst h; simp [hp]
  · rw [if_neg h]
    by_cases hj : j < n
    · rw [if_pos hj, if_pos hj, if_neg (by omega)]
    · rw [if_neg hj, if_neg hj]
theorem nx_upd_bl : nxOf n (upd m (8 + n + p) v) = nxOf n m := by
  funext j
  unfold nxOf upd
  by_cases hj : j < n
  · rw [if_pos hj, if_pos hj, if_neg (by omega)]
  · rw [if_neg hj, if_neg hj]
theorem nx_upd_0 : nxOf n (upd m 0 v) = nxOf n m := by
  funext j
  unfold nxOf upd
  by_cases hj : j < n
  · rw [if_pos hj, if_pos hj, if_neg (by omega)]
  · rw [if_neg hj, if_neg hj]
theorem bl_upd_0 : blOf n (upd m 0 v) = blOf n m := by
  funext j
  unfold blOf upd
  by_cases hj : j < n
  · rw [if_pos hj, if_pos hj, if_neg (by omega)]
  · rw [if_neg hj, if_neg hj]
theorem upd_far {c d : Nat} (h : d ≠ c) : upd m c v d = m d := by unfold upd; rw [if_neg h]
theorem upd_at {c : Nat} : upd m c v c = v := by unfold upd; rw [if_pos rfl]
theorem main_at {L : List Int} {c : Nat} (h : c < 8 + 2 * n) : mainOf n L c = L.getD c 0 := by unfold mainOf; rw [if_pos h]

abbrev KsOf (G : Gm) (k : Nat) (X : Mk) : Nat → Mk := fun j => if j = k then X else mkG (G.st j) (G.f j)
theorem ks_at {X : Mk} : KsOf G k X k = X := if_pos rfl
theorem ks_far {X : Mk} : ∀ j, j ≠ k → KsOf G k X j = mkG (G.st j) (G.f j) := fun j h => if_neg h

/-- Nothing of the queue has changed. -/
theorem GInv.stay (H : GInv n G Q) (hk : k < n) {f' : Fr} {s' : Int} {L' : List Int} (hL : L'.length = 8 + 4 * n) (hm : mainOf n L' = mainOf n G.M.L) (hmk : mkG s' f' = mkG (G.st k) (G.f k)) (htk : TkOk n G.M.mode (mainOf n L') k s' f') (h0 : G.st k ≠ 1) (h1 : s' ≠ 1) :
    GInv n ⟨G.M.put k f' s' L', G.times, G.order, G.inside⟩ Q :=
  H.put hk hL H.tml (ks' := fun j => mkG (G.st j) (G.f j)) (fun j => by
    by_cases h : j = k
    · rw [if_pos h, hmk, h]
    · rw [if_neg h]) htk (fun j hj _ => by rw [hm]; exact H.tk j hj) (by rw [hm]; exact H.mx) H.ord (H.ins.keep h0 h1)

/-- A task that isn't in the queue goes on outside of it. -/
theorem GInv.outs (H : GInv n G Q) (hk : k < n) {f' : Fr} {s' : Int} {L' : List Int} {X : Mk} (hL : L'.length = 8 + 4 * n) (hX : mkG s' f' = X) (h0 : (mkG (G.st k) (G.f k)).inq = false) (hx : X.inq = false)
    (hn : ∀ j, j ≠ k → nxOf n (mainOf n L') j = nxOf n (mainOf n G.M.L) j) (hb : ∀ j, j ≠ k → blOf n (mainOf n L') j = blOf n (mainOf n G.M.L) j) (e : mainOf n L' 0 = mainOf n G.M.L 0)
    (hp : ((X = .nx ∨ X = .nb) → nxOf n (mainOf n L') k = 0) ∧ (X = .nb → blOf n (mainOf n L') k = 1)) (htk : TkOk n G.M.mode (mainOf n L') k s' f') (h1 : G.st k ≠ 1) (h2 : s' ≠ 1) :
    GInv n ⟨G.M.put k f' s' L', G.times, G.order, G.inside⟩ Q := by
  have ht : ∀ Y : Mk, Y.inq = false → Y.turn = false := fun Y h => by cases Y <;> first | rfl | cases h
  refine H.put hk hL H.tml (ks' := KsOf G k X) (fun j => by rw [hX]) htk (fun j hj hjk => (H.tk j hj).mono (fun h => ?_) (fun h => ?_)) (H.mx.outs hk h0 ks_far (by rw [ks_at]; exact hx) hn hb e (by rw [ks_at]; exact hp)) (H.ord.same fun j => ?_) (H.ins.keep h1 h2)
  · have := hb j hjk
    rw [bl_at hj, bl_at hj] at this
    rw [this]; exact h
  · have := hn j hjk
    rw [nx_at hj, nx_at hj] at this
    exact this
  · by_cases h : j = k
    · subst h; rw [ks_at, ht X hx]; exact (ht _ h0).symm
    · rw [ks_far j h]

theorem tlw_one {x : Nat} {r : List Nat} (hn : (x :: r).Nodup) (h : tlw (x :: r) = (x : Int) + 1) : r = [] := by
  cases r with
  | nil => rfl
  | cons y r =>
    exfalso
    obtain ⟨z, h1, h2⟩ := tlw_mem (Q := y :: r) (by simp)
    have h3 : tlw (x :: y :: r) = tlw (y :: r) := rfl
    rw [h3, h2] at h
    have : z = x := by omega
    subst this
    exact (List.nodup_cons.1 hn).1 h1
theorem nts_append (Q : List Nat) (k : Nat) : nts_ (Q ++ [k]) = nts_ Q ++ [(k : Int)] := by simp [nts_]

/-- Who comes in front of all gets in. -/
theorem GInv.heads (H : GInv n G Q) (hk : k < n) {r : List Nat} (hq : Q = k :: r) {f' : Fr} {s' : Int} {L' : List Int} {X : Mk} (hL : L'.length = 8 + 4 * n) (hX : mkG s' f' = X) (hm : mainOf n L' = mainOf n G.M.L)
    (hh : Head (KsOf G k X) (nxOf n (mainOf n G.M.L)) (blOf n (mainOf n G.M.L)) (k :: r)) (hi : X.inq = true) : MxIs n (KsOf G k X) (mainOf n L' 0) (nxOf n (mainOf n L')) (blOf n (mainOf n L')) Q :=
  H.mx.heads hk hq ks_far (by rw [hm]; exact hh) (fun j => by rw [hm]) (fun j => by rw [hm]) (by rw [hm]) (by rw [ks_at]; exact hi)
end
end Go.Proofs.Ytlndihdlodempaa.Z
