/- Package mutex: its small functions. -/
import Derived.Test.YtlndihdlodempaaZKeep
import Derived.Test.YtlndihdlodempaaZRun7s
import Derived.Test.YtlndihdlodempaaZRun7t
import Derived.Test.YtlndihdlodempaaZFlat5
import Derived.Deep.RegionHeld3
import Derived.Deep.DrawnRows
set_option linter.unusedVariables false
set_option linter.unusedSimpArgs false
namespace Go.Proofs.Ytlndihdlodempaa.Z
open Go.RowKit
attribute [local go_sem ↓] Go.wp_at_zero Go.wp_at_succ

/-- A task's number in the queue. -/
def mxOwn (s : Rn) : Int := (s.task + 1) % 4294967296
theorem mxOwn_word (s : Rn) : 0 ≤ mxOwn s ∧ mxOwn s < 4294967296 := by unfold mxOwn; omega

/-- What the walks of the mutex read. -/
theorem RunHas.sees {S0 : List Nat} {w0 w : World} {m a r : Nat} {rs : List Res} {s : Rn} (H : RunHas S0 w0 m a r rs s w) : w.cell? ⟨r, 1, none⟩ = some (.int .i64 s.n) ∧ w.cell? ⟨r, 3, none⟩ = some (.int .i64 s.task) ∧ w.cell? ⟨r, 6, none⟩ = some (.int .u32 s.f.a) :=
  ⟨(H.whose rfl rfl rfl).1, (H.whose rfl rfl rfl).2.2, (H.facts rfl rfl rfl rfl).2.2.2.2.1⟩
theorem RunHas.sees_did {S0 : List Nat} {w0 w : World} {m a r : Nat} {rs : List Res} {s : Rn} {R : Acc × Bool × List Int} (H : RunHas S0 w0 m a r rs (s.did R) w) : w.cell? ⟨r, 1, none⟩ = some (.int .i64 s.n) ∧ w.cell? ⟨r, 3, none⟩ = some (.int .i64 s.task) ∧ w.cell? ⟨r, 6, none⟩ = some (.int .u32 s.f.a) :=
  ⟨(H.whose rfl rfl rfl).1, (H.whose rfl rfl rfl).2.2, (H.facts rfl rfl rfl rfl).2.2.2.2.1⟩
theorem RunHas.sees_wtd {S0 : List Nat} {w0 w : World} {m a r : Nat} {rs : List Res} {s : Rn} {R : WaitR} (H : RunHas S0 w0 m a r rs (s.waited R) w) : w.cell? ⟨r, 1, none⟩ = some (.int .i64 s.n) ∧ w.cell? ⟨r, 3, none⟩ = some (.int .i64 s.task) ∧ w.cell? ⟨r, 6, none⟩ = some (.int .u32 s.f.a) :=
  ⟨(H.whose rfl rfl rfl).1, (H.whose rfl rfl rfl).2.2, (H.facts rfl rfl rfl rfl).2.2.2.2.1⟩
theorem RunHas.sees_box {S0 : List Nat} {w0 w : World} {m a r : Nat} {rs : List Res} {s : Rn} {b : Nat} (H : RunHas S0 w0 m a r (.blk b #[.pointer (some ⟨r, 4, none⟩)] :: rs) s w) : w.cell? ⟨r, 1, none⟩ = some (.int .i64 s.n) ∧ w.cell? ⟨r, 3, none⟩ = some (.int .i64 s.task) ∧ w.cell? ⟨r, 6, none⟩ = some (.int .u32 s.f.a) ∧ w.cell? ⟨b, 0, none⟩ = some (.pointer (some ⟨r, 4, none⟩)) :=
  ⟨(H.whose rfl rfl rfl).1, (H.whose rfl rfl rfl).2.2, (H.facts rfl rfl rfl rfl).2.2.2.2.1, H.first.own.2.1 0⟩
theorem mx_own {S0 : List Nat} {w0 w : World} {m a r : Nat} {rs : List Res} {s : Rn} (H : RunHas S0 w0 m a r rs s w) :
    Calls Try.prog 77 #[.pointer (some ⟨r, 0, none⟩)] w fun e w' => e = .returned (.int .u32 (mxOwn s)) ∧ w = w' := by
  obtain ⟨y1, y2, y3⟩ := H.whose rfl rfl rfl
  go_enter Try.func77, Try.ntmps77
  go_wp2
  go_ret
  refine ⟨?_, rfl⟩
  show Ending.returned (Value.int .u32 _) = Ending.returned (Value.int .u32 _)
  unfold mxOwn
  have e : wrap64 (s.task + 1) % 4294967296 = (s.task + 1) % 4294967296 := by
    unfold wrap64
    omega
  rw [e]
theorem mx_other (v : Int) (w : World) (hv : 0 ≤ v ∧ v < 4294967296) :
    Calls Try.prog 78 #[.int .u32 v] w fun e w' => e = .returned (.int .i64 (v - 1)) ∧ w = w' := by
  go_enter Try.func78, Try.ntmps78
  go_wp2
  go_ret
  refine ⟨?_, rfl⟩
  go_num
theorem mx_free (v : Int) (w : World) (hv : 0 ≤ v ∧ v < 4294967296) :
    Calls Try.prog 79 #[.int .u32 v] w fun e w' => e = .returned (.bool (v == 0)) ∧ Touch [] w w' := by
  go_enter Try.func79, Try.ntmps79
  go_wp2
  go_ret
  exact ⟨rfl, Touch.refl _ _⟩

theorem RunHas.ne_first {S0 : List Nat} {w0 w : World} {m a r b : Nat} {cs : Array Value} {rs : List Res} {s : Rn} (H : RunHas S0 w0 m a r (.blk b cs :: rs) s w) : r ≠ b := by
  obtain ⟨nv, H⟩ := H
  exact H.ne_at 1 3 rfl rfl (by decide)
theorem RunHas.swap12 {S0 : List Nat} {w0 w : World} {m a r : Nat} {x y : Res} {rs : List Res} {s : Rn} (H : RunHas S0 w0 m a r (x :: y :: rs) s w) : RunHas S0 w0 m a r (y :: x :: rs) s w := by
  obtain ⟨nv, H⟩ := H
  exact ⟨nv, H.perm (((List.Perm.swap y x rs).cons _).cons _ |>.cons _)⟩

set_option maxHeartbeats 800000 in
theorem mx_noted {S0 : List Nat} {w0 w : World} {m a r g n c : Nat} {l : List Int} {rs : List Res} {s : Rn} (H : RunHas S0 w0 m a r (.blk g (i64s l).toArray :: rs) s w) (hn : l.length = n) (hc : s.notes.length + l.length ≤ 1000) :
    Calls Try.prog 83 #[.pointer (some ⟨r, 0, none⟩), .slice (some ⟨g, 0, none⟩) n c] w fun e w' => e = .returned (.tuple #[]) ∧ RunHas S0 w0 m a r (.blk g (i64s l).toArray :: rs) (s.noted l) w' := by
  subst hn
  have hll : l.length ≤ 1000 := by omega
  have HC := Lib.hid hc
  have HH := Lib.hid H
  clear hc H
  go_enter Try.func83, Try.ntmps83
  go_wp2_with fail
  go_loopw [8] (fun i wr => ∃ k : Nat, k ≤ l.length ∧ i = .int .i64 k ∧ RunHas S0 w0 m a r (.blk g (i64s l).toArray :: rs) (s.noted (l.take k)) wr) (fun i _ => l.length - (intOf i).toNat)
  case atStart => exact ⟨0, Nat.zero_le _, rfl, HH.out⟩
  case round =>
    obtain ⟨k, hk, rfl, hH⟩ := hrel
    have HK := Lib.hid hH
    clear hH
    by_cases hlt : k < l.length
    · obtain ⟨b, off, hb, hbl, hcell⟩ := i64s_at (rd_blk HK.out.first) hlt
      simp only [Option.some.injEq, Addr.mk.injEq] at hb
      obtain ⟨rfl, rfl, _⟩ := hb
      obtain ⟨x, hx⟩ : ∃ x, l.getD k 0 = x := ⟨_, rfl⟩
      rw [hx, Nat.zero_add] at hcell
      have HX := Lib.hid hx
      clear hx
      have hi : (k : Int) < (l.length : Int) := by omega
      go_wp2_with fail
      refine (run_note HK.out (by rw [noted_notes]; have := HC.out; simp only [List.length_take]; omega) x 0).mono ?_
      rintro e w1 ⟨rfl, H1⟩
      go_wp2
      go_roundw
      case rel => exact ⟨k + 1, by omega, by go_num, by rw [noted_succ s l k hlt, HX.out]; exact H1⟩
      case measure => simp [intOf]; omega
    · have hkn : k = l.length := by omega
      subst hkn
      have hi : (l.length : Int) ≤ (l.length : Int) := Int.le_refl _
      have H2 := HK.out
      rw [List.take_length] at H2
      clear HK hlt hk
      go_wp2_with fail
      go_end0
      exact ⟨rfl, H2⟩

theorem mx_keeps {m r b : Nat} {nv : Value} {s : Rn} (v : Int) (w : World) (hv : 0 ≤ v ∧ v < 4294967296) (hr : Blk w r (rcells m s nv)) (hb : Blk w b #[.pointer (some ⟨r, 4, none⟩)]) :
    Calls Try.prog 84 #[.int .u32 v, .pointer (some ⟨b, 0, none⟩)] w fun e w' => e = .returned (.bool (v != 0)) ∧ Touch [r] w w' ∧ Blk w' r (rcells m (if v != 0 then s.setA v else s) nv) := by
  obtain ⟨n, mode, task, ⟨op, line, fa, fb, st, ⟨on, wc, wi, hit⟩, ret⟩, ⟨ak, ac, ax, ay, ao⟩, notes, L⟩ := s
  obtain ⟨x0, x1, x2⟩ := hb.own
  cases hcm : v != 0 with
  | true =>
    simp only [rcells, if_true, Rn.setA] at hr ⊢
    obtain ⟨y0, y1, y2⟩ := hr.own
    have HR := Lib.hid hr
    clear hr
    go_enter Try.func84, Try.ntmps84
    go_wp2
    go_ret
    refine ⟨rfl, (Touch.refl _ _).set (by simp) _, ?_⟩
    have := HR.out.set 6 (.int .u32 v)
    simp only [List.setIfInBounds_toArray, List.set_cons_zero, List.set_cons_succ] at this
    exact this
  | false =>
    simp only [rcells, Bool.false_eq_true, if_false] at hr ⊢
    have HR := Lib.hid hr
    clear hr
    go_enter Try.func84, Try.ntmps84
    go_wp2
    go_ret
    exact ⟨rfl, Touch.refl _ _, HR.out⟩

end Go.Proofs.Ytlndihdlodempaa.Z
