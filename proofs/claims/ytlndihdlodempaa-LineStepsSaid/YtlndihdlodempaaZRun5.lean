/- Package line: a step of a run. -/
import Derived.Test.YtlndihdlodempaaZRun4
set_option linter.unusedVariables false
set_option linter.unusedSimpArgs false
namespace Go.Proofs.Ytlndihdlodempaa.Z
open Go.RowKit

def Rn.fresh (s : Rn) : Rn := { s with acc := Acc.zero, notes := [] }
def Rn.over (s : Rn) : Bool := s.f.ret != 0 && !s.f.wk.on
/-- A step of its wake-up was done. -/
def Rn.woke (s : Rn) : Rn := { s with f := { s.f with wk := (wakeA s.L s.n s.f.wk).1 }, acc := (wakeA s.L s.n s.f.wk).2.1, notes := [], L := (wakeA s.L s.n s.f.wk).2.2 }

theorem Has.own_nil {S0 : List Nat} {w0 w : World} {x y : Res} {rs : List Res} (h : Has S0 w0 w (x :: y :: rs)) (e size : Nat) : Has S0 w0 w (x :: y :: .own e size (.slice none 0 0) 0 [] :: rs) := by
  have h1 : Has S0 w0 w (.own e size (.slice none 0 0) 0 [] :: x :: y :: rs) :=
    Has.upd (xs := []) (rs := x :: y :: rs) [.own e size (.slice none 0 0) 0 []] (S := []) h (Touch.refl _ _) (by simp) (by simp [Res.holds]; exact ⟨by simp, .inl ⟨rfl, rfl⟩⟩) (by simp) (by simp [Res.foot, Value.ownBlock])
  exact h1.perm ((List.Perm.swap x _ _).trans (List.Perm.cons x (List.Perm.swap y _ _)))

/-- The old notes are let go. -/
theorem Has.own_drop {S0 : List Nat} {w0 w : World} {x y z : Res} {rs : List Res} (h : Has S0 w0 w (x :: y :: z :: rs)) : Has S0 w0 w (x :: y :: rs) := h.rot3.tail

theorem notNilL (fn : Fn) (first cap : Array Value) (w : World) : Sem.run Try.prog (binOp BinOp.neq 51 (Value.func fn first cap) Value.nilFunc) w = .ok (.bool true) w := by kernel_rfl
theorem isNilL (w : World) : Sem.run Try.prog (binOp BinOp.neq 51 Value.nilFunc Value.nilFunc) w = .ok (.bool false) w := by kernel_rfl

theorem run_step_nil (w : World) (lv : Value) :
    Calls Try.prog 14 #[.pointer none, lv] w fun e w' => e = .returned (.bool false) ∧ Touch [] w w' := by
  go_enter Try.func14, Try.ntmps14
  go_wp2
  go_ret
  exact ⟨rfl, Touch.refl _ _⟩

set_option maxHeartbeats 1600000 in
set_option maxRecDepth 100000 in
theorem run_step_lines {S0 : List Nat} {w0 w : World} {m a r : Nat} {rs rs2 : List Res} {s s2 : Rn} (H : RunHas S0 w0 m a r rs s w) (hoff : s.f.wk.on = false) (fid : FuncId) (first cap : Array Value)
    (eg : ∀ args w, (callFunc fid args).run Try.prog w = .ok (.enter fid args) w)
    (hl : ∀ W, RunHas S0 w0 m a r rs s.fresh W → Calls Try.prog fid (first ++ #[.pointer (some ⟨r, 0, none⟩)] ++ cap) W fun e W' => e = .returned (.tuple #[]) ∧ RunHas S0 w0 m a r rs2 s2 W') :
    Calls Try.prog 14 #[.pointer (some ⟨r, 0, none⟩), .func (.func fid) first cap] w fun e w' => e = .returned (.bool s2.over) ∧ RunHas S0 w0 m a r rs2 s2 w' := by
  obtain ⟨n, mode, task, ⟨op, line, fa, fb, st, ⟨on, wc, wi, hit⟩, ret⟩, ⟨ak, ac, ax, ay, ao⟩, notes, L⟩ := s
  obtain ⟨n', mode', task', ⟨op', line', fa', fb', st', ⟨on', wc', wi', hit'⟩, ret'⟩, ⟨ak', ac', ax', ay', ao'⟩, notes', L'⟩ := s2
  simp only at hoff
  subst hoff
  simp only [RunHas, Rn.fresh, Rn.over, Acc.zero] at H hl ⊢
  obtain ⟨nv, H⟩ := H
  simp only [rcells] at *
  obtain ⟨x0, x1, x2⟩ := H.blk1.own
  have hrun := notNilL (.func fid) first cap
  have HLN := Lib.hid hl
  have HH := Lib.hid H
  clear hl H
  go_enter Try.func14, Try.ntmps14
  go_wp2_with fail
  refine (HLN.out _ ⟨.slice none 0 0, ((((((HH.out.own_drop.set1 14 _).set1 15 _).set1 16 _).set1 17 _).set1 18 _).set1 19 _).own_nil _ _⟩).mono ?_
  rintro e w1 ⟨rfl, nv', H1⟩
  clear x0 x1 x2
  obtain ⟨y0, y1, y2⟩ := H1.blk1.own
  by_cases h0 : ret' = 0
  · subst h0
    go_wp2_with fail
    go_ret
    exact ⟨by simp, nv', H1⟩
  · have h1 : (ret' != 0) = true := by simpa using h0
    clear h0
    cases on' with
    | true =>
      go_wp2_with fail
      go_ret
      exact ⟨by simp, nv', H1⟩
    | false =>
      go_wp2_with fail
      go_ret
      exact ⟨by simp [h1], nv', H1⟩

set_option maxHeartbeats 1600000 in
set_option maxRecDepth 100000 in
theorem run_step_none' {S0 : List Nat} {w0 w : World} {m a r : Nat} {nv : Value} {rs : List Res} {s : Rn} (H : Has S0 w0 w (.mem m a s.L :: .blk r (rcells m s nv) :: rs)) (hoff : s.f.wk.on = false) :
    Calls Try.prog 14 #[.pointer (some ⟨r, 0, none⟩), .nilFunc] w fun e w' => e = .returned (.bool s.fresh.over) ∧ RunHas S0 w0 m a r rs s.fresh w' := by
  obtain ⟨n, mode, task, ⟨op, line, fa, fb, st, ⟨on, wc, wi, hit⟩, ret⟩, ⟨ak, ac, ax, ay, ao⟩, notes, L⟩ := s
  simp only at hoff
  subst hoff
  simp only [RunHas, Rn.fresh, Rn.over, Acc.zero] at H ⊢
  simp only [rcells] at *
  obtain ⟨x0, x1, x2⟩ := H.blk1.own
  have hrun := isNilL
  have HH := Lib.hid H
  clear H
  have HF := Lib.hid (((((((HH.out.set1 14 (.int .i64 0)).set1 15 (.int .i64 0)).set1 16 (.int .u32 0)).set1 17 (.int .u32 0)).set1 18 (.int .u32 0)).set1 19 (.slice none 0 0)).own_nil 98 4)
  by_cases h0 : ret = 0
  · subst h0
    go_enter Try.func14, Try.ntmps14
    go_wp2_with fail
    go_ret
    exact ⟨by simp, _, HF.out⟩
  · have h1 : (ret != 0) = true := by simpa using h0
    clear h0
    go_enter Try.func14, Try.ntmps14
    go_wp2_with fail
    go_ret
    exact ⟨by simp [h1], _, HF.out⟩

theorem run_step_none {S0 : List Nat} {w0 w : World} {m a r : Nat} {rs : List Res} {s : Rn} (H : RunHas S0 w0 m a r rs s w) (hoff : s.f.wk.on = false) :
    Calls Try.prog 14 #[.pointer (some ⟨r, 0, none⟩), .nilFunc] w fun e w' => e = .returned (.bool s.fresh.over) ∧ RunHas S0 w0 m a r rs s.fresh w' := by
  obtain ⟨nv, H⟩ := H
  exact run_step_none' H.own_drop hoff

end Go.Proofs.Ytlndihdlodempaa.Z
