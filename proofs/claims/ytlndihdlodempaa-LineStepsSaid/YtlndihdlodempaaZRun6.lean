/- Package line: a step of a run whose wake-up is on. -/
import Derived.Test.YtlndihdlodempaaZRun5
set_option linter.unusedVariables false
set_option linter.unusedSimpArgs false
namespace Go.Proofs.Ytlndihdlodempaa.Z
open Go.RowKit

set_option maxHeartbeats 1600000 in
set_option maxRecDepth 100000 in
theorem run_step_wake {S0 : List Nat} {w0 w : World} {m a r : Nat} {rs : List Res} {s : Rn} (H : RunHas S0 w0 m a r rs s w) (hon : s.f.wk.on = true) (hn : I64 s.n) (lv : Value) :
    Calls Try.prog 14 #[.pointer (some ⟨r, 0, none⟩), lv] w fun e w' => e = .returned (.bool s.woke.over) ∧ RunHas S0 w0 m a r rs s.woke w' := by
  obtain ⟨n, mode, task, ⟨op, line, fa, fb, st, wk, ret⟩, ⟨ak, ac, ax, ay, ao⟩, notes, L⟩ := s
  simp only [RunHas, Rn.woke, Rn.over, Acc.zero] at H hon hn ⊢
  have hd := fun W rs (H : Has S0 w0 W (.mem m a L :: rs)) => wake_any H n hn wk
  generalize wakeA L n wk = R at hd ⊢
  obtain ⟨⟨on', wc', wi', hit'⟩, ⟨rk, rc, rx, ry, ro⟩, L2⟩ := R
  obtain ⟨on, wc, wi, hit⟩ := wk
  simp only at hon
  subst hon
  obtain ⟨nv, H⟩ := H
  simp only [rcells, Wk.cells, Acc.cells] at *
  obtain ⟨x0, x1, x2⟩ := H.blk1.own
  have HD := Lib.hid hd
  have HH := Lib.hid H
  clear hd H
  go_enter Try.func14, Try.ntmps14
  go_wp2_with fail
  refine region_flat (by kernel_rfl) (by kernel_rfl) ?_
  simp only [probed, probes, List.nil_append]
  go_wp2_with fail
  refine (HD.out _ _ (((((((HH.out.own_drop.set1 14 _).set1 15 _).set1 16 _).set1 17 _).set1 18 _).set1 19 _).own_nil 98 4).drew).mono ?_
  rintro e w1 ⟨rfl, H1⟩
  clear x0 x1 x2
  obtain ⟨y0, y1, y2⟩ := H1.blk1.own
  go_wp2_with fail
  rw [only_normal]
  rename_i hK
  simp only [Exit.inBlock, Exit.then]
  refine hK _ _ ?_
  clear hK
  refine wp_from (Facts := fun W => Has S0 w0 W (.mem m a L2 :: .blk r #[.pointer (some ⟨m, 0, none⟩), .int .i64 n, .int .i64 mode, .int .i64 task, .int .i64 op, .int .i64 line, .int .u32 fa, .int .u32 fb, .int .i64 st, .bool on', .int .i64 wc', .int .i64 wi', .bool hit', .int .i64 ret, .int .i64 rk, .int .i64 rc, .int .u32 rx, .int .u32 ry, .int .u32 ro, .slice none 0 0] :: .own 98 4 (.slice none 0 0) 0 [] :: rs)) ?_
    (by have H2 := (((((((((H1.set1 9 (.bool on')).set1 10 (.int .i64 wc')).set1 11 (.int .i64 wi')).set1 12 (.bool hit')).set1 14 (.int .i64 rk)).set1 15 (.int .i64 rc)).set1 16 (.int .u32 rx)).set1 17 (.int .u32 ry)).set1 18 (.int .u32 ro)); simp only [List.setIfInBounds_toArray, List.set_cons_zero, List.set_cons_succ] at H2; exact H2)
  intro W HW
  clear y0 y1 y2 H1
  obtain ⟨y0, y1, y2⟩ := HW.blk1.own
  by_cases h0 : ret = 0
  · subst h0
    go_wp2_with fail
    go_ret
    exact ⟨by simp, .slice none 0 0, HW⟩
  · have h1 : (ret != 0) = true := by simpa using h0
    clear h0
    cases on' with
    | true =>
      go_wp2_with fail
      go_ret
      exact ⟨by simp, .slice none 0 0, HW⟩
    | false =>
      go_wp2_with fail
      go_ret
      exact ⟨by simp [h1], .slice none 0 0, HW⟩

end Go.Proofs.Ytlndihdlodempaa.Z
