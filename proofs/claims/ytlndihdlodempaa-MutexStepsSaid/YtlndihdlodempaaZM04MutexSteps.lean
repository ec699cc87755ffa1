/- 2 texts of this claim, joined: what each shows stands at its own head. -/
import Derived.Test.YtlndihdlodempaaZM03MutexSteps
/- Law 12: the statement MutexSteps: its walk, kind 2. Written by genmxsteps.py. -/
set_option linter.unusedVariables false
set_option linter.unusedSimpArgs false
namespace Go.Proofs.Ytlndihdlodempaa.Z
open Go.RowKit
attribute [local go_sem ↓] Go.wp_at_zero Go.wp_at_succ

set_option maxHeartbeats 3200000 in
set_option maxRecDepth 100000 in
theorem mutexSteps_2 {A B : Option Addr} {ln cp nn cn : Nat} {L nl : List Int} (w : World) (hr : Rd w 1 A ln (u32s L)) (hw : Words L) (hnr : Rd w 1 B nn (i64s nl)) (n mode task : Int) (f : Fr) (kind q cls : Int) (hn : I64 n) (ha : 0 ≤ f.a ∧ f.a < 4294967296) (hb : 0 ≤ f.b ∧ f.b < 4294967296)
    (hn10 : nn ≤ 10) (hq : -1000 ≤ q ∧ q ≤ 1000) (hli : -1000 ≤ f.line ∧ f.line ≤ 1000) (ht : task ≠ 9223372036854775807) (hk : kind ≠ 0 ∧ kind ≠ 1) :
    Calls Try.prog 4 #[.slice A ln cp, .int .i64 n, .int .i64 mode, .int .i64 task, .agg (Fr.cells f), .int .i64 kind, .int .i64 q, .int .i64 cls, .slice B nn cn] w fun e w' => e = .returned (.bool true) ∧ Touch [] w w' := by
  have hl := len_of_rd hr
  subst hl
  have hnl : nl.length = nn := by have := hnr.1; simpa [i64s] using this
  have h1024 := hw.1
  have i1 : ¬ ((1024 : Int) < (L.length : Int)) := by omega
  have i2 : ¬ ((10 : Int) < (nn : Int)) := by omega
  have i3 : ¬ ((1000 : Int) < q) := by omega
  have i4 : ¬ (q < (-1000 : Int)) := by omega
  obtain ⟨op, line, fa, fb, st, ⟨on, wc, wi, hit⟩, ret⟩ := f
  simp only [Fr.cells] at *
  have i5 : ¬ ((1000 : Int) < line) := by omega
  have i6 : ¬ (line < (-1000 : Int)) := by omega
  have i7 : (task == 9223372036854775807) = false := by simpa using ht
  have k0 : (kind == 0) = false := by simpa using hk.1
  have k1 : (kind == 1) = false := by simpa using hk.2
  clear hk
  have HW := Lib.hid hw
  have HN := Lib.hid hn
  have HA := Lib.hid ha
  have HB := Lib.hid hb
  have HQ := Lib.hid hq
  have HLI := Lib.hid hli
  have HNL := Lib.hid hnl
  have HN10 := Lib.hid hn10
  have HNR := Lib.hid hnr
  clear hw hn ha hb hq hli hnl hn10 hnr ht
  go_enter Try.func4, Try.ntmps4
  go_wp2_with fail
  refine (from_has ((Has.start [] w).new1) (hr.touch ((Touch.refl [] _).alloc _) (by simp)) HW.out).mono ?_
  rintro e w1 ⟨m, a, rfl, H1⟩
  obtain ⟨k0', k1', k2'⟩ := H1.blk1.own
  go_wp2_with fail
  refine wp_from (Facts := fun W => RunHas [] w m a w1.heap.size (.blk w.heap.size #[.int .i64 op, .int .i64 line, .int .u32 fa, .int .u32 fb, .int .i64 st, .bool on, .int .i64 wc, .int .i64 wi, .bool hit, .int .i64 ret] :: []) (stepStart n mode task ⟨op, line, fa, fb, st, ⟨on, wc, wi, hit⟩, ret⟩ L) W) ?_ (RunHas.fresh_ (stepStart n mode task ⟨op, line, fa, fb, st, ⟨on, wc, wi, hit⟩, ret⟩ L) H1 rfl 43)
  clear k0' k1' k2' H1
  intro W HR
  generalize w.heap.size = b0 at HR ⊢
  generalize w1.heap.size = r at HR ⊢
  obtain ⟨nv, HR⟩ := HR
  have HR : Has [] w W (.mem m a L :: .blk r (rcells m (stepStart n mode task ⟨op, line, fa, fb, st, ⟨on, wc, wi, hit⟩, ret⟩ L) nv) :: .own 98 4 nv 0 [] :: .blk b0 #[.int .i64 op, .int .i64 line, .int .u32 fa, .int .u32 fb, .int .i64 st, .bool on, .int .i64 wc, .int .i64 wi, .bool hit, .int .i64 ret] :: []) := HR
  have HRD := Lib.hid hr
  clear hr i1 i2 i3 i4 i5 i6 i7
  have hk : ∀ w', Has [] w w' (.mem m a L :: .blk r (rcells m (stepStart n mode task ⟨op, line, fa, fb, st, ⟨on, wc, wi, hit⟩, ret⟩ L) nv) :: .own 98 4 nv 0 [] :: .blk b0 #[.int .i64 op, .int .i64 line, .int .u32 fa, .int .u32 fb, .int .i64 st, .bool on, .int .i64 wc, .int .i64 wi, .bool hit, .int .i64 ret] :: []) → Has [] w w' (.mem m a L :: .blk r (rcells m (stepStart n mode task ⟨op, line, fa, fb, st, ⟨on, wc, wi, hit⟩, ret⟩ L) nv) :: .own 98 4 nv 0 [] :: .blk b0 #[.int .i64 op, .int .i64 line, .int .u32 fa, .int .u32 fb, .int .i64 st, .bool on, .int .i64 wc, .int .i64 wi, .bool hit, .int .i64 ret] :: []) ∧ (∀ i, w'.cell? ⟨b0, i, none⟩ = #[.int .i64 op, .int .i64 line, .int .u32 fa, .int .u32 fb, .int .i64 st, .bool on, .int .i64 wc, .int .i64 wi, .bool hit, .int .i64 ret][i]?) := fun w' h => ⟨h, (Has.at_ h 3 rfl).cell⟩
  have hcopy : ∀ w', Has [] w w' (.mem m a L :: .blk r (rcells m (stepStart n mode task ⟨op, line, fa, fb, st, ⟨on, wc, wi, hit⟩, ret⟩ L) nv) :: .own 98 4 nv 0 [] :: .blk b0 #[.int .i64 op, .int .i64 line, .int .u32 fa, .int .u32 fb, .int .i64 st, .bool on, .int .i64 wc, .int .i64 wi, .bool hit, .int .i64 ret] :: []) → Calls Try.prog 13 #[.slice A L.length cp] w' (HasRow [] w L (.mem m a L :: .blk r (rcells m (stepStart n mode task ⟨op, line, fa, fb, st, ⟨on, wc, wi, hit⟩, ret⟩ L) nv) :: .own 98 4 nv 0 [] :: .blk b0 #[.int .i64 op, .int .i64 line, .int .u32 fa, .int .u32 fb, .int .i64 st, .bool on, .int .i64 wc, .int .i64 wi, .bool hit, .int .i64 ret] :: [])) := fun w' h => copy_has h (HRD.out.touch h.touch (by simp)) HW.out
  go_region_held3 (fun w' => Has [] w w' (.mem m a L :: .blk r (rcells m (stepStart n mode task ⟨op, line, fa, fb, st, ⟨on, wc, wi, hit⟩, ret⟩ L) nv) :: .own 98 4 nv 0 [] :: .blk b0 #[.int .i64 op, .int .i64 line, .int .u32 fa, .int .u32 fb, .int .i64 st, .bool on, .int .i64 wc, .int .i64 wi, .bool hit, .int .i64 ret] :: []) ∧ (∀ i, w'.cell? ⟨b0, i, none⟩ = #[.int .i64 op, .int .i64 line, .int .u32 fa, .int .u32 fb, .int .i64 st, .bool on, .int .i64 wc, .int .i64 wi, .bool hit, .int .i64 ret][i]?))
    (first | (go_split_ands; refine hk _ ?_; first | assumption | exact HR.drew | exact Has.tail (by assumption) | exact (Has.tail (by assumption)).grow ((Touch.refl [] _).alloc _)))
    (first | (go_at_call 13; refine (hcopy _ (by go_split_ands; first | assumption | exact HR.drew)).mono ?_; rintro e w2 ⟨p, g, cap, rfl, H2⟩))
  all_goals
    go_wp2_with fail
    refine calls_from (Facts := fun W => RunHas [] w m a r (.row p g cap L :: .blk w2.heap.size (xcells p cap (stepStart n mode task ⟨op, line, fa, fb, st, ⟨on, wc, wi, hit⟩, ret⟩ L) (.slice none 0 0)) :: .own 98 4 (.slice none 0 0) 0 [] :: .blk b0 #[.int .i64 op, .int .i64 line, .int .u32 fa, .int .u32 fb, .int .i64 st, .bool on, .int .i64 wc, .int .i64 wi, .bool hit, .int .i64 ret] :: []) (stepStart n mode task ⟨op, line, fa, fb, st, ⟨on, wc, wi, hit⟩, ret⟩ L) W) ?_ ⟨nv, six (H2.al1.own_nil _ _)⟩
    clear H2 hk hcopy HR
    intro W2 H4
    generalize w2.heap.size = x at H4 ⊢
    refine (mg_try H4 0 q HQ.out (by have := HLI.out; unfold I64; simp only [stepStart]; omega) HN.out).mono ?_
    rintro e w3 ⟨rfl, nv2, H5⟩
    have H6 : XHas [] w p g cap x _ (stepStart n mode task ⟨op, line, fa, fb, st, ⟨on, wc, wi, hit⟩, ret⟩ L) w3 := ⟨_, six H5⟩
    clear H5 H4
    go_wp2_with fail
    refine (xm_try H6 0 q HQ.out HA.out).mono ?_
    rintro e w4 ⟨rfl, nx2, H9⟩
    clear H6
    have hso := xmTry_notes 0 q (stepStart n mode task ⟨op, line, fa, fb, st, ⟨on, wc, wi, hit⟩, ret⟩ L)
    have hso : (xmTry 0 q (stepStart n mode task ⟨op, line, fa, fb, st, ⟨on, wc, wi, hit⟩, ret⟩ L)).2.2.notes.length ≤ 20 := by rw [hso]; simp [stepStart]
    generalize xmTry 0 q (stepStart n mode task ⟨op, line, fa, fb, st, ⟨on, wc, wi, hit⟩, ret⟩ L) = R at H9 hso ⊢
    obtain ⟨bb, b2, s1⟩ := R
    simp only at H9 hso ⊢
    cases bb <;> cases b2
    all_goals
      go_wp2_with fail
      refine (mx_try_nil _ _).mono ?_
      rintro e w5 ⟨rfl, rfl⟩
      go_wp2_with fail
      refine (mx_enter_nil _ _ _).mono ?_
      rintro e w6 ⟨rfl, rfl⟩
      go_wp2_with fail
      refine (mx_give_nil _ _ _).mono ?_
      rintro e w7 ⟨rfl, rfl⟩
      go_wp2_with fail
      refine wp_from (Facts := fun W => RSKeep w m a r p g cap x s1 nv2 nx2 W) ?_ (drop7 H9)
      clear H9
      intro W3 H9
      obtain ⟨pn, cn_, rfl⟩ := owns_slice (Has.ownAt H9 5 rfl)
      obtain ⟨qn, dn, rfl⟩ := owns_slice (Has.ownAt H9 2 rfl)
      obtain ⟨n', mode', task', ⟨op', line', fa', fb', st', ⟨on', wc', wi', hit'⟩, ret'⟩, ⟨ak, ac, ax, ay, ao⟩, notes', L'⟩ := s1
      have HSO := Lib.hid hso
      clear hso
      refine region_moved 43 4 rfl (by kernel_rfl) (by kernel_rfl) ?_
      simp only [List.take_succ_cons, List.take_zero, List.drop_succ_cons, List.drop_zero, List.cons_append, List.nil_append]
      have HK2 := Lib.hid H9.drew
      obtain ⟨⟨zr0, (zr1 : ∀ i, World.cell? _ ⟨r, i, none⟩ = (#[.pointer (some ⟨m, 0, none⟩), .int .i64 n', .int .i64 mode', .int .i64 task', .int .i64 op', .int .i64 line', .int .u32 fa', .int .u32 fb', .int .i64 st', .bool on', .int .i64 wc', .int .i64 wi', .bool hit', .int .i64 ret', .int .i64 ak, .int .i64 ac, .int .u32 ax, .int .u32 ay, .int .u32 ao, (.slice pn notes'.length cn_)] : Array Value)[i]?)⟩, zx0, (zx1 : ∀ i, World.cell? _ ⟨x, i, none⟩ = (#[.slice p L'.length cap, .int .i64 n', .int .i64 mode', .int .i64 task', .int .i64 op', .int .i64 line', .int .u32 fa', .int .u32 fb', .int .i64 st', .bool on', .int .i64 wc', .int .i64 wi', .bool hit', .int .i64 ret', .int .i64 ak, .int .i64 ac, .int .u32 ax, .int .u32 ay, .int .u32 ao, (.slice qn notes'.length dn)] : Array Value)[i]?)⟩ := rskeep H9.drew
      clear H9
      go_wp2_with fail
      refine (rsnotes HK2.out (by have := HSO.out; simp only at this ⊢; omega)).mono ?_
      rintro e w11 ⟨rfl, H11⟩
      obtain ⟨⟨br0, (br1 : ∀ i, World.cell? _ ⟨r, i, none⟩ = (#[.pointer (some ⟨m, 0, none⟩), .int .i64 n', .int .i64 mode', .int .i64 task', .int .i64 op', .int .i64 line', .int .u32 fa', .int .u32 fb', .int .i64 st', .bool on', .int .i64 wc', .int .i64 wi', .bool hit', .int .i64 ret', .int .i64 ak, .int .i64 ac, .int .u32 ax, .int .u32 ay, .int .u32 ao, (.slice pn notes'.length cn_)] : Array Value)[i]?)⟩, bx0, (bx1 : ∀ i, World.cell? _ ⟨x, i, none⟩ = (#[.slice p L'.length cap, .int .i64 n', .int .i64 mode', .int .i64 task', .int .i64 op', .int .i64 line', .int .u32 fa', .int .u32 fb', .int .i64 st', .bool on', .int .i64 wc', .int .i64 wi', .bool hit', .int .i64 ret', .int .i64 ak, .int .i64 ac, .int .u32 ax, .int .u32 ay, .int .u32 ao, (.slice qn notes'.length dn)] : Array Value)[i]?)⟩ := rskeep H11
      have HK3 := Lib.hid H11
      clear H11
      go_wp2_with fail
      rw [only_normal]
      refine callK_static rfl rfl (enters_of Try.func23 (by kernel_rfl) rfl) (by simp [Act.eval]) (fun W tW => (rsall (HK3.out.grow tW)).mono ?_)
      rintro e w12 ⟨p', cap', rfl, H12, hrd12, t12⟩
      refine ⟨_, rfl, t12, ?_⟩
      obtain ⟨⟨cr0, (cr1 : ∀ i, World.cell? _ ⟨r, i, none⟩ = (#[.pointer (some ⟨m, 0, none⟩), .int .i64 n', .int .i64 mode', .int .i64 task', .int .i64 op', .int .i64 line', .int .u32 fa', .int .u32 fb', .int .i64 st', .bool on', .int .i64 wc', .int .i64 wi', .bool hit', .int .i64 ret', .int .i64 ak, .int .i64 ac, .int .u32 ax, .int .u32 ay, .int .u32 ao, (.slice pn notes'.length cn_)] : Array Value)[i]?)⟩, cx0, (cx1 : ∀ i, World.cell? _ ⟨x, i, none⟩ = (#[.slice p L'.length cap, .int .i64 n', .int .i64 mode', .int .i64 task', .int .i64 op', .int .i64 line', .int .u32 fa', .int .u32 fb', .int .i64 st', .bool on', .int .i64 wc', .int .i64 wi', .bool hit', .int .i64 ret', .int .i64 ak, .int .i64 ac, .int .u32 ax, .int .u32 ay, .int .u32 ao, (.slice qn notes'.length dn)] : Array Value)[i]?)⟩ := rskeep H12
      have HK4 := Lib.hid H12
      have HRD4 := Lib.hid hrd12
      clear H12 hrd12
      go_wp2_with fail
      refine (rssame HK4.out HRD4.out).mono ?_
      rintro e w13 ⟨rfl, H13⟩
      have HK5 := Lib.hid H13
      clear H13
      go_wp2_with fail
      refine (mx_awake w13).mono ?_
      rintro e w14 ⟨rfl, t14⟩
      go_wp2_with fail
      rw [only_normal]
      go_wp2_with fail
      go_ret
      exact ⟨rfl, Has.touch (HK5.out.grow t14)⟩
end Go.Proofs.Ytlndihdlodempaa.Z

/- Law 12: the statement MutexSteps, whatever the input. Written by genmxsteps.py. -/
set_option linter.unusedVariables false
set_option linter.unusedSimpArgs false
namespace Go.Proofs.Ytlndihdlodempaa.Z
open Go.RowKit

set_option maxHeartbeats 3200000 in
set_option maxRecDepth 100000 in
/-- Where the bounds don't hold. -/
theorem mutexSteps_out {A B : Option Addr} {ln cp nn cn : Nat} (w : World) (n mode task : Int) (f : Fr) (kind q cls : Int)
    (h : 1024 < (ln : Int) ∨ (¬ 1024 < (ln : Int) ∧ (10 < (nn : Int) ∨ (¬ 10 < (nn : Int) ∧ (1000 < q ∨ (¬ 1000 < q ∧ (q < -1000 ∨ (¬ q < -1000 ∧ (1000 < f.line ∨ (¬ 1000 < f.line ∧ (f.line < -1000 ∨ (¬ f.line < -1000 ∧ task = 9223372036854775807)))))))))))) :
    Calls Try.prog 4 #[.slice A ln cp, .int .i64 n, .int .i64 mode, .int .i64 task, .agg (Fr.cells f), .int .i64 kind, .int .i64 q, .int .i64 cls, .slice B nn cn] w fun e w' => e = .returned (.bool true) ∧ Touch [] w w' := by
  obtain ⟨op, line, fa, fb, st, ⟨on, wc, wi, hit⟩, ret⟩ := f
  simp only [Fr.cells]
  simp only at h
  rcases h with h1 | ⟨h1, h2 | ⟨h2, h3 | ⟨h3, h4 | ⟨h4, h5 | ⟨h5, h6 | ⟨h6, rfl⟩⟩⟩⟩⟩⟩
  all_goals
    go_enter Try.func4, Try.ntmps4
    go_wp2_with (go_at_call 25; refine (mx_awake _).mono ?_; rintro e w9 ⟨rfl, t9⟩)
    go_ret
    exact ⟨rfl, ((Touch.refl [] w).alloc _).trans t9⟩

theorem i64s_flatMap (L : List Int) : (L.flatMap fun x => [Value.int .i64 x]) = i64s L := by
  unfold i64s
  induction L with
  | nil => rfl
  | cons x l ih => rw [List.flatMap_cons, ih]; rfl

/-- WHATEVER THE INPUT. -/
theorem mutexSteps_any {A B : Option Addr} {ln cp nn cn : Nat} {L nl : List Int} (w : World) (hr : Rd w 1 A ln (L.flatMap fun x => [Value.int .u32 x])) (hL : ∀ x, x ∈ L → 0 ≤ x ∧ x < 4294967296) (n mode task : Int) (f : Fr) (hf : FrOk f) (kind q cls : Int) (hn : I64 n) (hnr : Rd w 1 B nn (nl.flatMap fun x => [Value.int .i64 x])) :
    Calls Try.prog 4 #[.slice A ln cp, .int .i64 n, .int .i64 mode, .int .i64 task, .agg (Fr.cells f), .int .i64 kind, .int .i64 q, .int .i64 cls, .slice B nn cn] w fun e w' => e = .returned (.bool true) ∧ Touch [] w w' := by
  have hr' : Rd w 1 A ln (u32s L) := by
    rw [← u32s_flatMap]
    exact hr
  rw [i64s_flatMap] at hnr
  by_cases h : 1024 < (ln : Int) ∨ (¬ 1024 < (ln : Int) ∧ (10 < (nn : Int) ∨ (¬ 10 < (nn : Int) ∧ (1000 < q ∨ (¬ 1000 < q ∧ (q < -1000 ∨ (¬ q < -1000 ∧ (1000 < f.line ∨ (¬ 1000 < f.line ∧ (f.line < -1000 ∨ (¬ f.line < -1000 ∧ task = 9223372036854775807)))))))))))
  · exact mutexSteps_out w n mode task f kind q cls h
  · have hw : Words L := ⟨by have := len_of_rd hr'; omega, hL⟩
    by_cases k0 : kind = 0
    · exact mutexSteps_0 w hr' hw hnr n mode task f kind q cls hn hf.1 hf.2 (by omega) (by omega) (by omega) (by omega) k0
    by_cases k1 : kind = 1
    · exact mutexSteps_1 w hr' hw hnr n mode task f kind q cls hn hf.1 hf.2 (by omega) (by omega) (by omega) (by omega) k1
    · exact mutexSteps_2 w hr' hw hnr n mode task f kind q cls hn hf.1 hf.2 (by omega) (by omega) (by omega) (by omega) ⟨k0, k1⟩

end Go.Proofs.Ytlndihdlodempaa.Z
