/- 2 texts of this claim, joined: what each shows stands at its own head. -/
import Derived.Test.YtlndihdlodempaaZM01RfSteps
import Derived.Test.YtlndihdlodempaaZHas3
import Derived.Test.YtlndihdlodempaaZM00RfSteps
/- Law 15: the document's example. Written by genlaw.py. -/
set_option linter.unusedVariables false
set_option linter.unusedSimpArgs false
namespace Go.Proofs.Ytlndihdlodempaa.Z
open Go.RowKit

theorem rf_awake_pure : (aloneA rfA 1 (start 1 1 1 (own5 5 ++ List.replicate ((8 + 4 * (1 : Int)).toNat - 1) 0))).1 = 2 ∧ ldA (aloneA rfA 1 (start 1 1 1 (own5 5 ++ List.replicate ((8 + 4 * (1 : Int)).toNat - 1) 0))).2.L 0 = 1 := by
  decide +kernel

set_option maxHeartbeats 1600000 in
theorem rf_awake (w : World) : Calls Try.prog 33 #[] w fun e w' => e = .returned (.bool true) ∧ Touch [] w w' := by
  have hp := rf_awake_pure
  have hf := fun W => first5 1 5 W (by decide) (by decide)
  generalize hL : own5 5 ++ List.replicate ((8 + 4 * (1 : Int)).toNat - 1) 0 = L at hf hp
  have HF := Lib.hid hf
  clear hf hL
  go_enter Try.func33, Try.ntmps33
  go_wp2_with fail
  refine (HF.out _).mono ?_
  rintro e w1 h1
  obtain ⟨p, g, cap, rfl, H1⟩ := has_newwords (Has.start [] w) h1
  clear h1
  go_wp2_with fail
  refine (fromRow_has H1 rfl).mono ?_
  rintro e w2 ⟨m, a, rfl, H2⟩
  clear H1
  go_wp2_with fail
  refine (rf_alone H2 1 1 1 (by unfold I64; decide) 1 (by decide)).mono ?_
  rintro e w3 ⟨v, he, H3⟩
  generalize aloneA rfA 1 (start 1 1 1 L) = R at hp he H3
  obtain ⟨r1, s3⟩ := R
  obtain ⟨rfl, hp2⟩ := hp
  simp only at he H3 hp2
  subst he
  clear H2
  have hld := fun W (H : Has [] w W (.mem m a s3.L :: .row p g cap L :: [])) => load_has H 0
  rw [hp2] at hld
  have HLD := Lib.hid hld
  clear hld hp2
  go_wp2_with fail
  refine (HLD.out _ H3).mono ?_
  rintro e w4 ⟨rfl, H4⟩
  go_wp2_with fail
  go_ret
  exact ⟨by simp, H4.touch⟩

end Go.Proofs.Ytlndihdlodempaa.Z

/- Law 15: the statement RfSteps: its walk. Written by gensteps.py. -/
set_option linter.unusedVariables false
set_option linter.unusedSimpArgs false
namespace Go.Proofs.Ytlndihdlodempaa.Z
open Go.RowKit
attribute [local go_sem ↓] Go.wp_at_zero Go.wp_at_succ

set_option maxHeartbeats 3200000 in
set_option maxRecDepth 100000 in
theorem rfSteps_some {A : Option Addr} {ln cp : Nat} {L : List Int} (w : World) (hr : Rd w 1 A ln (u32s L)) (hw : Words L) (n mode task : Int) (f : Fr) (hn : I64 n) (ha : 0 ≤ f.a ∧ f.a < 4294967296) (hb : 0 ≤ f.b ∧ f.b < 4294967296) :
    Calls Try.prog 7 #[.slice A ln cp, .int .i64 n, .int .i64 mode, .int .i64 task, .agg (Fr.cells f)] w fun e w' => e = .returned (.bool true) ∧ Touch [] w w' := by
  have hl := len_of_rd hr
  subst hl
  have h1024 := hw.1
  have i1 : ¬ ((1024 : Int) < (L.length : Int)) := by omega
  obtain ⟨op, line, fa, fb, st, ⟨on, wc, wi, hit⟩, ret⟩ := f
  simp only [Fr.cells] at *
  have HW := Lib.hid hw
  have HN := Lib.hid hn
  have HA := Lib.hid ha
  have HB := Lib.hid hb
  clear hw hn ha hb
  go_enter Try.func7, Try.ntmps7
  go_wp2_with fail
  refine (from_has ((Has.start [] w).new1) (hr.touch ((Touch.refl [] _).alloc _) (by simp)) HW.out).mono ?_
  rintro e w1 ⟨m, a, rfl, H1⟩
  obtain ⟨k0, k1, k2⟩ := H1.blk1.own
  go_wp2_with fail
  refine wp_from (Facts := fun W => RunHas [] w m a w1.heap.size (.blk w.heap.size #[.int .i64 op, .int .i64 line, .int .u32 fa, .int .u32 fb, .int .i64 st, .bool on, .int .i64 wc, .int .i64 wi, .bool hit, .int .i64 ret] :: []) (stepStart n mode task ⟨op, line, fa, fb, st, ⟨on, wc, wi, hit⟩, ret⟩ L) W) ?_ (RunHas.fresh_ (stepStart n mode task ⟨op, line, fa, fb, st, ⟨on, wc, wi, hit⟩, ret⟩ L) H1 rfl 43)
  clear k0 k1 k2 H1
  intro W HR
  generalize w.heap.size = b0 at HR ⊢
  generalize w1.heap.size = r at HR ⊢
  obtain ⟨nv, HR⟩ := HR
  have HR : Has [] w W (.mem m a L :: .blk r (rcells m (stepStart n mode task ⟨op, line, fa, fb, st, ⟨on, wc, wi, hit⟩, ret⟩ L) nv) :: .own 98 4 nv 0 [] :: .blk b0 #[.int .i64 op, .int .i64 line, .int .u32 fa, .int .u32 fb, .int .i64 st, .bool on, .int .i64 wc, .int .i64 wi, .bool hit, .int .i64 ret] :: []) := HR
  have HRD := Lib.hid hr
  clear hr
  have hk : ∀ w', Has [] w w' (.mem m a L :: .blk r (rcells m (stepStart n mode task ⟨op, line, fa, fb, st, ⟨on, wc, wi, hit⟩, ret⟩ L) nv) :: .own 98 4 nv 0 [] :: .blk b0 #[.int .i64 op, .int .i64 line, .int .u32 fa, .int .u32 fb, .int .i64 st, .bool on, .int .i64 wc, .int .i64 wi, .bool hit, .int .i64 ret] :: []) → Has [] w w' (.mem m a L :: .blk r (rcells m (stepStart n mode task ⟨op, line, fa, fb, st, ⟨on, wc, wi, hit⟩, ret⟩ L) nv) :: .own 98 4 nv 0 [] :: .blk b0 #[.int .i64 op, .int .i64 line, .int .u32 fa, .int .u32 fb, .int .i64 st, .bool on, .int .i64 wc, .int .i64 wi, .bool hit, .int .i64 ret] :: []) ∧ (∀ i, w'.cell? ⟨b0, i, none⟩ = #[.int .i64 op, .int .i64 line, .int .u32 fa, .int .u32 fb, .int .i64 st, .bool on, .int .i64 wc, .int .i64 wi, .bool hit, .int .i64 ret][i]?) := fun w' h => ⟨h, (Has.at_ h 3 rfl).cell⟩
  have hcopy : ∀ w', Has [] w w' (.mem m a L :: .blk r (rcells m (stepStart n mode task ⟨op, line, fa, fb, st, ⟨on, wc, wi, hit⟩, ret⟩ L) nv) :: .own 98 4 nv 0 [] :: .blk b0 #[.int .i64 op, .int .i64 line, .int .u32 fa, .int .u32 fb, .int .i64 st, .bool on, .int .i64 wc, .int .i64 wi, .bool hit, .int .i64 ret] :: []) → Calls Try.prog 13 #[.slice A L.length cp] w' (HasRow [] w L (.mem m a L :: .blk r (rcells m (stepStart n mode task ⟨op, line, fa, fb, st, ⟨on, wc, wi, hit⟩, ret⟩ L) nv) :: .own 98 4 nv 0 [] :: .blk b0 #[.int .i64 op, .int .i64 line, .int .u32 fa, .int .u32 fb, .int .i64 st, .bool on, .int .i64 wc, .int .i64 wi, .bool hit, .int .i64 ret] :: [])) := fun w' h => copy_has h (HRD.out.touch h.touch (by simp)) HW.out
  go_region_held3 (fun w' => Has [] w w' (.mem m a L :: .blk r (rcells m (stepStart n mode task ⟨op, line, fa, fb, st, ⟨on, wc, wi, hit⟩, ret⟩ L) nv) :: .own 98 4 nv 0 [] :: .blk b0 #[.int .i64 op, .int .i64 line, .int .u32 fa, .int .u32 fb, .int .i64 st, .bool on, .int .i64 wc, .int .i64 wi, .bool hit, .int .i64 ret] :: []) ∧ (∀ i, w'.cell? ⟨b0, i, none⟩ = #[.int .i64 op, .int .i64 line, .int .u32 fa, .int .u32 fb, .int .i64 st, .bool on, .int .i64 wc, .int .i64 wi, .bool hit, .int .i64 ret][i]?))
    (first | (go_split_ands; refine hk _ ?_; first | assumption | exact HR.drew | exact Has.tail (by assumption) | exact (Has.tail (by assumption)).grow ((Touch.refl [] _).alloc _)))
    (first | (go_at_call 13; refine (hcopy _ (by go_split_ands; first | assumption | exact HR.drew)).mono ?_; rintro e w2 ⟨p, g, cap, rfl, H2⟩))
  all_goals
    go_wp2_with fail
    refine calls_from (Facts := fun W => RunHas [] w m a r (.row p g cap L :: .blk w2.heap.size (xcells p cap (stepStart n mode task ⟨op, line, fa, fb, st, ⟨on, wc, wi, hit⟩, ret⟩ L) (.slice none 0 0)) :: .own 98 4 (.slice none 0 0) 0 [] :: .blk b0 #[.int .i64 op, .int .i64 line, .int .u32 fa, .int .u32 fb, .int .i64 st, .bool on, .int .i64 wc, .int .i64 wi, .bool hit, .int .i64 ret] :: []) (stepStart n mode task ⟨op, line, fa, fb, st, ⟨on, wc, wi, hit⟩, ret⟩ L) W) ?_ ⟨nv, six (H2.al1.own_nil _ _)⟩
    clear H2 hk hcopy HR
    intro W2 H4
    generalize w2.heap.size = x at H4 ⊢
    refine (rf_stepR H4 ⟨HN.out, HA.out, HB.out⟩).mono ?_
    rintro e w3 ⟨rfl, nv2, H5⟩
    have H6 : XHas [] w p g cap x _ (stepStart n mode task ⟨op, line, fa, fb, st, ⟨on, wc, wi, hit⟩, ret⟩ L) w3 := ⟨_, six H5⟩
    clear H5 H4
    go_wp2_with fail
    cases on with
    | true =>
      have e1 : stepR rfA (stepStart n mode task ⟨op, line, fa, fb, st, ⟨true, wc, wi, hit⟩, ret⟩ L) = (stepStart n mode task ⟨op, line, fa, fb, st, ⟨true, wc, wi, hit⟩, ret⟩ L).woke := by unfold stepR; rfl
      refine (xn_waking_on H6 rfl).mono ?_
      rw [← e1]
      rintro e w4 ⟨rfl, H7⟩
      clear H6 e1
      go_wp2_with fail
      refine (rf_lines_nil _).mono ?_
      rintro e w6 ⟨rfl, t6⟩
      obtain ⟨nx2, H9⟩ := H7.grow t6
      clear H7 t6
      have hso := (rf_stepok (s := (stepStart n mode task ⟨op, line, fa, fb, st, ⟨true, wc, wi, hit⟩, ret⟩ L)) HW.out ⟨HN.out, HA.out, HB.out⟩).2
      generalize stepR rfA (stepStart n mode task ⟨op, line, fa, fb, st, ⟨true, wc, wi, hit⟩, ret⟩ L) = s1 at H9 hso ⊢
      go_wp2_with fail
      refine wp_from (Facts := fun W => RSKeep w m a r p g cap x s1 nv2 nx2 W) ?_ (drop7 H9)
      clear H9
      intro W3 H9
      obtain ⟨pn, cn, rfl⟩ := owns_slice (Has.ownAt H9 5 rfl)
      obtain ⟨qn, dn, rfl⟩ := owns_slice (Has.ownAt H9 2 rfl)
      obtain ⟨ob, hob⟩ : ∃ ob, s1.over = ob := ⟨_, rfl⟩
      rw [hob]
      obtain ⟨n', mode', task', ⟨op', line', fa', fb', st', ⟨on', wc', wi', hit'⟩, ret'⟩, ⟨ak, ac, ax, ay, ao⟩, notes', L'⟩ := s1
      have HSO := Lib.hid hso
      have HOB := Lib.hid hob
      clear hso hob
      refine region_moved 39 4 rfl (by kernel_rfl) (by kernel_rfl) ?_
      simp only [List.take_succ_cons, List.take_zero, List.drop_succ_cons, List.drop_zero, List.cons_append, List.nil_append]
      have HK := Lib.hid H9.drew
      obtain ⟨⟨zr0, (zr1 : ∀ i, World.cell? _ ⟨r, i, none⟩ = (#[.pointer (some ⟨m, 0, none⟩), .int .i64 n', .int .i64 mode', .int .i64 task', .int .i64 op', .int .i64 line', .int .u32 fa', .int .u32 fb', .int .i64 st', .bool on', .int .i64 wc', .int .i64 wi', .bool hit', .int .i64 ret', .int .i64 ak, .int .i64 ac, .int .u32 ax, .int .u32 ay, .int .u32 ao, (.slice pn notes'.length cn)] : Array Value)[i]?)⟩, zx0, (zx1 : ∀ i, World.cell? _ ⟨x, i, none⟩ = (#[.slice p L'.length cap, .int .i64 n', .int .i64 mode', .int .i64 task', .int .i64 op', .int .i64 line', .int .u32 fa', .int .u32 fb', .int .i64 st', .bool on', .int .i64 wc', .int .i64 wi', .bool hit', .int .i64 ret', .int .i64 ak, .int .i64 ac, .int .u32 ax, .int .u32 ay, .int .u32 ao, (.slice qn notes'.length dn)] : Array Value)[i]?)⟩ := rskeep H9.drew
      clear H9
      go_wp2_with fail
      refine (rsover HK.out).mono ?_
      rintro e w10 ⟨rfl, H10⟩
      obtain ⟨⟨ar0, (ar1 : ∀ i, World.cell? _ ⟨r, i, none⟩ = (#[.pointer (some ⟨m, 0, none⟩), .int .i64 n', .int .i64 mode', .int .i64 task', .int .i64 op', .int .i64 line', .int .u32 fa', .int .u32 fb', .int .i64 st', .bool on', .int .i64 wc', .int .i64 wi', .bool hit', .int .i64 ret', .int .i64 ak, .int .i64 ac, .int .u32 ax, .int .u32 ay, .int .u32 ao, (.slice pn notes'.length cn)] : Array Value)[i]?)⟩, ax0, (ax1 : ∀ i, World.cell? _ ⟨x, i, none⟩ = (#[.slice p L'.length cap, .int .i64 n', .int .i64 mode', .int .i64 task', .int .i64 op', .int .i64 line', .int .u32 fa', .int .u32 fb', .int .i64 st', .bool on', .int .i64 wc', .int .i64 wi', .bool hit', .int .i64 ret', .int .i64 ak, .int .i64 ac, .int .u32 ax, .int .u32 ay, .int .u32 ao, (.slice qn notes'.length dn)] : Array Value)[i]?)⟩ := rskeep H10
      have HK2 := Lib.hid H10
      clear H10
      rw [HOB.out]
      cases ob <;>
        (go_wp2_with fail
         refine (rsnotes HK2.out (by have := HSO.out; simp only at this ⊢; omega)).mono ?_
         rintro e w11 ⟨rfl, H11⟩
         obtain ⟨⟨br0, (br1 : ∀ i, World.cell? _ ⟨r, i, none⟩ = (#[.pointer (some ⟨m, 0, none⟩), .int .i64 n', .int .i64 mode', .int .i64 task', .int .i64 op', .int .i64 line', .int .u32 fa', .int .u32 fb', .int .i64 st', .bool on', .int .i64 wc', .int .i64 wi', .bool hit', .int .i64 ret', .int .i64 ak, .int .i64 ac, .int .u32 ax, .int .u32 ay, .int .u32 ao, (.slice pn notes'.length cn)] : Array Value)[i]?)⟩, bx0, (bx1 : ∀ i, World.cell? _ ⟨x, i, none⟩ = (#[.slice p L'.length cap, .int .i64 n', .int .i64 mode', .int .i64 task', .int .i64 op', .int .i64 line', .int .u32 fa', .int .u32 fb', .int .i64 st', .bool on', .int .i64 wc', .int .i64 wi', .bool hit', .int .i64 ret', .int .i64 ak, .int .i64 ac, .int .u32 ax, .int .u32 ay, .int .u32 ao, (.slice qn notes'.length dn)] : Array Value)[i]?)⟩ := rskeep H11
         have HK3 := Lib.hid H11
         clear H11
         go_wp2_with fail
         rw [only_normal]
         refine callK_static rfl rfl (enters_of Try.func23 (by kernel_rfl) rfl) (by simp [Act.eval]) (fun W tW => (rsall (HK3.out.grow tW)).mono ?_)
         rintro e w12 ⟨p', cap', rfl, H12, hrd12, t12⟩
         refine ⟨_, rfl, t12, ?_⟩
         obtain ⟨⟨cr0, (cr1 : ∀ i, World.cell? _ ⟨r, i, none⟩ = (#[.pointer (some ⟨m, 0, none⟩), .int .i64 n', .int .i64 mode', .int .i64 task', .int .i64 op', .int .i64 line', .int .u32 fa', .int .u32 fb', .int .i64 st', .bool on', .int .i64 wc', .int .i64 wi', .bool hit', .int .i64 ret', .int .i64 ak, .int .i64 ac, .int .u32 ax, .int .u32 ay, .int .u32 ao, (.slice pn notes'.length cn)] : Array Value)[i]?)⟩, cx0, (cx1 : ∀ i, World.cell? _ ⟨x, i, none⟩ = (#[.slice p L'.length cap, .int .i64 n', .int .i64 mode', .int .i64 task', .int .i64 op', .int .i64 line', .int .u32 fa', .int .u32 fb', .int .i64 st', .bool on', .int .i64 wc', .int .i64 wi', .bool hit', .int .i64 ret', .int .i64 ak, .int .i64 ac, .int .u32 ax, .int .u32 ay, .int .u32 ao, (.slice qn notes'.length dn)] : Array Value)[i]?)⟩ := rskeep H12
         have HK4 := Lib.hid H12
         have HRD4 := Lib.hid hrd12
         clear H12 hrd12
         go_wp2_with fail
         refine (rssame HK4.out HRD4.out).mono ?_
         rintro e w13 ⟨rfl, H13⟩
         have HK5 := Lib.hid H13
         clear H13
         go_wp2_with fail
         refine (rf_awake w13).mono ?_
         rintro e w14 ⟨rfl, t14⟩
         go_wp2_with fail
         rw [only_normal]
         go_wp2_with fail
         go_ret
         exact ⟨rfl, Has.touch (HK5.out.grow t14)⟩)
    | false =>
      have e1 : stepR rfA (stepStart n mode task ⟨op, line, fa, fb, st, ⟨false, wc, wi, hit⟩, ret⟩ L) = rfA (stepStart n mode task ⟨op, line, fa, fb, st, ⟨false, wc, wi, hit⟩, ret⟩ L).fresh := by unfold stepR; rfl
      refine (xn_waking_off H6 rfl).mono ?_
      rintro e w4 ⟨rfl, H7⟩
      clear H6
      go_wp2_with fail
      refine (xrf_lines H7 HA.out (by simp [Rn.fresh])).mono ?_
      rw [← e1]
      rintro e w5 ⟨rfl, H8⟩
      clear H7 e1
      go_wp2_with fail
      refine (rf_lines_nil _).mono ?_
      rintro e w6 ⟨rfl, t6⟩
      obtain ⟨nx2, H9⟩ := H8.grow t6
      clear H8 t6
      have hso := (rf_stepok (s := (stepStart n mode task ⟨op, line, fa, fb, st, ⟨false, wc, wi, hit⟩, ret⟩ L)) HW.out ⟨HN.out, HA.out, HB.out⟩).2
      generalize stepR rfA (stepStart n mode task ⟨op, line, fa, fb, st, ⟨false, wc, wi, hit⟩, ret⟩ L) = s1 at H9 hso ⊢
      go_wp2_with fail
      refine wp_from (Facts := fun W => RSKeep w m a r p g cap x s1 nv2 nx2 W) ?_ (drop7 H9)
      clear H9
      intro W3 H9
      obtain ⟨pn, cn, rfl⟩ := owns_slice (Has.ownAt H9 5 rfl)
      obtain ⟨qn, dn, rfl⟩ := owns_slice (Has.ownAt H9 2 rfl)
      obtain ⟨ob, hob⟩ : ∃ ob, s1.over = ob := ⟨_, rfl⟩
      rw [hob]
      obtain ⟨n', mode', task', ⟨op', line', fa', fb', st', ⟨on', wc', wi', hit'⟩, ret'⟩, ⟨ak, ac, ax, ay, ao⟩, notes', L'⟩ := s1
      have HSO := Lib.hid hso
      have HOB := Lib.hid hob
      clear hso hob
      refine region_moved 39 4 rfl (by kernel_rfl) (by kernel_rfl) ?_
      simp only [List.take_succ_cons, List.take_zero, List.drop_succ_cons, List.drop_zero, List.cons_append, List.nil_append]
      have HK := Lib.hid H9.drew
      obtain ⟨⟨zr0, (zr1 : ∀ i, World.cell? _ ⟨r, i, none⟩ = (#[.pointer (some ⟨m, 0, none⟩), .int .i64 n', .int .i64 mode', .int .i64 task', .int .i64 op', .int .i64 line', .int .u32 fa', .int .u32 fb', .int .i64 st', .bool on', .int .i64 wc', .int .i64 wi', .bool hit', .int .i64 ret', .int .i64 ak, .int .i64 ac, .int .u32 ax, .int .u32 ay, .int .u32 ao, (.slice pn notes'.length cn)] : Array Value)[i]?)⟩, zx0, (zx1 : ∀ i, World.cell? _ ⟨x, i, none⟩ = (#[.slice p L'.length cap, .int .i64 n', .int .i64 mode', .int .i64 task', .int .i64 op', .int .i64 line', .int .u32 fa', .int .u32 fb', .int .i64 st', .bool on', .int .i64 wc', .int .i64 wi', .bool hit', .int .i64 ret', .int .i64 ak, .int .i64 ac, .int .u32 ax, .int .u32 ay, .int .u32 ao, (.slice qn notes'.length dn)] : Array Value)[i]?)⟩ := rskeep H9.drew
      clear H9
      go_wp2_with fail
      refine (rsover HK.out).mono ?_
      rintro e w10 ⟨rfl, H10⟩
      obtain ⟨⟨ar0, (ar1 : ∀ i, World.cell? _ ⟨r, i, none⟩ = (#[.pointer (some ⟨m, 0, none⟩), .int .i64 n', .int .i64 mode', .int .i64 task', .int .i64 op', .int .i64 line', .int .u32 fa', .int .u32 fb', .int .i64 st', .bool on', .int .i64 wc', .int .i64 wi', .bool hit', .int .i64 ret', .int .i64 ak, .int .i64 ac, .int .u32 ax, .int .u32 ay, .int .u32 ao, (.slice pn notes'.length cn)] : Array Value)[i]?)⟩, ax0, (ax1 : ∀ i, World.cell? _ ⟨x, i, none⟩ = (#[.slice p L'.length cap, .int .i64 n', .int .i64 mode', .int .i64 task', .int .i64 op', .int .i64 line', .int .u32 fa', .int .u32 fb', .int .i64 st', .bool on', .int .i64 wc', .int .i64 wi', .bool hit', .int .i64 ret', .int .i64 ak, .int .i64 ac, .int .u32 ax, .int .u32 ay, .int .u32 ao, (.slice qn notes'.length dn)] : Array Value)[i]?)⟩ := rskeep H10
      have HK2 := Lib.hid H10
      clear H10
      rw [HOB.out]
      cases ob <;>
        (go_wp2_with fail
         refine (rsnotes HK2.out (by have := HSO.out; simp only at this ⊢; omega)).mono ?_
         rintro e w11 ⟨rfl, H11⟩
         obtain ⟨⟨br0, (br1 : ∀ i, World.cell? _ ⟨r, i, none⟩ = (#[.pointer (some ⟨m, 0, none⟩), .int .i64 n', .int .i64 mode', .int .i64 task', .int .i64 op', .int .i64 line', .int .u32 fa', .int .u32 fb', .int .i64 st', .bool on', .int .i64 wc', .int .i64 wi', .bool hit', .int .i64 ret', .int .i64 ak, .int .i64 ac, .int .u32 ax, .int .u32 ay, .int .u32 ao, (.slice pn notes'.length cn)] : Array Value)[i]?)⟩, bx0, (bx1 : ∀ i, World.cell? _ ⟨x, i, none⟩ = (#[.slice p L'.length cap, .int .i64 n', .int .i64 mode', .int .i64 task', .int .i64 op', .int .i64 line', .int .u32 fa', .int .u32 fb', .int .i64 st', .bool on', .int .i64 wc', .int .i64 wi', .bool hit', .int .i64 ret', .int .i64 ak, .int .i64 ac, .int .u32 ax, .int .u32 ay, .int .u32 ao, (.slice qn notes'.length dn)] : Array Value)[i]?)⟩ := rskeep H11
         have HK3 := Lib.hid H11
         clear H11
         go_wp2_with fail
         rw [only_normal]
         refine callK_static rfl rfl (enters_of Try.func23 (by kernel_rfl) rfl) (by simp [Act.eval]) (fun W tW => (rsall (HK3.out.grow tW)).mono ?_)
         rintro e w12 ⟨p', cap', rfl, H12, hrd12, t12⟩
         refine ⟨_, rfl, t12, ?_⟩
         obtain ⟨⟨cr0, (cr1 : ∀ i, World.cell? _ ⟨r, i, none⟩ = (#[.pointer (some ⟨m, 0, none⟩), .int .i64 n', .int .i64 mode', .int .i64 task', .int .i64 op', .int .i64 line', .int .u32 fa', .int .u32 fb', .int .i64 st', .bool on', .int .i64 wc', .int .i64 wi', .bool hit', .int .i64 ret', .int .i64 ak, .int .i64 ac, .int .u32 ax, .int .u32 ay, .int .u32 ao, (.slice pn notes'.length cn)] : Array Value)[i]?)⟩, cx0, (cx1 : ∀ i, World.cell? _ ⟨x, i, none⟩ = (#[.slice p L'.length cap, .int .i64 n', .int .i64 mode', .int .i64 task', .int .i64 op', .int .i64 line', .int .u32 fa', .int .u32 fb', .int .i64 st', .bool on', .int .i64 wc', .int .i64 wi', .bool hit', .int .i64 ret', .int .i64 ak, .int .i64 ac, .int .u32 ax, .int .u32 ay, .int .u32 ao, (.slice qn notes'.length dn)] : Array Value)[i]?)⟩ := rskeep H12
         have HK4 := Lib.hid H12
         have HRD4 := Lib.hid hrd12
         clear H12 hrd12
         go_wp2_with fail
         refine (rssame HK4.out HRD4.out).mono ?_
         rintro e w13 ⟨rfl, H13⟩
         have HK5 := Lib.hid H13
         clear H13
         go_wp2_with fail
         refine (rf_awake w13).mono ?_
         rintro e w14 ⟨rfl, t14⟩
         go_wp2_with fail
         rw [only_normal]
         go_wp2_with fail
         go_ret
         exact ⟨rfl, Has.touch (HK5.out.grow t14)⟩)
theorem rfSteps_long {A : Option Addr} {ln cp : Nat} (w : World) (n mode task : Int) (f : Fr) (hl : 1024 < ln) :
    Calls Try.prog 7 #[.slice A ln cp, .int .i64 n, .int .i64 mode, .int .i64 task, .agg (Fr.cells f)] w fun e w' => e = .returned (.bool true) ∧ Touch [] w w' := by
  have i1 : ((1024 : Int) < (ln : Int)) := by omega
  obtain ⟨op, line, fa, fb, st, ⟨on, wc, wi, hit⟩, ret⟩ := f
  simp only [Fr.cells]
  go_enter Try.func7, Try.ntmps7
  go_wp2_with (go_at_call 33; refine (rf_awake _).mono ?_; rintro e w9 ⟨rfl, t9⟩)
  go_ret
  exact ⟨rfl, ((Touch.refl [] w).alloc _).trans t9⟩

/-- WHATEVER THE INPUT. -/
theorem rfSteps_any {A : Option Addr} {ln cp : Nat} {L : List Int} (w : World) (hr : Rd w 1 A ln (L.flatMap fun x => [Value.int .u32 x])) (hL : ∀ x, x ∈ L → 0 ≤ x ∧ x < 4294967296) (n mode task : Int) (f : Fr) (hf : FrOk f) (hn : I64 n) :
    Calls Try.prog 7 #[.slice A ln cp, .int .i64 n, .int .i64 mode, .int .i64 task, .agg (Fr.cells f)] w fun e w' => e = .returned (.bool true) ∧ Touch [] w w' := by
  have hr' : Rd w 1 A ln (u32s L) := by
    rw [← u32s_flatMap]
    exact hr
  by_cases hl : ln ≤ 1024
  · exact rfSteps_some w hr' ⟨by have := len_of_rd hr'; omega, hL⟩ n mode task f hn hf.1 hf.2
  · exact rfSteps_long w n mode task f (by omega)

end Go.Proofs.Ytlndihdlodempaa.Z
