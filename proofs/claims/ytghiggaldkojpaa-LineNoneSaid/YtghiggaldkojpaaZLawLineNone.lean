/- The statement LineNone: its walk. -/
import Derived.Test.YtghiggaldkojpaaZLaw09
set_option linter.unusedVariables false
set_option linter.unusedSimpArgs false
namespace Go.Proofs.Ytghiggaldkojpaa.Z
open Go.RowKit
attribute [local go_sem ↓] Go.wp_at_zero Go.wp_at_succ

def LNKeep (w : World) (m a r b : Nat) (rc fc : Array Value) (w' : World) : Prop := ∃ rs, Has [] w w' (.blk r rc :: .blk b fc :: rs)
theorem lnkeep {w : World} {m a r b : Nat} {rc fc : Array Value} {w' : World} (h : LNKeep w m a r b rc fc w') : LNKeep w m a r b rc fc w' ∧ (∀ i, w'.cell? ⟨r, i, none⟩ = rc[i]?) ∧ (∀ i, w'.cell? ⟨b, i, none⟩ = fc[i]?) := by
  obtain ⟨rs, H⟩ := h
  exact ⟨⟨rs, H⟩, H.blk.cell, H.blk1.cell⟩
theorem LNKeep.grow {w : World} {m a r b : Nat} {rc fc : Array Value} {w' w'' : World} (h : LNKeep w m a r b rc fc w') (t : Touch [] w' w'') : LNKeep w m a r b rc fc w'' := by
  obtain ⟨rs, H⟩ := h
  exact ⟨rs, H.grow t⟩
theorem LNKeep.touch {w : World} {m a r b : Nat} {rc fc : Array Value} {w' : World} (h : LNKeep w m a r b rc fc w') : Touch [] w w' := by
  obtain ⟨rs, H⟩ := h
  exact H.touch

set_option maxHeartbeats 3200000 in
set_option maxRecDepth 100000 in
theorem lineNone_any (c x y : Int) (f : Fr) (w : World) (hx : 0 ≤ x ∧ x < 4294967296) :
    Calls Try.prog 11 #[.int .i64 c, .int .u32 x, .int .u32 y, .agg f.cells] w fun e w' => e = .returned (.bool true) ∧ Touch [] w w' := by
  obtain ⟨op, line, fa, fb, st, ⟨on, wc, wi, hit⟩, ret⟩ := f
  simp only [Fr.cells]
  have HH := Lib.hid (Has.start [] w)
  have HX := Lib.hid hx
  clear hx
  have HS := Lib.hid (fun W m a r nv rs (H : Has [] w W (.mem m a (List.replicate 12 0) :: .blk r (rcells m ⟨1, 2, 0, ⟨op, line, fa, fb, st, Wk.zero, ret⟩, Acc.zero, [], List.replicate 12 0⟩ nv) :: rs)) => run_step_none' (s := ⟨1, 2, 0, ⟨op, line, fa, fb, st, Wk.zero, ret⟩, Acc.zero, [], List.replicate 12 0⟩) H rfl)
  go_enter Try.func11, Try.ntmps11
  go_wp2_with (first
    | (go_at_call 45; refine (run_store_nil _ c x HX.out).mono ?_; rintro e w1 ⟨rfl, t1⟩)
    | (go_at_call 46; refine (run_note_nil _ 1 2).mono ?_; rintro e w2 ⟨rfl, t2⟩)
    | (go_at_call 47; refine (run_go_nil _ 3).mono ?_; rintro e w3 ⟨rfl, t3⟩)
    | (go_at_call 48; refine (run_end_nil _ true).mono ?_; rintro e w4 ⟨rfl, t4⟩)
    | (go_at_call 49; refine (run_wake_nil _ c).mono ?_; rintro e w5 ⟨rfl, t5⟩)
    | (go_at_call 50; refine (run_wait_nil _ c _).mono ?_; rintro e w6 ⟨rfl, t6⟩)
    | (go_at_call 51; refine (run_load_nil _ c).mono ?_; rintro e w7 ⟨rfl, t7⟩)
    | (go_at_call 52; refine (run_add_nil _ c x HX.out).mono ?_; rintro e w8 ⟨rfl, t8⟩)
    | (go_at_call 53; refine (run_swap_nil _ c x HX.out).mono ?_; rintro e w9 ⟨rfl, t9⟩)
    | (go_at_call 54; refine (run_cas_nil _ c x y).mono ?_; rintro e w10 ⟨rfl, t10⟩)
    | (go_at_call 55; refine (run_step_nil _ _).mono ?_; rintro e w11 ⟨rfl, t11⟩))
  have H0 := (((((((((((HH.out.new1.grow t1).grow t2).grow t3).grow t4).grow t5).grow t6).grow t7).grow t8).grow t9).grow t10).grow t11)
  clear t1 t2 t3 t4 t5 t6 t7 t8 t9 t10 t11
  refine (newmem_has H0 12 (by decide)).mono ?_
  rintro e w12 ⟨m, a, rfl, H1⟩
  clear H0
  obtain ⟨x0, x1, x2⟩ := H1.blk1.own
  go_wp2_with fail
  have H2 := ((((H1.set1 5 (.bool false)).set1 6 (.int .i64 0)).set1 7 (.int .i64 0)).set1 8 (.bool false))
  simp only [List.setIfInBounds_toArray, List.set_cons_zero, List.set_cons_succ] at H2
  refine (HS.out _ m a _ _ _ ((H2.al (b := w12.heap.size) (by simp) _ _).al (b := w12.heap.size + 1) (by simp) _ _)).mono ?_
  rintro e w13 ⟨rfl, nv, H3⟩
  clear H1 H2 x0 x1 x2 HS
  simp only [Rn.over, Rn.fresh, Wk.zero, Acc.zero, rcells] at H3 ⊢
  generalize w12.heap.size + 1 = r at H3 ⊢
  have hown := H3.own3
  obtain ⟨pn, cn, rfl⟩ := owns_slice hown
  have hkeep : LNKeep w m a r w.heap.size #[.pointer (some ⟨m, 0, none⟩), .int .i64 1, .int .i64 2, .int .i64 0, .int .i64 op, .int .i64 line, .int .u32 fa, .int .u32 fb, .int .i64 st, .bool false, .int .i64 0, .int .i64 0, .bool false, .int .i64 ret, .int .i64 0, .int .i64 0, .int .u32 0, .int .u32 0, .int .u32 0, .slice pn 0 cn] #[.int .i64 op, .int .i64 line, .int .u32 fa, .int .u32 fb, .int .i64 st, .bool false, .int .i64 0, .int .i64 0, .bool false, .int .i64 ret] w13 := ⟨_, (H3.tail.perm (List.Perm.cons _ (perm_front _ 2 (by simp))))⟩
  generalize w.heap.size = b at hkeep ⊢
  clear H3 hown
  have hawk := Lib.hid (fun w' (H : LNKeep w m a r b #[.pointer (some ⟨m, 0, none⟩), .int .i64 1, .int .i64 2, .int .i64 0, .int .i64 op, .int .i64 line, .int .u32 fa, .int .u32 fb, .int .i64 st, .bool false, .int .i64 0, .int .i64 0, .bool false, .int .i64 ret, .int .i64 0, .int .i64 0, .int .u32 0, .int .u32 0, .int .u32 0, .slice pn 0 cn] #[.int .i64 op, .int .i64 line, .int .u32 fa, .int .u32 fb, .int .i64 st, .bool false, .int .i64 0, .int .i64 0, .bool false, .int .i64 ret] w') => (awake09 w').mono (R' := fun e w'' => e = .returned (.bool true) ∧ LNKeep w m a r b #[.pointer (some ⟨m, 0, none⟩), .int .i64 1, .int .i64 2, .int .i64 0, .int .i64 op, .int .i64 line, .int .u32 fa, .int .u32 fb, .int .i64 st, .bool false, .int .i64 0, .int .i64 0, .bool false, .int .i64 ret, .int .i64 0, .int .i64 0, .int .u32 0, .int .u32 0, .int .u32 0, .slice pn 0 cn] #[.int .i64 op, .int .i64 line, .int .u32 fa, .int .u32 fb, .int .i64 st, .bool false, .int .i64 0, .int .i64 0, .bool false, .int .i64 ret] w'') (fun e w'' h => ⟨h.1, H.grow h.2⟩))
  have e1 : ((ret != 0 && !false) == (ret != 0)) = true := by cases (ret != 0) <;> rfl
  generalize hov : (ret != 0 && !false) = ov at e1 ⊢
  clear hov
  go_wp2_with fail
  have hdrew : LNKeep w m a r b #[.pointer (some ⟨m, 0, none⟩), .int .i64 1, .int .i64 2, .int .i64 0, .int .i64 op, .int .i64 line, .int .u32 fa, .int .u32 fb, .int .i64 st, .bool false, .int .i64 0, .int .i64 0, .bool false, .int .i64 ret, .int .i64 0, .int .i64 0, .int .u32 0, .int .u32 0, .int .u32 0, .slice pn 0 cn] #[.int .i64 op, .int .i64 line, .int .u32 fa, .int .u32 fb, .int .i64 st, .bool false, .int .i64 0, .int .i64 0, .bool false, .int .i64 ret] w13.drew := hkeep.grow ((Touch.refl [] _).drew)
  go_region_held3 (fun w' => LNKeep w m a r b #[.pointer (some ⟨m, 0, none⟩), .int .i64 1, .int .i64 2, .int .i64 0, .int .i64 op, .int .i64 line, .int .u32 fa, .int .u32 fb, .int .i64 st, .bool false, .int .i64 0, .int .i64 0, .bool false, .int .i64 ret, .int .i64 0, .int .i64 0, .int .u32 0, .int .u32 0, .int .u32 0, .slice pn 0 cn] #[.int .i64 op, .int .i64 line, .int .u32 fa, .int .u32 fb, .int .i64 st, .bool false, .int .i64 0, .int .i64 0, .bool false, .int .i64 ret] w' ∧ (∀ i, w'.cell? ⟨r, i, none⟩ = #[Value.pointer (some ⟨m, 0, none⟩), .int .i64 1, .int .i64 2, .int .i64 0, .int .i64 op, .int .i64 line, .int .u32 fa, .int .u32 fb, .int .i64 st, .bool false, .int .i64 0, .int .i64 0, .bool false, .int .i64 ret, .int .i64 0, .int .i64 0, .int .u32 0, .int .u32 0, .int .u32 0, .slice pn 0 cn][i]?) ∧ (∀ i, w'.cell? ⟨b, i, none⟩ = #[Value.int .i64 op, .int .i64 line, .int .u32 fa, .int .u32 fb, .int .i64 st, .bool false, .int .i64 0, .int .i64 0, .bool false, .int .i64 ret][i]?))
    (first | (go_split_ands; refine lnkeep ?_; first | with_reducible assumption | with_reducible exact hdrew))
    (first | (go_at_call 56; refine (hawk.out _ (by go_split_ands; first | with_reducible assumption | with_reducible exact hdrew)).mono ?_; rintro e w14 ⟨rfl, H14⟩))
  all_goals
    go_wp2
    go_ret
    exact ⟨by simp, H14.touch⟩

end Go.Proofs.Ytghiggaldkojpaa.Z
