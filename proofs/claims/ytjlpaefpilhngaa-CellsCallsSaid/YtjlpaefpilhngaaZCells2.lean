/- The calls on a memory: Add, Swap, Cas: what each tells, what lies there then. -/
import Derived.Test.YtjlpaefpilhngaaZCells
set_option linter.unusedVariables false
set_option linter.unusedSimpArgs false
namespace Go.Proofs.Ytjlpaefpilhngaa.Z
open Go.RowKit


set_option maxHeartbeats 400000 in
theorem add_any {w : World} {m a : Nat} {L : List Int} (h : Mem w m a L) (c x : Int) (hx : 0 ≤ x ∧ x < 4294967296) :
    Calls Try.prog 34 #[.pointer (some ⟨m, 0, none⟩), .int .i64 c, .int .u32 x] w fun e w' => e = .returned (.int .u32 (ldA L c)) ∧ Mem w' m a (addA L c x) ∧ Touch (lv a L) w w' := by
  have hd := do_old (L' := addA L c x) h ⟨3, c, x, 0, 0⟩ hx z32 (by unfold doA ldA; split <;> simp [Acc.zero]) (by unfold doA addA ldA stA; split <;> simp)
  generalize (doA L ⟨3, c, x, 0, 0⟩).2.1 = b at hd
  generalize ldA L c = o at hd ⊢
  go_enter Try.func34, Try.ntmps34
  go_wp2_with (go_at_call 27; refine hd.mono ?_; rintro e w' ⟨k, c', x, y, rfl, hm, ht⟩)
  go_ret
  exact ⟨rfl, hm.touch ((Touch.refl [] _).alloc _) (by simp) (by simp), ht.alloc _⟩

set_option maxHeartbeats 400000 in
theorem swap_any {w : World} {m a : Nat} {L : List Int} (h : Mem w m a L) (c x : Int) (hx : 0 ≤ x ∧ x < 4294967296) :
    Calls Try.prog 35 #[.pointer (some ⟨m, 0, none⟩), .int .i64 c, .int .u32 x] w fun e w' => e = .returned (.int .u32 (ldA L c)) ∧ Mem w' m a (stA L c x) ∧ Touch (lv a L) w w' := by
  have hd := do_old (L' := stA L c x) h ⟨4, c, x, 0, 0⟩ hx z32 (by unfold doA ldA; split <;> simp [Acc.zero]) (by unfold doA stA; split <;> simp)
  generalize (doA L ⟨4, c, x, 0, 0⟩).2.1 = b at hd
  generalize ldA L c = o at hd ⊢
  go_enter Try.func35, Try.ntmps35
  go_wp2_with (go_at_call 27; refine hd.mono ?_; rintro e w' ⟨k, c', x, y, rfl, hm, ht⟩)
  go_ret
  exact ⟨rfl, hm.touch ((Touch.refl [] _).alloc _) (by simp) (by simp), ht.alloc _⟩


set_option maxHeartbeats 800000 in
theorem cas_any {w : World} {m a : Nat} {L : List Int} (h : Mem w m a L) (c x y : Int) (hx : 0 ≤ x ∧ x < 4294967296) (hy : 0 ≤ y ∧ y < 4294967296) :
    Calls Try.prog 36 #[.pointer (some ⟨m, 0, none⟩), .int .i64 c, .int .u32 x, .int .u32 y] w fun e w' => e = .returned (.tuple #[.int .u32 (ldA L c), .bool (isA L c x)]) ∧ Mem w' m a (casA L c x y) ∧ Touch (lv a L) w w' := by
  have hd := do_old (L' := casA L c x y) h ⟨5, c, x, y, 0⟩ hx hy (by unfold doA ldA; split <;> simp [Acc.zero]) (doA_cas L c x y)
  have hb : (doA L ⟨5, c, x, y, 0⟩).2.1 = decide (0 ≤ c ∧ c < L.length) := by unfold doA; split <;> simp_all
  rw [hb] at hd
  clear hb
  by_cases hc : 0 ≤ c ∧ c < L.length
  · have ho : ldA L c = L.getD c.toNat 0 := if_pos hc
    have hi : isA L c x = (L.getD c.toNat 0 == x) := by unfold isA; simp only [hc.1, hc.2, true_and]; rw [Bool.eq_iff_iff]; simp
    rw [decide_eq_true hc] at hd
    rw [ho, hi] 
    rw [show ldA L (Acc.cell ⟨5, c, x, y, 0⟩) = _ from ho] at hd
    generalize L.getD c.toNat 0 = o at hd ⊢
    clear ho hi
    go_enter Try.func36, Try.ntmps36
    go_wp2_with (go_at_call 27; refine hd.mono ?_; rintro e w' ⟨k, c', x, y, rfl, hm, ht⟩)
    go_quiet (fail)
    go_wp2
    go_ret2
    refine ⟨rfl, hm.touch (S := []) ?_ (by simp) (by simp), ?_⟩
    all_goals repeat (first | exact Touch.refl _ _ | assumption | apply Touch.drewN | apply Touch.drew | apply Touch.alloc)
  · have ho : ldA L c = 0 := if_neg hc
    have hi : isA L c x = false := by unfold isA; exact decide_eq_false (fun h => hc ⟨h.1, h.2.1⟩)
    rw [decide_eq_false hc] at hd
    rw [ho, hi]
    rw [show ldA L (Acc.cell ⟨5, c, x, y, 0⟩) = _ from ho] at hd
    clear ho hi
    have H := Lib.hid hc
    clear hc
    go_enter Try.func36, Try.ntmps36
    go_wp2_with (go_at_call 27; refine hd.mono ?_; rintro e w' ⟨k, c', x, y, rfl, hm, ht⟩)
    go_quiet (fail)
    go_wp2
    go_ret2
    refine ⟨rfl, hm.touch (S := []) ?_ (by simp) (by simp), ?_⟩
    all_goals repeat (first | exact Touch.refl _ _ | assumption | apply Touch.drewN | apply Touch.drew | apply Touch.alloc)

end Go.Proofs.Ytjlpaefpilhngaa.Z
