/- An access on a memory of words, second part: the call Do. -/
import Derived.Test.YtlndihdlodempaaZDo
set_option linter.unusedVariables false
set_option linter.unusedSimpArgs false
namespace Go.Proofs.Ytlndihdlodempaa.Z
open Go.RowKit

theorem mem_at {w : World} {m a : Nat} {L : List Int} (h : Mem w m a L) (c v : Int) (h0 : 0 ≤ c) (h1 : c < L.length) (hv : L.getD c.toNat 0 = v) :
    w.cell? ⟨a, c.toNat, none⟩ = some (.int .u32 v) ∧ w.frozen? ⟨a, c.toNat, none⟩ = false ∧ a < w.heap.size ∧ a ≠ w.heap.size ∧ a ≠ w.heap.size + 1 := by
  obtain ⟨rest, hr⟩ := h.body (by omega)
  have ha := hr.lt
  exact ⟨by rw [hr.cell, u32s_get (by omega), hv], hr.free _, ha, by omega, by omega⟩

theorem Mem.box2 {w : World} {m a : Nat} {L : List Int} (h : Mem w m a L) (o o' : Obj) : Mem ((w.alloc o).alloc o') m a L :=
  h.touch (((Touch.refl [] _).alloc _).alloc _) (by simp) (by simp)

set_option maxHeartbeats 400000 in
theorem do_load {w : World} {m a : Nat} {L : List Int} (h : Mem w m a L) (c x y o v : Int) (h0 : 0 ≤ c) (h1 : c < L.length) (hv : L.getD c.toNat 0 = v) :
    Calls Try.prog 124 #[.pointer (some ⟨m, 0, none⟩), .agg #[.int .i64 1, .int .i64 c, .int .u32 x, .int .u32 y, .int .u32 o]] w
      fun e w' => e = .returned (.tuple #[.agg #[.int .i64 1, .int .i64 c, .int .u32 x, .int .u32 y, .int .u32 v], .bool true]) ∧ Touch [] w w' := by
  obtain ⟨hc1, hc2, ha, ha2, ha3⟩ := mem_at h c v h0 h1 hv
  clear hv
  go_enter Try.func124, Try.ntmps124
  go_wp2_with (go_at_call 166; refine (cell_in (h.box2 _ _) c h0 h1).mono ?_; rintro e w' ⟨rfl, rfl⟩)
  all_goals
    refine bodyPost_ret (v := .tuple #[.agg #[.int .i64 1, .int .i64 c, .int .u32 x, .int .u32 y, .int .u32 v], .bool true]) (by simp [results, Try.results124, go_sem]) rfl ?_
    refine ⟨rfl, ?_⟩
    repeat (first | exact Touch.refl _ _ | apply Touch.drew | apply Touch.alloc)

set_option maxHeartbeats 400000 in
theorem do_store {w : World} {m a : Nat} {L : List Int} (h : Mem w m a L) (c x y o v : Int) (hx : 0 ≤ x ∧ x < 4294967296) (h0 : 0 ≤ c) (h1 : c < L.length) (hv : L.getD c.toNat 0 = v) :
    Calls Try.prog 124 #[.pointer (some ⟨m, 0, none⟩), .agg #[.int .i64 2, .int .i64 c, .int .u32 x, .int .u32 y, .int .u32 o]] w
      fun e w' => e = .returned (.tuple #[.agg #[.int .i64 2, .int .i64 c, .int .u32 x, .int .u32 y, .int .u32 v], .bool true]) ∧ Mem w' m a (L.set c.toNat x) ∧ Touch [a] w w' := by
  obtain ⟨hc1, hc2, ha, ha2, ha3⟩ := mem_at h c v h0 h1 hv
  clear hv
  go_enter Try.func124, Try.ntmps124
  go_wp2_with (go_at_call 166; refine (cell_in (h.box2 _ _) c h0 h1).mono ?_; rintro e w' ⟨rfl, rfl⟩)
  all_goals
    refine bodyPost_ret (v := .tuple #[.agg #[.int .i64 2, .int .i64 c, .int .u32 x, .int .u32 y, .int .u32 v], .bool true]) (by simp [results, Try.results124, go_sem]) rfl ?_
    refine ⟨rfl, (h.set c.toNat (by omega) _ hx.1 hx.2).touch (S := []) ?_ (by simp) (by simp), ?_⟩
    · repeat (first | exact Touch.refl _ _ | apply Touch.drew | apply Touch.alloc)
    · repeat (first | exact Touch.refl _ _ | apply Touch.drew | apply Touch.alloc | refine Touch.set ?_ (by simp) _)

set_option maxHeartbeats 400000 in
theorem do_swap {w : World} {m a : Nat} {L : List Int} (h : Mem w m a L) (c x y o v : Int) (hx : 0 ≤ x ∧ x < 4294967296) (h0 : 0 ≤ c) (h1 : c < L.length) (hv : L.getD c.toNat 0 = v) :
    Calls Try.prog 124 #[.pointer (some ⟨m, 0, none⟩), .agg #[.int .i64 4, .int .i64 c, .int .u32 x, .int .u32 y, .int .u32 o]] w
      fun e w' => e = .returned (.tuple #[.agg #[.int .i64 4, .int .i64 c, .int .u32 x, .int .u32 y, .int .u32 v], .bool true]) ∧ Mem w' m a (L.set c.toNat x) ∧ Touch [a] w w' := by
  obtain ⟨hc1, hc2, ha, ha2, ha3⟩ := mem_at h c v h0 h1 hv
  clear hv
  go_enter Try.func124, Try.ntmps124
  go_wp2_with (go_at_call 166; refine (cell_in (h.box2 _ _) c h0 h1).mono ?_; rintro e w' ⟨rfl, rfl⟩)
  all_goals
    refine bodyPost_ret (v := .tuple #[.agg #[.int .i64 4, .int .i64 c, .int .u32 x, .int .u32 y, .int .u32 v], .bool true]) (by simp [results, Try.results124, go_sem]) rfl ?_
    refine ⟨rfl, (h.set c.toNat (by omega) _ hx.1 hx.2).touch (S := []) ?_ (by simp) (by simp), ?_⟩
    · repeat (first | exact Touch.refl _ _ | apply Touch.drew | apply Touch.alloc)
    · repeat (first | exact Touch.refl _ _ | apply Touch.drew | apply Touch.alloc | refine Touch.set ?_ (by simp) _)

set_option maxHeartbeats 400000 in
theorem do_add {w : World} {m a : Nat} {L : List Int} (h : Mem w m a L) (c x y o v : Int) (h0 : 0 ≤ c) (h1 : c < L.length) (hv : L.getD c.toNat 0 = v) :
    Calls Try.prog 124 #[.pointer (some ⟨m, 0, none⟩), .agg #[.int .i64 3, .int .i64 c, .int .u32 x, .int .u32 y, .int .u32 o]] w
      fun e w' => e = .returned (.tuple #[.agg #[.int .i64 3, .int .i64 c, .int .u32 x, .int .u32 y, .int .u32 v], .bool true]) ∧ Mem w' m a (L.set c.toNat ((v + x) % 4294967296)) ∧ Touch [a] w w' := by
  obtain ⟨hc1, hc2, ha, ha2, ha3⟩ := mem_at h c v h0 h1 hv
  clear hv
  go_enter Try.func124, Try.ntmps124
  go_wp2_with (go_at_call 166; refine (cell_in (h.box2 _ _) c h0 h1).mono ?_; rintro e w' ⟨rfl, rfl⟩)
  go_region
  all_goals go_wp2
  all_goals
    refine bodyPost_ret (v := .tuple #[.agg #[.int .i64 3, .int .i64 c, .int .u32 x, .int .u32 y, .int .u32 v], .bool true]) (by simp [results, Try.results124, go_sem]) rfl ?_
    refine ⟨rfl, (h.set c.toNat (by omega) _ (by omega) (by omega)).touch (S := []) ?_ (by simp) (by simp), ?_⟩
    · repeat (first | exact Touch.refl _ _ | apply Touch.drew | apply Touch.alloc)
    · repeat (first | exact Touch.refl _ _ | apply Touch.drew | apply Touch.alloc | refine Touch.set ?_ (by simp) _)

set_option maxHeartbeats 400000 in
theorem do_cas {w : World} {m a : Nat} {L : List Int} (h : Mem w m a L) (c x y o v : Int) (hy : 0 ≤ y ∧ y < 4294967296) (he : v = x) (h0 : 0 ≤ c) (h1 : c < L.length) (hv : L.getD c.toNat 0 = v) :
    Calls Try.prog 124 #[.pointer (some ⟨m, 0, none⟩), .agg #[.int .i64 5, .int .i64 c, .int .u32 x, .int .u32 y, .int .u32 o]] w
      fun e w' => e = .returned (.tuple #[.agg #[.int .i64 5, .int .i64 c, .int .u32 x, .int .u32 y, .int .u32 v], .bool true]) ∧ Mem w' m a (L.set c.toNat y) ∧ Touch [a] w w' := by
  obtain ⟨hc1, hc2, ha, ha2, ha3⟩ := mem_at h c v h0 h1 hv
  clear hv
  have he2 : (v == x) = true := by simp [he]
  clear he
  go_enter Try.func124, Try.ntmps124
  go_wp2_with (go_at_call 166; refine (cell_in (h.box2 _ _) c h0 h1).mono ?_; rintro e w' ⟨rfl, rfl⟩)
  all_goals
    refine bodyPost_ret (v := .tuple #[.agg #[.int .i64 5, .int .i64 c, .int .u32 x, .int .u32 y, .int .u32 v], .bool true]) (by simp [results, Try.results124, go_sem]) rfl ?_
    refine ⟨rfl, (h.set c.toNat (by omega) _ hy.1 hy.2).touch (S := []) ?_ (by simp) (by simp), ?_⟩
    · repeat (first | exact Touch.refl _ _ | apply Touch.drew | apply Touch.alloc)
    · repeat (first | exact Touch.refl _ _ | apply Touch.drew | apply Touch.alloc | refine Touch.set ?_ (by simp) _)

set_option maxHeartbeats 400000 in
theorem do_casnot {w : World} {m a : Nat} {L : List Int} (h : Mem w m a L) (c x y o v : Int) (he : v ≠ x) (h0 : 0 ≤ c) (h1 : c < L.length) (hv : L.getD c.toNat 0 = v) :
    Calls Try.prog 124 #[.pointer (some ⟨m, 0, none⟩), .agg #[.int .i64 5, .int .i64 c, .int .u32 x, .int .u32 y, .int .u32 o]] w
      fun e w' => e = .returned (.tuple #[.agg #[.int .i64 5, .int .i64 c, .int .u32 x, .int .u32 y, .int .u32 v], .bool true]) ∧ Touch [] w w' := by
  obtain ⟨hc1, hc2, ha, ha2, ha3⟩ := mem_at h c v h0 h1 hv
  clear hv
  have he2 : (v == x) = false := by simpa using he
  clear he
  go_enter Try.func124, Try.ntmps124
  go_wp2_with (go_at_call 166; refine (cell_in (h.box2 _ _) c h0 h1).mono ?_; rintro e w' ⟨rfl, rfl⟩)
  all_goals
    refine bodyPost_ret (v := .tuple #[.agg #[.int .i64 5, .int .i64 c, .int .u32 x, .int .u32 y, .int .u32 v], .bool true]) (by simp [results, Try.results124, go_sem]) rfl ?_
    refine ⟨rfl, ?_⟩
    repeat (first | exact Touch.refl _ _ | apply Touch.drew | apply Touch.alloc)

set_option maxHeartbeats 400000 in
theorem do_other {w : World} {m a : Nat} {L : List Int} (h : Mem w m a L) (k c x y o v : Int) (k1 : k ≠ 1) (k2 : k ≠ 2) (k3 : k ≠ 3) (k4 : k ≠ 4) (k5 : k ≠ 5) (h0 : 0 ≤ c) (h1 : c < L.length) (hv : L.getD c.toNat 0 = v) :
    Calls Try.prog 124 #[.pointer (some ⟨m, 0, none⟩), .agg #[.int .i64 k, .int .i64 c, .int .u32 x, .int .u32 y, .int .u32 o]] w
      fun e w' => e = .returned (.tuple #[Value.agg Acc.zero.cells, .bool false]) ∧ Touch [] w w' := by
  obtain ⟨hc1, hc2, ha, ha2, ha3⟩ := mem_at h c v h0 h1 hv
  clear hv
  have e1 : (k == 1) = false := by simpa using k1
  have e2 : (k == 2) = false := by simpa using k2
  have e3 : (k == 3) = false := by simpa using k3
  have e4 : (k == 4) = false := by simpa using k4
  have e5 : (k == 5) = false := by simpa using k5
  clear k1 k2 k3 k4 k5
  go_enter Try.func124, Try.ntmps124
  go_wp2_with (go_at_call 166; refine (cell_in (h.box2 _ _) c h0 h1).mono ?_; rintro e w' ⟨rfl, rfl⟩)
  refine bodyPost_ret (v := .tuple #[Value.agg Acc.zero.cells, .bool false]) (by simp [results, Try.results124, go_sem, Acc.zero, Acc.cells]) rfl ⟨rfl, ?_⟩
  repeat (first | exact Touch.refl _ _ | apply Touch.drew | apply Touch.alloc)

set_option maxHeartbeats 400000 in
theorem do_out {w : World} {m a : Nat} {L : List Int} (h : Mem w m a L) (k c x y o : Int) (hc : ¬ (0 ≤ c ∧ c < L.length)) :
    Calls Try.prog 124 #[.pointer (some ⟨m, 0, none⟩), .agg #[.int .i64 k, .int .i64 c, .int .u32 x, .int .u32 y, .int .u32 o]] w
      fun e w' => e = .returned (.tuple #[Value.agg Acc.zero.cells, .bool false]) ∧ Touch [] w w' := by
  have H := Lib.hid hc
  clear hc
  go_enter Try.func124, Try.ntmps124
  go_wp2_with (go_at_call 166; refine (cell_out (h.box2 _ _) c H.out).mono ?_; rintro e w' ⟨rfl, rfl⟩)
  refine bodyPost_ret (v := .tuple #[Value.agg Acc.zero.cells, .bool false]) (by simp [results, Try.results124, go_sem, Acc.zero, Acc.cells]) rfl ⟨rfl, ?_⟩
  repeat (first | exact Touch.refl _ _ | apply Touch.drew | apply Touch.alloc)

set_option maxHeartbeats 400000 in
theorem do_nil (w : World) (k c x y o : Int) :
    Calls Try.prog 124 #[.pointer none, .agg #[.int .i64 k, .int .i64 c, .int .u32 x, .int .u32 y, .int .u32 o]] w
      fun e w' => e = .returned (.tuple #[Value.agg Acc.zero.cells, .bool false]) ∧ Touch [] w w' := by
  go_enter Try.func124, Try.ntmps124
  go_wp2_with (go_at_call 166; refine (cell_nil _ c).mono ?_; rintro e w' ⟨rfl, rfl⟩)
  refine bodyPost_ret (v := .tuple #[Value.agg Acc.zero.cells, .bool false]) (by simp [results, Try.results124, go_sem, Acc.zero, Acc.cells]) rfl ⟨rfl, ?_⟩
  repeat (first | exact Touch.refl _ _ | apply Touch.drew | apply Touch.alloc)

/-- WHATEVER THE ACCESS. -/
theorem do_any {w : World} {m a : Nat} {L : List Int} (h : Mem w m a L) (b : Acc) (hx : 0 ≤ b.x ∧ b.x < 4294967296) (hy : 0 ≤ b.y ∧ b.y < 4294967296) :
    Calls Try.prog 124 #[.pointer (some ⟨m, 0, none⟩), .agg b.cells] w
      fun e w' => e = .returned (.tuple #[.agg (doA L b).1.cells, .bool (doA L b).2.1]) ∧ Mem w' m a (doA L b).2.2 ∧ Touch (lv a L) w w' := by
  obtain ⟨k, c, x, y, o⟩ := b
  have none : ∀ (e : Ending) (w' : World), (e = .returned (.tuple #[Value.agg Acc.zero.cells, .bool false]) ∧ Touch [] w w') → e = .returned (.tuple #[.agg Acc.zero.cells, .bool false]) ∧ Mem w' m a L ∧ Touch (lv a L) w w' :=
    fun e w' ⟨he, ht⟩ => ⟨he, h.touch ht (by simp) (by simp), ht.mono (by simp)⟩
  by_cases hc : 0 ≤ c ∧ c < L.length
  · have hd : ∀ k, doA L ⟨k, c, x, y, o⟩ = (let old := L.getD c.toNat 0
        if k = 1 then ((⟨k, c, x, y, old⟩ : Acc), true, L)
        else if k = 3 then (⟨k, c, x, y, old⟩, true, L.set c.toNat ((old + x) % 4294967296))
        else if k = 5 then (⟨k, c, x, y, old⟩, true, if old = x then L.set c.toNat y else L)
        else if k = 2 ∨ k = 4 then (⟨k, c, x, y, old⟩, true, L.set c.toNat x)
        else (Acc.zero, false, L)) := fun k => if_pos hc
    rw [hd k, show lv a L = [a] from if_pos (by omega)]
    clear hd
    by_cases k1 : k = 1
    · subst k1
      exact (do_load h c x y o _ hc.1 hc.2 rfl).mono fun e w' ⟨he, ht⟩ => ⟨he, h.touch ht (by simp) (by simp), ht.mono (by simp)⟩
    by_cases k3 : k = 3
    · subst k3
      exact do_add h c x y o _ hc.1 hc.2 rfl
    by_cases k5 : k = 5
    · subst k5
      by_cases he : L.getD c.toNat 0 = x
      · simp only [he, if_true]
        exact do_cas h c x y o x hy rfl hc.1 hc.2 he
      · simp only [he, if_false]
        exact (do_casnot h c x y o _ he hc.1 hc.2 rfl).mono fun e w' ⟨he, ht⟩ => ⟨he, h.touch ht (by simp) (by simp), ht.mono (by simp)⟩
    by_cases k2 : k = 2
    · subst k2
      exact do_store h c x y o _ hx hc.1 hc.2 rfl
    by_cases k4 : k = 4
    · subst k4
      exact do_swap h c x y o _ hx hc.1 hc.2 rfl
    simp only [k1, k2, k3, k4, k5, if_false, or_self]
    exact (do_other h k c x y o _ k1 k2 k3 k4 k5 hc.1 hc.2 rfl).mono fun e w' ⟨he, ht⟩ => ⟨he, h.touch ht (by simp) (by simp), ht.mono (by simp)⟩
  · rw [show doA L ⟨k, c, x, y, o⟩ = (Acc.zero, false, L) from if_neg hc]
    exact (do_out h k c x y o hc).mono none

end Go.Proofs.Ytlndihdlodempaa.Z
