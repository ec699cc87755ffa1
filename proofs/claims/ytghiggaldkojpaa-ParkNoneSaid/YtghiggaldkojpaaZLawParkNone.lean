/- The statement ParkNone: its walk. -/
import Derived.Test.YtghiggaldkojpaaZLaw06
import Derived.Outline
set_option linter.unusedVariables false
set_option linter.unusedSimpArgs false
namespace Go.Proofs.Ytghiggaldkojpaa.Z
open Go.RowKit

/-- No access. -/
def accZ : Value := .agg #[.int .i64 0, .int .i64 0, .int .u32 0, .int .u32 0, .int .u32 0]

theorem with_nil (w : World) (n task k c x y o : Int) (hn : I64 n) :
    Calls Try.prog 77 #[doV none, .agg #[.int .i64 n], .int .i64 task, .agg #[.int .i64 k, .int .i64 c, .int .u32 x, .int .u32 y, .int .u32 o]] w
      fun e w' => e = .returned (.tuple #[accZ, .bool false]) ∧ Touch [] w w' := by
  unfold doV accZ
  obtain ⟨n1, n2⟩ := hn
  go_enter Try.func77, Try.ntmps77
  go_wp2_with (go_at_call 79; refine (mapPermit n task _ ⟨n1, n2⟩).mono ?_; rintro e w1 ⟨rfl, ht1⟩
               obtain ⟨b0, b1, b2⟩ := ht1.own3 (by simp)
               obtain ⟨z0, p0, q0⟩ := b0.own
               obtain ⟨z1, p1, q1⟩ := b1.own)
  have hT1 : Touch [] w (w1.setCell ⟨w.heap.size + 1, 1, none⟩ (.int .i64 (cellP n 3 task))) := (((((Touch.refl [] w).alloc _).alloc _).alloc _).trans ht1).setNew (by simp) _
  refine (do_nil _ _ _ _ _ _).mono ?_
  simp only [Acc.zero, Acc.cells]
  rintro e w2 ⟨rfl, ht2⟩
  obtain ⟨z3, p3, q3⟩ := (ht2.blk (b2.setNe (by simp) _) (by simp)).own
  go_wp2
  refine bodyPost_ret (v := .tuple #[.agg #[.int .i64 0, .int .i64 0, .int .u32 0, .int .u32 0, .int .u32 0], .bool false]) (by simp [results, Try.results77, go_sem, p3, z3]) rfl
    ⟨rfl, (hT1.trans ht2).newer (T := [w.heap.size + 2]) ?_ (by simp)⟩
  repeat (first | with_reducible exact Touch.refl _ _ | with_reducible apply Touch.drew | with_reducible apply Touch.alloc | with_reducible refine Touch.set ?_ (by simp) _)

theorem give_nil (w : World) (n task : Int) (hn : I64 n) :
    Calls Try.prog 29 #[.pointer none, .agg #[.int .i64 n], .int .i64 task] w fun e w' => e = .returned (.tuple #[accZ, .bool false]) ∧ Touch [] w w' := by
  have hd := fun W => with_nil W n task 2 0 1 0 0 hn
  simp only [doV, accZ] at hd ⊢
  have HD := Lib.hid hd
  clear hd hn
  go_enter Try.func29, Try.ntmps29
  go_wp2_with (go_at_call 77; refine (HD.out _).mono ?_; rintro e w2 ⟨rfl, ht2⟩
               obtain ⟨z3, p3, q3⟩ := (ht2.own2 (by simp)).2.own)
  refine bodyPost_ret (v := .tuple #[.agg #[.int .i64 0, .int .i64 0, .int .u32 0, .int .u32 0, .int .u32 0], .bool false]) (by simp [results, Try.results29, go_sem, p3, z3]) rfl
    ⟨rfl, ((((Touch.refl [] w).alloc _).alloc _).trans ht2).newer (T := [w.heap.size + 1]) ?_ (by simp)⟩
  repeat (first | with_reducible exact Touch.refl _ _ | with_reducible apply Touch.drew | with_reducible apply Touch.alloc | with_reducible refine Touch.set ?_ (by simp) _)

theorem there_nil (w : World) (n task : Int) (hn : I64 n) :
    Calls Try.prog 33 #[.pointer none, .agg #[.int .i64 n], .int .i64 task] w fun e w' => e = .returned (.bool false) ∧ Touch [] w w' := by
  go_enter Try.func33, Try.ntmps33
  go_wp2_with (first
    | (go_at_call 79; refine (mapPermit n task _ hn).mono ?_; rintro e w1 ⟨rfl, ht1⟩)
    | (go_at_call 42; refine (load_nil _ _).mono ?_; rintro e w2 ⟨rfl, ht2⟩))
  go_ret
  exact ⟨rfl, (((Touch.refl [] w).alloc _).trans ht1).trans ht2⟩

theorem take_nil (w : World) (n task : Int) (hn : I64 n) :
    Calls Try.prog 31 #[.pointer none, .agg #[.int .i64 n], .int .i64 task] w fun e w' => e = .returned (.tuple #[accZ, .bool false]) ∧ Touch [] w w' := by
  have HT := Lib.hid (fun W => there_nil W n task hn)
  clear hn
  unfold accZ
  go_enter Try.func31, Try.ntmps31
  go_wp2_with (go_at_call 33; refine (HT.out _).mono ?_; rintro e w2 ⟨rfl, ht2⟩
               obtain ⟨z3, p3, q3⟩ := (ht2.own2 (by simp)).2.own)
  refine bodyPost_ret (v := .tuple #[.agg #[.int .i64 0, .int .i64 0, .int .u32 0, .int .u32 0, .int .u32 0], .bool false]) (by simp [results, Try.results31, go_sem, p3, z3]) rfl
    ⟨rfl, ((((Touch.refl [] w).alloc _).alloc _).trans ht2).newer (T := [w.heap.size + 1]) ?_ (by simp)⟩
  repeat (first | with_reducible exact Touch.refl _ _ | with_reducible apply Touch.drew | with_reducible apply Touch.alloc | with_reducible refine Touch.set ?_ (by simp) _)

theorem cellP_8 (n task : Int) : ¬ (0 ≤ cellP n 3 task ∧ cellP n 3 task < ((List.replicate 8 (0 : Int)).length : Int)) := by
  simp only [List.length_replicate]
  unfold cellP
  split <;> omega

theorem give_8 (n task : Int) : giveA (List.replicate 8 0) n task = (Acc.zero, false, List.replicate 8 0) := if_neg (cellP_8 n task)
theorem there_8 (n task : Int) : thereA (List.replicate 8 0) n task = false := by
  unfold thereA ldA
  rw [if_neg (cellP_8 n task)]
  rfl

set_option maxHeartbeats 1600000 in
theorem parkNone_any (n task : Int) (w : World) (hn : I64 n) :
    Calls Try.prog 7 #[.int .i64 n, .int .i64 task] w fun e w' => e = .returned (.bool true) ∧ Touch [] w w' := by
  have h1 := fun W => give_nil W n task hn
  have h2 := fun W => take_nil W n task hn
  have h3 := fun W => there_nil W n task hn
  unfold accZ at h1 h2
  have H1 := Lib.hid h1
  have H2 := Lib.hid h2
  have H3 := Lib.hid h3
  clear h1 h2 h3 
  go_enter Try.func7, Try.ntmps7
  go_wp2_with fail
  refine (H1.out _).mono ?_
  rintro e w1 ⟨rfl, t1⟩
  have A1 := t1.own1 (by simp)
  have T1 : Touch [] w w1 := ((Touch.refl [] w).alloc _).trans t1
  obtain ⟨x1, x2, x3⟩ := A1.own
  go_wp2_with fail
  refine (H2.out _).mono ?_
  rintro e w2 ⟨rfl, t2⟩
  have A2 := t2.blk (A1.alloc _) (by simp)
  have C2 := t2.own1 (by simp)
  have T2 : Touch [] w w2 := (T1.alloc _).trans t2
  clear x1 x2 x3
  obtain ⟨x1, x2, x3⟩ := A2.own
  have s1 := t2.size
  simp only [World.size_alloc] at s1
  go_wp2_with fail
  refine (new_ok 8 _ (by decide)).mono ?_
  rintro e w3 ⟨m, a, rfl, hM, k1, k2, t3⟩
  have A3 := t3.blk (A2.alloc _) (by simp)
  have C3 := t3.blk (C2.alloc _) (by simp)
  have D3 := t3.own1 (by simp)
  have T3 : Touch [] w w3 := (T2.alloc _).trans t3
  have s2 := t3.size
  simp only [World.size_alloc] at s2 k1 k2
  clear x1 x2 x3
  obtain ⟨x1, x2, x3⟩ := A3.own
  have s0 := T1.size
  have hal : a < w3.heap.size := hM.lt.2 (by simp)
  go_wp2_with fail
  refine (give_any hM n task hn).mono ?_
  rw [give_8]
  simp only [Acc.cells, Acc.zero]
  rintro e w4 ⟨rfl, hM4, t4⟩
  have A4 := t4.blk A3 (lv_not (by omega))
  have C4 := t4.blk C3 (lv_not (by omega))
  have D4 := t4.blk D3 (lv_not (by omega))
  have T4 : Touch [] w w4 := T3.newer t4 (lv_ge (by omega))
  clear x1 x2 x3
  obtain ⟨x1, x2, x3⟩ := A4.own
  obtain ⟨y1, y2, y3⟩ := C4.own
  obtain ⟨z1, z2, z3⟩ := D4.own
  clear hM A1 A2 A3 C2 C3 D3 t1 t2 t3 t4
  go_wp2_with fail
  refine (H3.out _).mono ?_
  rintro e w5 ⟨rfl, t5⟩
  have A5 := t5.blk (A4.alloc _) (by simp)
  obtain ⟨u1, u2, u3⟩ := A5.own
  go_wp2_with fail
  refine (there_is (hM4.touch (((Touch.refl [] _).alloc _).trans t5) (by simp) (by simp)) n task hn).mono ?_
  rw [there_8]
  rintro e w6 ⟨rfl, t6⟩
  go_wp2_with (go_at_call 28; refine (awake06 _).mono ?_; rintro e w7 ⟨rfl, t7⟩)
  go_ret
  exact ⟨by simp, (((T4.alloc _).trans t5).trans t6).trans t7⟩

end Go.Proofs.Ytghiggaldkojpaa.Z
