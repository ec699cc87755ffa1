/- Package wait: a step of waiting, second part: the stages that look at nothing. -/
import Derived.Test.YtlndihdlodempaaZWait
import Derived.Test.YtlndihdlodempaaZAcc
set_option linter.unusedVariables false
set_option linter.unusedSimpArgs false
namespace Go.Proofs.Ytlndihdlodempaa.Z
open Go.RowKit

set_option maxHeartbeats 1600000 in
set_option maxRecDepth 100000 in
theorem wait_say {w : World} {m a : Nat} {L : List Int} (h : Mem w m a L) (n mode task stage c : Int) (hn : I64 n) (fv : Value) (hst : stageA mode stage = 1) :
    Calls Try.prog 128 #[.pointer (some ⟨m, 0, none⟩), .agg #[.int .i64 n], .int .i64 mode, .int .i64 task, .agg #[.int .i64 stage], .int .i64 c, fv] w
      fun e w' => e = .returned (.tuple #[.agg #[.int .i64 2], .agg (doA L ⟨2, cellP n 2 task, (c + 1) % 4294967296, 0, 0⟩).1.cells, .bool false, .bool false]) ∧ Mem w' m a (doA L ⟨2, cellP n 2 task, (c + 1) % 4294967296, 0, 0⟩).2.2 ∧ Touch (lv a L) w w' := by
  have hd : ∀ W X, X = (c + 1) % 4294967296 → Mem W m a L → Calls Try.prog 124 #[.pointer (some ⟨m, 0, none⟩), .agg #[.int .i64 2, .int .i64 (cellP n 2 task), .int .u32 X, .int .u32 0, .int .u32 0]] W
      fun e w' => e = .returned (.tuple #[.agg (doA L ⟨2, cellP n 2 task, (c + 1) % 4294967296, 0, 0⟩).1.cells, .bool (doA L ⟨2, cellP n 2 task, (c + 1) % 4294967296, 0, 0⟩).2.1]) ∧ Mem w' m a (doA L ⟨2, cellP n 2 task, (c + 1) % 4294967296, 0, 0⟩).2.2 ∧ Touch (lv a L) W w' :=
    fun W X hX hM => by subst hX; exact do_any hM ⟨2, cellP n 2 task, (c + 1) % 4294967296, 0, 0⟩ (by simp; omega) (by simp)
  have hl := doA_length L ⟨2, cellP n 2 task, (c + 1) % 4294967296, 0, 0⟩
  have hs := fun W => stage_any mode stage W
  rw [hst] at hs
  generalize (doA L ⟨2, cellP n 2 task, (c + 1) % 4294967296, 0, 0⟩) = r at hd hl ⊢
  obtain ⟨⟨rk, rc, rx, ry, ro⟩, rok, L2⟩ := r
  simp only [Acc.cells] at hd hl ⊢
  have HD := Lib.hid hd
  have HL := Lib.hid hl
  have HN := Lib.hid hn
  have HT := Lib.hid hs
  clear hd hl hn hs hst
  go_enter Try.func128, Try.ntmps128
  go_wp2_with fail
  refine (HT.out _).mono ?_
  rintro e w1 ⟨rfl, t1⟩
  obtain ⟨B0, B1, B2, B3⟩ := t1.own4 (by simp)
  have T1 : Touch [] w w1 := ((((Touch.refl [] _).alloc _).alloc _).alloc _).alloc _ |>.trans t1
  obtain ⟨x0, x1, x2⟩ := B0.own
  go_wp2_with fail
  refine (mapWatch n task _ HN.out).mono ?_
  rintro e w2 ⟨rfl, t2⟩
  have T2 : Touch [] w w2 := T1.trans t2
  have Bn := t2.blk B2 (by simp)
  have Ba := t2.blk B3 (by simp)
  clear x0 x1 x2 B0 B1 B2 B3 t1 t2 T1
  go_wp2_with fail
  refine (HD.out _ _ ?hX (h.touch T2 (by simp) (by simp))).mono ?_
  case hX => unfold wrap64; omega
  rintro e w3 ⟨rfl, hM3, t3⟩
  have T3 : Touch (lv a L) w w3 := (T2.mono (by simp)).trans t3
  have Bn3 := t3.blk Bn (lv_new h (by omega))
  have Ba3 := t3.blk Ba (lv_new h (by omega))
  clear Bn Ba t3 T2
  obtain ⟨x0, x1, x2⟩ := Bn3.own
  obtain ⟨y0, y1, y2⟩ := Ba3.own
  go_wp2_with fail
  refine wp_from (Facts := fun W => Touch [w.heap.size + 2, w.heap.size + 3] w3 W ∧ Blk W (w.heap.size + 2) #[.int .i64 2] ∧ Blk W (w.heap.size + 3) #[.int .i64 rk, .int .i64 rc, .int .u32 rx, .int .u32 ry, .int .u32 ro]) ?_
    ⟨(touch_set5.mono (by simp)).set (by simp) _, ((touch_set5.blk Bn3 (by simp)).set 0 _).eq rfl, (blk_set5 Ba3).setNe (by simp) _⟩
  rintro W ⟨tW, BnW, BaW⟩
  clear x0 x1 x2 y0 y1 y2 Bn3 Ba3
  obtain ⟨x0, x1, x2⟩ := BnW.own
  obtain ⟨y0, y1, y2⟩ := BaW.own
  go_region
  all_goals go_wp2
  refine bodyPost_ret (v := .tuple #[.agg #[.int .i64 2], .agg #[.int .i64 rk, .int .i64 rc, .int .u32 rx, .int .u32 ry, .int .u32 ro], .bool false, .bool false]) (by simp [results, Try.results128, go_sem, x0, x1, y0, y1]) rfl ?_
  refine (fun (TF : Touch [w.heap.size + 2, w.heap.size + 3] w3 _) => ⟨rfl, h.new hM3 HL.out TF (by simp), T3.newer TF (by simp)⟩) ?_
  repeat (first | with_reducible exact tW | with_reducible exact Touch.refl _ _ | with_reducible apply Touch.drew | with_reducible apply Touch.alloc | with_reducible refine Touch.set ?_ (by simp) _)

set_option maxHeartbeats 1600000 in
set_option maxRecDepth 100000 in
theorem wait_forget {w : World} {m a : Nat} {L : List Int} (h : Mem w m a L) (n mode task stage c : Int) (hn : I64 n) (fv : Value) (hst : stageA mode stage = 4) :
    Calls Try.prog 128 #[.pointer (some ⟨m, 0, none⟩), .agg #[.int .i64 n], .int .i64 mode, .int .i64 task, .agg #[.int .i64 stage], .int .i64 c, fv] w
      fun e w' => e = .returned (.tuple #[.agg #[.int .i64 0], .agg (doA L ⟨2, cellP n 2 task, 0, 0, 0⟩).1.cells, .bool false, .bool true]) ∧ Mem w' m a (doA L ⟨2, cellP n 2 task, 0, 0, 0⟩).2.2 ∧ Touch (lv a L) w w' := by
  have hd := fun W (hM : Mem W m a L) => do_any hM ⟨2, cellP n 2 task, 0, 0, 0⟩ (by simp) (by simp)
  have hl := doA_length L ⟨2, cellP n 2 task, 0, 0, 0⟩
  have hs := fun W => stage_any mode stage W
  rw [hst] at hs
  generalize (doA L ⟨2, cellP n 2 task, 0, 0, 0⟩) = r at hd hl ⊢
  obtain ⟨⟨rk, rc, rx, ry, ro⟩, rok, L2⟩ := r
  simp only [Acc.cells] at hd hl ⊢
  have HD := Lib.hid hd
  have HL := Lib.hid hl
  have HN := Lib.hid hn
  have HT := Lib.hid hs
  clear hd hl hn hs hst
  go_enter Try.func128, Try.ntmps128
  go_wp2_with fail
  refine (HT.out _).mono ?_
  rintro e w1 ⟨rfl, t1⟩
  obtain ⟨B0, B1, B2, B3⟩ := t1.own4 (by simp)
  have T1 : Touch [] w w1 := ((((Touch.refl [] _).alloc _).alloc _).alloc _).alloc _ |>.trans t1
  obtain ⟨x0, x1, x2⟩ := B0.own
  go_wp2_with fail
  refine (mapWatch n task _ HN.out).mono ?_
  rintro e w2 ⟨rfl, t2⟩
  have T2 : Touch [] w w2 := T1.trans t2
  have Bn := t2.blk B2 (by simp)
  have Ba := t2.blk B3 (by simp)
  clear x0 x1 x2 B0 B1 B2 B3 t1 t2 T1
  go_wp2_with fail
  refine (HD.out _ (h.touch T2 (by simp) (by simp))).mono ?_
  rintro e w3 ⟨rfl, hM3, t3⟩
  have T3 : Touch (lv a L) w w3 := (T2.mono (by simp)).trans t3
  have Bn3 := t3.blk Bn (lv_new h (by omega))
  have Ba3 := t3.blk Ba (lv_new h (by omega))
  clear Bn Ba t3 T2
  obtain ⟨y0, y1, y2⟩ := Ba3.own
  go_wp2_with fail
  refine wp_from (Facts := fun W => Touch [w.heap.size + 2, w.heap.size + 3] w3 W ∧ Blk W (w.heap.size + 2) #[.int .i64 0] ∧ Blk W (w.heap.size + 3) #[.int .i64 rk, .int .i64 rc, .int .u32 rx, .int .u32 ry, .int .u32 ro]) ?_
    ⟨touch_set5.mono (by simp), touch_set5.blk Bn3 (by simp), blk_set5 Ba3⟩
  rintro W ⟨tW, BnW, BaW⟩
  clear y0 y1 y2 Bn3 Ba3
  obtain ⟨x0, x1, x2⟩ := BnW.own
  obtain ⟨y0, y1, y2⟩ := BaW.own
  go_region
  all_goals go_wp2
  refine bodyPost_ret (v := .tuple #[.agg #[.int .i64 0], .agg #[.int .i64 rk, .int .i64 rc, .int .u32 rx, .int .u32 ry, .int .u32 ro], .bool false, .bool true]) (by simp [results, Try.results128, go_sem, x0, x1, y0, y1]) rfl ?_
  refine (fun (TF : Touch [w.heap.size + 2, w.heap.size + 3] w3 _) => ⟨rfl, h.new hM3 HL.out TF (by simp), T3.newer TF (by simp)⟩) ?_
  repeat (first | with_reducible exact tW | with_reducible exact Touch.refl _ _ | with_reducible apply Touch.drew | with_reducible apply Touch.alloc | with_reducible refine Touch.set ?_ (by simp) _)

set_option maxHeartbeats 1600000 in
set_option maxRecDepth 100000 in
theorem wait_sleep {w : World} {m a : Nat} {L : List Int} (h : Mem w m a L) (n mode task stage c : Int) (hn : I64 n) (fv : Value) (hst : stageA mode stage = 3) :
    Calls Try.prog 128 #[.pointer (some ⟨m, 0, none⟩), .agg #[.int .i64 n], .int .i64 mode, .int .i64 task, .agg #[.int .i64 stage], .int .i64 c, fv] w
      fun e w' => e = .returned (.tuple #[.agg #[.int .i64 (if (takeA L n task).2.1 then 2 else 3)], .agg (takeA L n task).1.cells, .bool false, .bool false]) ∧ Mem w' m a (takeA L n task).2.2 ∧ Touch (lv a L) w w' := by
  have hmem := h
  have hd := fun W (hM : Mem W m a L) => take_any hM n task hn
  have hl : (takeA L n task).2.2.length = L.length := by
    unfold takeA
    split
    · exact doA_length _ _
    · rfl
  have hs := fun W => stage_any mode stage W
  rw [hst] at hs
  generalize (takeA L n task) = r at hd hl ⊢
  obtain ⟨⟨rk, rc, rx, ry, ro⟩, rok, L2⟩ := r
  simp only [Acc.cells] at hd hl ⊢
  have HD := Lib.hid hd
  have HL := Lib.hid hl
  have HT := Lib.hid hs
  clear hd hl hn hs hst
  go_enter Try.func128, Try.ntmps128
  go_wp2_with fail
  refine (HT.out _).mono ?_
  rintro e w1 ⟨rfl, t1⟩
  obtain ⟨B0, B1, B2, B3⟩ := t1.own4 (by simp)
  have T1 : Touch [] w w1 := ((((Touch.refl [] _).alloc _).alloc _).alloc _).alloc _ |>.trans t1
  obtain ⟨x0, x1, x2⟩ := B0.own
  go_wp2_with fail
  refine (HD.out _ (h.touch T1 (by simp) (by simp))).mono ?_
  rintro e w3 ⟨rfl, hM3, t3⟩
  have T3 : Touch (lv a L) w w3 := (T1.mono (by simp)).trans t3
  have Bn3 := t3.blk B2 (lv_new hmem (by omega))
  have Ba3 := t3.blk B3 (lv_new hmem (by omega))
  clear B0 B1 B2 B3 t3 T1 x0 x1 x2 t1
  obtain ⟨x0, x1, x2⟩ := Bn3.own
  obtain ⟨y0, y1, y2⟩ := Ba3.own
  cases rok with
  | true =>
    go_wp2_with fail
    refine wp_from (Facts := fun W => Touch [w.heap.size + 2, w.heap.size + 3] w3 W ∧ Blk W (w.heap.size + 2) #[.int .i64 2] ∧ Blk W (w.heap.size + 3) #[.int .i64 rk, .int .i64 rc, .int .u32 rx, .int .u32 ry, .int .u32 ro]) ?_
      ⟨(touch_set5.mono (by simp)).set (by simp) _, ((touch_set5.blk Bn3 (by simp)).set 0 _).eq rfl, (blk_set5 Ba3).setNe (by simp) _⟩
    rintro W ⟨tW, BnW, BaW⟩
    clear x0 x1 x2 y0 y1 y2 Bn3 Ba3
    obtain ⟨x0, x1, x2⟩ := BnW.own
    obtain ⟨y0, y1, y2⟩ := BaW.own
    go_region
    all_goals go_wp2
    refine bodyPost_ret (v := .tuple #[.agg #[.int .i64 2], .agg #[.int .i64 rk, .int .i64 rc, .int .u32 rx, .int .u32 ry, .int .u32 ro], .bool false, .bool false]) (by simp [results, Try.results128, go_sem, x0, x1, y0, y1]) rfl ?_
    refine (fun (TF : Touch [w.heap.size + 2, w.heap.size + 3] w3 _) => ⟨rfl, hmem.new hM3 HL.out TF (by simp), T3.newer TF (by simp)⟩) ?_
    repeat (first | with_reducible exact tW | with_reducible exact Touch.refl _ _ | with_reducible apply Touch.drew | with_reducible apply Touch.alloc | with_reducible refine Touch.set ?_ (by simp) _)
  | false =>
    go_wp2_with fail
    refine wp_from (Facts := fun W => Touch [w.heap.size + 2, w.heap.size + 3] w3 W ∧ Blk W (w.heap.size + 2) #[.int .i64 3] ∧ Blk W (w.heap.size + 3) #[.int .i64 rk, .int .i64 rc, .int .u32 rx, .int .u32 ry, .int .u32 ro]) ?_
      ⟨(touch_set5.mono (by simp)).set (by simp) _, ((touch_set5.blk Bn3 (by simp)).set 0 _).eq rfl, (blk_set5 Ba3).setNe (by simp) _⟩
    rintro W ⟨tW, BnW, BaW⟩
    clear x0 x1 x2 y0 y1 y2 Bn3 Ba3
    obtain ⟨x0, x1, x2⟩ := BnW.own
    obtain ⟨y0, y1, y2⟩ := BaW.own
    go_region
    all_goals go_wp2
    refine bodyPost_ret (v := .tuple #[.agg #[.int .i64 3], .agg #[.int .i64 rk, .int .i64 rc, .int .u32 rx, .int .u32 ry, .int .u32 ro], .bool false, .bool false]) (by simp [results, Try.results128, go_sem, x0, x1, y0, y1]) rfl ?_
    refine (fun (TF : Touch [w.heap.size + 2, w.heap.size + 3] w3 _) => ⟨rfl, hmem.new hM3 HL.out TF (by simp), T3.newer TF (by simp)⟩) ?_
    repeat (first | with_reducible exact tW | with_reducible exact Touch.refl _ _ | with_reducible apply Touch.drew | with_reducible apply Touch.alloc | with_reducible refine Touch.set ?_ (by simp) _)

set_option maxHeartbeats 1600000 in
set_option maxRecDepth 100000 in
theorem wait_nil {w : World} {m a : Nat} {L : List Int} (hmem : Mem w m a L) (n mode task stage c : Int) (hst : stageA mode stage = 0 ∨ stageA mode stage = 2) :
    Calls Try.prog 128 #[.pointer (some ⟨m, 0, none⟩), .agg #[.int .i64 n], .int .i64 mode, .int .i64 task, .agg #[.int .i64 stage], .int .i64 c, .nilFunc] w
      fun e w' => e = .returned (.tuple #[.agg #[.int .i64 (if stageA mode stage = 2 then 3 else if mode = 2 then 1 else 0)], .agg (doA L ⟨1, c, 0, 0, 0⟩).1.cells, .bool false, .bool false]) ∧ Mem w' m a L ∧ Touch [] w w' := by
  have hd := fun W (hM : Mem W m a L) => doload_any hM c
  have hs := fun W => stage_any mode stage W
  generalize (doA L ⟨1, c, 0, 0, 0⟩) = r at hd ⊢
  obtain ⟨⟨rk, rc, rx, ry, ro⟩, rok, L2⟩ := r
  simp only [Acc.cells] at hd ⊢
  have hmode : stageA mode stage = 2 → mode = 2 := fun h => by unfold stageA at h; split at h <;> omega
  generalize stageA mode stage = st at hs hst hmode ⊢
  have HMODE := Lib.hid hmode
  clear hmode
  generalize hnx : (if st = 2 then (3:Int) else if mode = 2 then 1 else 0) = nx
  have HNX := Lib.hid hnx
  have HD := Lib.hid hd
  have HT := Lib.hid hs
  clear hd hs hnx
  have hrun := isNil
  rcases hst with rfl | rfl
  · go_enter Try.func128, Try.ntmps128
    go_wp2_with fail
    refine (HT.out _).mono ?_
    rintro e w1 ⟨rfl, t1⟩
    obtain ⟨B0, B1, B2, B3⟩ := t1.own4 (by simp)
    have T1 : Touch [] w w1 := ((((Touch.refl [] _).alloc _).alloc _).alloc _).alloc _ |>.trans t1
    obtain ⟨x0, x1, x2⟩ := B0.own
    go_wp2_with fail
    refine (HD.out _ (hmem.touch T1 (by simp) (by simp))).mono ?_
    rintro e w3 ⟨rfl, t3⟩
    have T3 : Touch [] w w3 := T1.trans t3
    have Bn3 := t3.blk B2 (by simp)
    have Ba3 := t3.blk B3 (by simp)
    have hM3 := hmem.touch T3 (by simp) (by simp)
    clear B0 B1 B2 B3 t3 T1 x0 x1 x2 t1
    obtain ⟨x0, x1, x2⟩ := Bn3.own
    obtain ⟨y0, y1, y2⟩ := Ba3.own
    by_cases h2 : mode = 2
    · subst h2
      go_wp2_with fail
      refine wp_from (Facts := fun W => Touch [w.heap.size + 2, w.heap.size + 3] w3 W ∧ Blk W (w.heap.size + 2) #[.int .i64 1] ∧ Blk W (w.heap.size + 3) #[.int .i64 rk, .int .i64 rc, .int .u32 rx, .int .u32 ry, .int .u32 ro]) ?_
        ⟨(touch_set5.mono (by simp)).set (by simp) _, ((touch_set5.blk Bn3 (by simp)).set 0 _).eq rfl, (blk_set5 Ba3).setNe (by simp) _⟩
      rintro W ⟨tW, BnW, BaW⟩
      clear x0 x1 x2 y0 y1 y2 Bn3 Ba3
      obtain ⟨x0, x1, x2⟩ := BnW.own
      obtain ⟨y0, y1, y2⟩ := BaW.own
      go_region
      all_goals go_wp2
      refine bodyPost_ret (v := .tuple #[.agg #[.int .i64 1], .agg #[.int .i64 rk, .int .i64 rc, .int .u32 rx, .int .u32 ry, .int .u32 ro], .bool false, .bool false]) (by simp [results, Try.results128, go_sem, x0, x1, y0, y1]) rfl ?_
      refine (fun (TF : Touch [w.heap.size + 2, w.heap.size + 3] w3 _) => ⟨by rw [← HNX.out]; rfl, hmem.new hM3 rfl TF (by simp), T3.newer TF (by simp)⟩) ?_
      repeat (first | with_reducible exact tW | with_reducible exact Touch.refl _ _ | with_reducible apply Touch.drew | with_reducible apply Touch.alloc | with_reducible refine Touch.set ?_ (by simp) _)
    · have h2' : (mode == 2) = false := by simpa using h2
      have H2 := Lib.hid h2
      clear h2
      go_wp2_with fail
      refine wp_from (Facts := fun W => Touch [w.heap.size + 2, w.heap.size + 3] w3 W ∧ Blk W (w.heap.size + 2) #[.int .i64 0] ∧ Blk W (w.heap.size + 3) #[.int .i64 rk, .int .i64 rc, .int .u32 rx, .int .u32 ry, .int .u32 ro]) ?_
        ⟨touch_set5.mono (by simp), touch_set5.blk Bn3 (by simp), blk_set5 Ba3⟩
      rintro W ⟨tW, BnW, BaW⟩
      clear x0 x1 x2 y0 y1 y2 Bn3 Ba3
      obtain ⟨x0, x1, x2⟩ := BnW.own
      obtain ⟨y0, y1, y2⟩ := BaW.own
      go_region
      all_goals go_wp2
      refine bodyPost_ret (v := .tuple #[.agg #[.int .i64 0], .agg #[.int .i64 rk, .int .i64 rc, .int .u32 rx, .int .u32 ry, .int .u32 ro], .bool false, .bool false]) (by simp [results, Try.results128, go_sem, x0, x1, y0, y1]) rfl ?_
      refine (fun (TF : Touch [w.heap.size + 2, w.heap.size + 3] w3 _) => ⟨by rw [← HNX.out, if_neg (by decide), if_neg H2.out], hmem.new hM3 rfl TF (by simp), T3.newer TF (by simp)⟩) ?_
      repeat (first | with_reducible exact tW | with_reducible exact Touch.refl _ _ | with_reducible apply Touch.drew | with_reducible apply Touch.alloc | with_reducible refine Touch.set ?_ (by simp) _)
  · go_enter Try.func128, Try.ntmps128
    go_wp2_with fail
    refine (HT.out _).mono ?_
    rintro e w1 ⟨rfl, t1⟩
    obtain ⟨B0, B1, B2, B3⟩ := t1.own4 (by simp)
    have T1 : Touch [] w w1 := ((((Touch.refl [] _).alloc _).alloc _).alloc _).alloc _ |>.trans t1
    obtain ⟨x0, x1, x2⟩ := B0.own
    go_wp2_with fail
    refine (HD.out _ (hmem.touch T1 (by simp) (by simp))).mono ?_
    rintro e w3 ⟨rfl, t3⟩
    have T3 : Touch [] w w3 := T1.trans t3
    have Bn3 := t3.blk B2 (by simp)
    have Ba3 := t3.blk B3 (by simp)
    have hM3 := hmem.touch T3 (by simp) (by simp)
    clear B0 B1 B2 B3 t3 T1 x0 x1 x2 t1
    obtain ⟨x0, x1, x2⟩ := Bn3.own
    obtain ⟨y0, y1, y2⟩ := Ba3.own
    have hmode := HMODE.out (by first | rfl | trivial)
    subst hmode
    go_wp2_with fail
    refine wp_from (Facts := fun W => Touch [w.heap.size + 2, w.heap.size + 3] w3 W ∧ Blk W (w.heap.size + 2) #[.int .i64 3] ∧ Blk W (w.heap.size + 3) #[.int .i64 rk, .int .i64 rc, .int .u32 rx, .int .u32 ry, .int .u32 ro]) ?_
      ⟨(touch_set5.mono (by simp)).set (by simp) _, ((touch_set5.blk Bn3 (by simp)).set 0 _).eq rfl, (blk_set5 Ba3).setNe (by simp) _⟩
    rintro W ⟨tW, BnW, BaW⟩
    clear x0 x1 x2 y0 y1 y2 Bn3 Ba3
    obtain ⟨x0, x1, x2⟩ := BnW.own
    obtain ⟨y0, y1, y2⟩ := BaW.own
    go_region
    all_goals go_wp2
    refine bodyPost_ret (v := .tuple #[.agg #[.int .i64 3], .agg #[.int .i64 rk, .int .i64 rc, .int .u32 rx, .int .u32 ry, .int .u32 ro], .bool false, .bool false]) (by simp [results, Try.results128, go_sem, x0, x1, y0, y1]) rfl ?_
    refine (fun (TF : Touch [w.heap.size + 2, w.heap.size + 3] w3 _) => ⟨by rw [← HNX.out]; rfl, hmem.new hM3 rfl TF (by simp), T3.newer TF (by simp)⟩) ?_
    repeat (first | with_reducible exact tW | with_reducible exact Touch.refl _ _ | with_reducible apply Touch.drew | with_reducible apply Touch.alloc | with_reducible refine Touch.set ?_ (by simp) _)

end Go.Proofs.Ytlndihdlodempaa.Z
