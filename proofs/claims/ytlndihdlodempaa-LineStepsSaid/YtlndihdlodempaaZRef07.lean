/- The document's step of waiting. -/
import Derived.Test.YtlndihdlodempaaZUntil
import Derived.Outline
set_option linter.unusedVariables false
set_option linter.unusedSimpArgs false
namespace Go.Proofs.Ytlndihdlodempaa.Z
open Go.RowKit

theorem takeA_len (L : List Int) (n task : Int) : (takeA L n task).2.2.length = L.length := by
  unfold takeA
  split
  · exact doA_length _ _
  · rfl

/-- Where nothing is taken nothing is told. -/
theorem takeA_zero (L : List Int) (n task : Int) : (takeA L n task).2.1 = false → (takeA L n task).1.kind = 0 ∧ (takeA L n task).1.cell = 0 ∧ (takeA L n task).1.x = 0 ∧ (takeA L n task).1.y = 0 ∧ (takeA L n task).1.old = 0 := by
  unfold takeA
  split
  · rename_i ht
    have hk : 0 ≤ cellP n 3 task ∧ cellP n 3 task < L.length := Decidable.by_contra fun hk => by
      unfold thereA ldA at ht
      rw [if_neg hk] at ht
      simp at ht
    unfold doA
    rw [if_pos hk]
    intro hf
    simp at hf
  · intro _
    exact ⟨rfl, rfl, rfl, rfl, rfl⟩

/-- A load, whatever the cell. -/
theorem rdoload_any {w : World} {p : Option Addr} {g cap : Nat} {L : List Int} (h : Row w p g L) (hcap : L.length ≤ cap) (hcm : cap ≤ 9223372036854775807) (c : Int) :
    Calls Try.prog 131 #[.slice p L.length cap, .agg #[.int .i64 1, .int .i64 c, .int .u32 0, .int .u32 0, .int .u32 0]] w
      fun e w' => e = .returned (.tuple #[.agg (doA L ⟨1, c, 0, 0, 0⟩).1.cells, .bool (doA L ⟨1, c, 0, 0, 0⟩).2.1]) ∧ Touch [] w w' := by
  by_cases hc : 0 ≤ c ∧ c < L.length
  · rw [show doA L ⟨1, c, 0, 0, 0⟩ = (⟨1, c, 0, 0, L.getD c.toNat 0⟩, true, L) from by unfold doA; rw [if_pos hc]; rfl]
    exact rdo_load h hcap hcm c 0 0 0 _ hc.1 hc.2 rfl
  · rw [show doA L ⟨1, c, 0, 0, 0⟩ = (Acc.zero, false, L) from if_neg hc]
    exact rdo_no p L.length cap 1 c 0 0 0 (.inl hc)

set_option maxHeartbeats 1600000 in
set_option maxRecDepth 100000 in
theorem rwait_look0 {w : World} {p : Option Addr} {g cap : Nat} {L : List Int} (h : Row w p g L) (hcap : L.length ≤ cap) (hcm : cap ≤ 9223372036854775807) (n mode task stage c : Int) (k mk x : Int) (hst : stageA mode stage = 0) :
    Calls Try.prog 134 #[.slice p L.length cap, .int .i64 n, .int .i64 mode, .int .i64 task, .agg #[.int .i64 stage], .int .i64 c, .agg #[.int .i64 k, .int .u32 mk, .int .u32 x]] w
      fun e w' => e = .returned (.tuple #[.agg #[.int .i64 (if untilA k mk x (doA L ⟨1, c, 0, 0, 0⟩).1.old then 0 else if mode = 2 then 1 else 0)], .agg (doA L ⟨1, c, 0, 0, 0⟩).1.cells, .bool (untilA k mk x (doA L ⟨1, c, 0, 0, 0⟩).1.old), .bool (untilA k mk x (doA L ⟨1, c, 0, 0, 0⟩).1.old)]) ∧ Touch [] w w' := by
  have hd := fun W (hM : Row W p g L) => rdoload_any hM hcap hcm c
  have hv := doA_old L h.words ⟨1, c, 0, 0, 0⟩
  have hu := fun W => until_any k mk x _ W hv.1 hv.2
  generalize (doA L ⟨1, c, 0, 0, 0⟩) = r at hd hu ⊢
  obtain ⟨⟨rk, rc, rx, ry, ro⟩, rok, L2⟩ := r
  simp only [Acc.cells] at hd hu ⊢
  generalize untilA k mk x ro = b at hu ⊢
  generalize hnx : (if b then (0:Int) else if mode = 2 then 1 else 0) = nx
  have HNX := Lib.hid hnx
  have HD := Lib.hid hd
  have HU := Lib.hid hu
  clear hd hu hv hnx
  have hcases : (mode = 2 ∧ stage = 0) ∨ (mode = 2 ∧ stage < 0) ∨ (mode = 2 ∧ 4 < stage) ∨ mode ≠ 2 := by
    unfold stageA at hst
    split at hst <;> omega
  clear hst
  rcases hcases with ⟨rfl, rfl⟩ | ⟨rfl, h1⟩ | ⟨rfl, h1⟩ | h1
  · have HM := Lib.hid (show (2:Int) = 2 from rfl)
    go_enter Try.func134, Try.ntmps134
    go_wp2_with fail
    refine (HD.out _ (h.touch (((((Touch.refl [] _).alloc _).alloc _).alloc _).alloc _) (by simp))).mono ?_
    rintro e w2 ⟨rfl, t2⟩
    obtain ⟨B0, B1, B2, B3⟩ := t2.own4 (by simp)
    have T2 : Touch [] w w2 := ((((Touch.refl [] _).alloc _).alloc _).alloc _).alloc _ |>.trans t2
    have s2 := B3.lt
    have y1 : w.heap.size < w2.heap.size + 1 := by omega
    have y2 : w.heap.size + 1 < w2.heap.size + 1 := by omega
    obtain ⟨x0, x1, x2⟩ := B1.own
    go_wp2_with fail
    refine calls_from (Facts := fun W => Touch [] w W ∧ Blk W (w.heap.size + 2) #[.int .i64 0] ∧ Blk W (w.heap.size + 3) #[.int .i64 0, .int .i64 0, .int .u32 0, .int .u32 0, .int .u32 0] ∧ Blk W w2.heap.size #[.int .i64 rk, .int .i64 rc, .int .u32 rx, .int .u32 ry, .int .u32 ro]) ?_
      ⟨T2.alloc _, B2.alloc _, B3.alloc _, Blk.new _ _ _⟩
    rintro W ⟨tW, Bn, Ba, Bo⟩
    clear x0 x1 x2 B0 B1 B2 B3 t2 T2 y1 y2
    refine (HU.out W).mono ?_
    rintro e w3 ⟨rfl, t3⟩
    have T3 : Touch [] w w3 := tW.trans t3
    have Bn3 := t3.blk Bn (by simp)
    have Ba3 := t3.blk Ba (by simp)
    have Bo3 := t3.blk Bo (by simp)
    clear Bn Ba Bo t3 tW
    obtain ⟨x0, x1, x2⟩ := Bn3.own
    obtain ⟨y0, y1, y2⟩ := Ba3.own
    obtain ⟨z0, z1, z2⟩ := Bo3.own
    have z3 : w2.heap.size ≠ w.heap.size + 2 := by omega
    have z4 : w2.heap.size ≠ w.heap.size + 3 := by omega
    have z5 : w.heap.size + 2 ≠ w2.heap.size := by omega
    have z6 : w.heap.size + 3 ≠ w2.heap.size := by omega
    cases b with
    | true =>
      go_wp2_with fail
      go_region
      all_goals go_wp2
      refine bodyPost_ret (v := .tuple #[.agg #[.int .i64 0], .agg #[.int .i64 rk, .int .i64 rc, .int .u32 rx, .int .u32 ry, .int .u32 ro], .bool true, .bool true]) (by simp [results, Try.results134, go_sem, x0, x1, y0, y1]) rfl ?_
      refine (fun (TF : Touch [w.heap.size + 2, w.heap.size + 3] w3 _) => ⟨by rw [← HNX.out]; simp [HM.out], T3.newer TF (by simp)⟩) ?_
      repeat (first | with_reducible exact Touch.refl _ _ | with_reducible apply Touch.drew | with_reducible apply Touch.alloc | with_reducible refine Touch.set ?_ (by simp) _)
    | false =>
      go_wp2_with fail
      go_region
      all_goals go_wp2
      refine bodyPost_ret (v := .tuple #[.agg #[.int .i64 1], .agg #[.int .i64 rk, .int .i64 rc, .int .u32 rx, .int .u32 ry, .int .u32 ro], .bool false, .bool false]) (by simp [results, Try.results134, go_sem, x0, x1, y0, y1]) rfl ?_
      refine (fun (TF : Touch [w.heap.size + 2, w.heap.size + 3] w3 _) => ⟨by rw [← HNX.out]; simp [HM.out], T3.newer TF (by simp)⟩) ?_
      repeat (first | with_reducible exact Touch.refl _ _ | with_reducible apply Touch.drew | with_reducible apply Touch.alloc | with_reducible refine Touch.set ?_ (by simp) _)
  · have HM := Lib.hid (show (2:Int) = 2 from rfl)
    go_enter Try.func134, Try.ntmps134
    go_wp2_with fail
    refine (HD.out _ (h.touch (((((Touch.refl [] _).alloc _).alloc _).alloc _).alloc _) (by simp))).mono ?_
    rintro e w2 ⟨rfl, t2⟩
    obtain ⟨B0, B1, B2, B3⟩ := t2.own4 (by simp)
    have T2 : Touch [] w w2 := ((((Touch.refl [] _).alloc _).alloc _).alloc _).alloc _ |>.trans t2
    have s2 := B3.lt
    have y1 : w.heap.size < w2.heap.size + 1 := by omega
    have y2 : w.heap.size + 1 < w2.heap.size + 1 := by omega
    obtain ⟨x0, x1, x2⟩ := B1.own
    go_wp2_with fail
    refine calls_from (Facts := fun W => Touch [] w W ∧ Blk W (w.heap.size + 2) #[.int .i64 0] ∧ Blk W (w.heap.size + 3) #[.int .i64 0, .int .i64 0, .int .u32 0, .int .u32 0, .int .u32 0] ∧ Blk W w2.heap.size #[.int .i64 rk, .int .i64 rc, .int .u32 rx, .int .u32 ry, .int .u32 ro]) ?_
      ⟨T2.alloc _, B2.alloc _, B3.alloc _, Blk.new _ _ _⟩
    rintro W ⟨tW, Bn, Ba, Bo⟩
    clear x0 x1 x2 B0 B1 B2 B3 t2 T2 y1 y2
    refine (HU.out W).mono ?_
    rintro e w3 ⟨rfl, t3⟩
    have T3 : Touch [] w w3 := tW.trans t3
    have Bn3 := t3.blk Bn (by simp)
    have Ba3 := t3.blk Ba (by simp)
    have Bo3 := t3.blk Bo (by simp)
    clear Bn Ba Bo t3 tW
    obtain ⟨x0, x1, x2⟩ := Bn3.own
    obtain ⟨y0, y1, y2⟩ := Ba3.own
    obtain ⟨z0, z1, z2⟩ := Bo3.own
    have z3 : w2.heap.size ≠ w.heap.size + 2 := by omega
    have z4 : w2.heap.size ≠ w.heap.size + 3 := by omega
    have z5 : w.heap.size + 2 ≠ w2.heap.size := by omega
    have z6 : w.heap.size + 3 ≠ w2.heap.size := by omega
    cases b with
    | true =>
      go_wp2_with fail
      go_region
      all_goals go_wp2
      refine bodyPost_ret (v := .tuple #[.agg #[.int .i64 0], .agg #[.int .i64 rk, .int .i64 rc, .int .u32 rx, .int .u32 ry, .int .u32 ro], .bool true, .bool true]) (by simp [results, Try.results134, go_sem, x0, x1, y0, y1]) rfl ?_
      refine (fun (TF : Touch [w.heap.size + 2, w.heap.size + 3] w3 _) => ⟨by rw [← HNX.out]; simp [HM.out], T3.newer TF (by simp)⟩) ?_
      repeat (first | with_reducible exact Touch.refl _ _ | with_reducible apply Touch.drew | with_reducible apply Touch.alloc | with_reducible refine Touch.set ?_ (by simp) _)
    | false =>
      go_wp2_with fail
      go_region
      all_goals go_wp2
      refine bodyPost_ret (v := .tuple #[.agg #[.int .i64 1], .agg #[.int .i64 rk, .int .i64 rc, .int .u32 rx, .int .u32 ry, .int .u32 ro], .bool false, .bool false]) (by simp [results, Try.results134, go_sem, x0, x1, y0, y1]) rfl ?_
      refine (fun (TF : Touch [w.heap.size + 2, w.heap.size + 3] w3 _) => ⟨by rw [← HNX.out]; simp [HM.out], T3.newer TF (by simp)⟩) ?_
      repeat (first | with_reducible exact Touch.refl _ _ | with_reducible apply Touch.drew | with_reducible apply Touch.alloc | with_reducible refine Touch.set ?_ (by simp) _)
  · have HM := Lib.hid (show (2:Int) = 2 from rfl)
    have h2 : ¬ (stage < 0) := by omega
    go_enter Try.func134, Try.ntmps134
    go_wp2_with fail
    refine (HD.out _ (h.touch (((((Touch.refl [] _).alloc _).alloc _).alloc _).alloc _) (by simp))).mono ?_
    rintro e w2 ⟨rfl, t2⟩
    obtain ⟨B0, B1, B2, B3⟩ := t2.own4 (by simp)
    have T2 : Touch [] w w2 := ((((Touch.refl [] _).alloc _).alloc _).alloc _).alloc _ |>.trans t2
    have s2 := B3.lt
    have y1 : w.heap.size < w2.heap.size + 1 := by omega
    have y2 : w.heap.size + 1 < w2.heap.size + 1 := by omega
    obtain ⟨x0, x1, x2⟩ := B1.own
    go_wp2_with fail
    refine calls_from (Facts := fun W => Touch [] w W ∧ Blk W (w.heap.size + 2) #[.int .i64 0] ∧ Blk W (w.heap.size + 3) #[.int .i64 0, .int .i64 0, .int .u32 0, .int .u32 0, .int .u32 0] ∧ Blk W w2.heap.size #[.int .i64 rk, .int .i64 rc, .int .u32 rx, .int .u32 ry, .int .u32 ro]) ?_
      ⟨T2.alloc _, B2.alloc _, B3.alloc _, Blk.new _ _ _⟩
    rintro W ⟨tW, Bn, Ba, Bo⟩
    clear x0 x1 x2 B0 B1 B2 B3 t2 T2 y1 y2
    refine (HU.out W).mono ?_
    rintro e w3 ⟨rfl, t3⟩
    have T3 : Touch [] w w3 := tW.trans t3
    have Bn3 := t3.blk Bn (by simp)
    have Ba3 := t3.blk Ba (by simp)
    have Bo3 := t3.blk Bo (by simp)
    clear Bn Ba Bo t3 tW
    obtain ⟨x0, x1, x2⟩ := Bn3.own
    obtain ⟨y0, y1, y2⟩ := Ba3.own
    obtain ⟨z0, z1, z2⟩ := Bo3.own
    have z3 : w2.heap.size ≠ w.heap.size + 2 := by omega
    have z4 : w2.heap.size ≠ w.heap.size + 3 := by omega
    have z5 : w.heap.size + 2 ≠ w2.heap.size := by omega
    have z6 : w.heap.size + 3 ≠ w2.heap.size := by omega
    cases b with
    | true =>
      go_wp2_with fail
      go_region
      all_goals go_wp2
      refine bodyPost_ret (v := .tuple #[.agg #[.int .i64 0], .agg #[.int .i64 rk, .int .i64 rc, .int .u32 rx, .int .u32 ry, .int .u32 ro], .bool true, .bool true]) (by simp [results, Try.results134, go_sem, x0, x1, y0, y1]) rfl ?_
      refine (fun (TF : Touch [w.heap.size + 2, w.heap.size + 3] w3 _) => ⟨by rw [← HNX.out]; simp [HM.out], T3.newer TF (by simp)⟩) ?_
      repeat (first | with_reducible exact Touch.refl _ _ | with_reducible apply Touch.drew | with_reducible apply Touch.alloc | with_reducible refine Touch.set ?_ (by simp) _)
    | false =>
      go_wp2_with fail
      go_region
      all_goals go_wp2
      refine bodyPost_ret (v := .tuple #[.agg #[.int .i64 1], .agg #[.int .i64 rk, .int .i64 rc, .int .u32 rx, .int .u32 ry, .int .u32 ro], .bool false, .bool false]) (by simp [results, Try.results134, go_sem, x0, x1, y0, y1]) rfl ?_
      refine (fun (TF : Touch [w.heap.size + 2, w.heap.size + 3] w3 _) => ⟨by rw [← HNX.out]; simp [HM.out], T3.newer TF (by simp)⟩) ?_
      repeat (first | with_reducible exact Touch.refl _ _ | with_reducible apply Touch.drew | with_reducible apply Touch.alloc | with_reducible refine Touch.set ?_ (by simp) _)
  · have HM := Lib.hid h1
    have h2 : (mode != 2) = true := by simpa using h1
    have h3 : (mode == 2) = false := by simpa using h1
    clear h1
    go_enter Try.func134, Try.ntmps134
    go_wp2_with fail
    refine (HD.out _ (h.touch (((((Touch.refl [] _).alloc _).alloc _).alloc _).alloc _) (by simp))).mono ?_
    rintro e w2 ⟨rfl, t2⟩
    obtain ⟨B0, B1, B2, B3⟩ := t2.own4 (by simp)
    have T2 : Touch [] w w2 := ((((Touch.refl [] _).alloc _).alloc _).alloc _).alloc _ |>.trans t2
    have s2 := B3.lt
    have y1 : w.heap.size < w2.heap.size + 1 := by omega
    have y2 : w.heap.size + 1 < w2.heap.size + 1 := by omega
    obtain ⟨x0, x1, x2⟩ := B1.own
    go_wp2_with fail
    refine calls_from (Facts := fun W => Touch [] w W ∧ Blk W (w.heap.size + 2) #[.int .i64 0] ∧ Blk W (w.heap.size + 3) #[.int .i64 0, .int .i64 0, .int .u32 0, .int .u32 0, .int .u32 0] ∧ Blk W w2.heap.size #[.int .i64 rk, .int .i64 rc, .int .u32 rx, .int .u32 ry, .int .u32 ro]) ?_
      ⟨T2.alloc _, B2.alloc _, B3.alloc _, Blk.new _ _ _⟩
    rintro W ⟨tW, Bn, Ba, Bo⟩
    clear x0 x1 x2 B0 B1 B2 B3 t2 T2 y1 y2
    refine (HU.out W).mono ?_
    rintro e w3 ⟨rfl, t3⟩
    have T3 : Touch [] w w3 := tW.trans t3
    have Bn3 := t3.blk Bn (by simp)
    have Ba3 := t3.blk Ba (by simp)
    have Bo3 := t3.blk Bo (by simp)
    clear Bn Ba Bo t3 tW
    obtain ⟨x0, x1, x2⟩ := Bn3.own
    obtain ⟨y0, y1, y2⟩ := Ba3.own
    obtain ⟨z0, z1, z2⟩ := Bo3.own
    have z3 : w2.heap.size ≠ w.heap.size + 2 := by omega
    have z4 : w2.heap.size ≠ w.heap.size + 3 := by omega
    have z5 : w.heap.size + 2 ≠ w2.heap.size := by omega
    have z6 : w.heap.size + 3 ≠ w2.heap.size := by omega
    cases b with
    | true =>
      go_wp2_with fail
      go_region
      all_goals go_wp2
      refine bodyPost_ret (v := .tuple #[.agg #[.int .i64 0], .agg #[.int .i64 rk, .int .i64 rc, .int .u32 rx, .int .u32 ry, .int .u32 ro], .bool true, .bool true]) (by simp [results, Try.results134, go_sem, x0, x1, y0, y1]) rfl ?_
      refine (fun (TF : Touch [w.heap.size + 2, w.heap.size + 3] w3 _) => ⟨by rw [← HNX.out]; simp [HM.out], T3.newer TF (by simp)⟩) ?_
      repeat (first | with_reducible exact Touch.refl _ _ | with_reducible apply Touch.drew | with_reducible apply Touch.alloc | with_reducible refine Touch.set ?_ (by simp) _)
    | false =>
      go_wp2_with fail
      go_region
      all_goals go_wp2
      refine bodyPost_ret (v := .tuple #[.agg #[.int .i64 0], .agg #[.int .i64 rk, .int .i64 rc, .int .u32 rx, .int .u32 ry, .int .u32 ro], .bool false, .bool false]) (by simp [results, Try.results134, go_sem, x0, x1, y0, y1]) rfl ?_
      refine (fun (TF : Touch [w.heap.size + 2, w.heap.size + 3] w3 _) => ⟨by rw [← HNX.out]; simp [HM.out], T3.newer TF (by simp)⟩) ?_
      repeat (first | with_reducible exact Touch.refl _ _ | with_reducible apply Touch.drew | with_reducible apply Touch.alloc | with_reducible refine Touch.set ?_ (by simp) _)

set_option maxHeartbeats 1600000 in
set_option maxRecDepth 100000 in
theorem rwait_look2 {w : World} {p : Option Addr} {g cap : Nat} {L : List Int} (h : Row w p g L) (hcap : L.length ≤ cap) (hcm : cap ≤ 9223372036854775807) (n task c : Int) (k mk x : Int) :
    Calls Try.prog 134 #[.slice p L.length cap, .int .i64 n, .int .i64 2, .int .i64 task, .agg #[.int .i64 2], .int .i64 c, .agg #[.int .i64 k, .int .u32 mk, .int .u32 x]] w
      fun e w' => e = .returned (.tuple #[.agg #[.int .i64 (if untilA k mk x (doA L ⟨1, c, 0, 0, 0⟩).1.old then 4 else 3)], .agg (doA L ⟨1, c, 0, 0, 0⟩).1.cells, .bool (untilA k mk x (doA L ⟨1, c, 0, 0, 0⟩).1.old), .bool false]) ∧ Touch [] w w' := by
  have hd := fun W (hM : Row W p g L) => rdoload_any hM hcap hcm c
  have hv := doA_old L h.words ⟨1, c, 0, 0, 0⟩
  have hu := fun W => until_any k mk x _ W hv.1 hv.2
  generalize (doA L ⟨1, c, 0, 0, 0⟩) = r at hd hu ⊢
  obtain ⟨⟨rk, rc, rx, ry, ro⟩, rok, L2⟩ := r
  simp only [Acc.cells] at hd hu ⊢
  generalize untilA k mk x ro = b at hu ⊢
  generalize hnx : (if b then (4:Int) else 3) = nx
  have HNX := Lib.hid hnx
  have HD := Lib.hid hd
  have HU := Lib.hid hu
  clear hd hu hv hnx
  have HM := Lib.hid (show (2:Int) = 2 from rfl)
  go_enter Try.func134, Try.ntmps134
  go_wp2_with fail
  refine (HD.out _ (h.touch (((((Touch.refl [] _).alloc _).alloc _).alloc _).alloc _) (by simp))).mono ?_
  rintro e w2 ⟨rfl, t2⟩
  obtain ⟨B0, B1, B2, B3⟩ := t2.own4 (by simp)
  have T2 : Touch [] w w2 := ((((Touch.refl [] _).alloc _).alloc _).alloc _).alloc _ |>.trans t2
  have s2 := B3.lt
  have y1 : w.heap.size < w2.heap.size + 1 := by omega
  have y2 : w.heap.size + 1 < w2.heap.size + 1 := by omega
  obtain ⟨x0, x1, x2⟩ := B1.own
  go_wp2_with fail
  refine calls_from (Facts := fun W => Touch [] w W ∧ Blk W (w.heap.size + 2) #[.int .i64 0] ∧ Blk W (w.heap.size + 3) #[.int .i64 0, .int .i64 0, .int .u32 0, .int .u32 0, .int .u32 0] ∧ Blk W w2.heap.size #[.int .i64 rk, .int .i64 rc, .int .u32 rx, .int .u32 ry, .int .u32 ro]) ?_
    ⟨T2.alloc _, B2.alloc _, B3.alloc _, Blk.new _ _ _⟩
  rintro W ⟨tW, Bn, Ba, Bo⟩
  clear x0 x1 x2 B0 B1 B2 B3 t2 T2 y1 y2
  refine (HU.out W).mono ?_
  rintro e w3 ⟨rfl, t3⟩
  have T3 : Touch [] w w3 := tW.trans t3
  have Bn3 := t3.blk Bn (by simp)
  have Ba3 := t3.blk Ba (by simp)
  have Bo3 := t3.blk Bo (by simp)
  clear Bn Ba Bo t3 tW
  obtain ⟨x0, x1, x2⟩ := Bn3.own
  obtain ⟨y0, y1, y2⟩ := Ba3.own
  obtain ⟨z0, z1, z2⟩ := Bo3.own
  have z3 : w2.heap.size ≠ w.heap.size + 2 := by omega
  have z4 : w2.heap.size ≠ w.heap.size + 3 := by omega
  have z5 : w.heap.size + 2 ≠ w2.heap.size := by omega
  have z6 : w.heap.size + 3 ≠ w2.heap.size := by omega
  cases b with
  | true =>
    go_wp2_with fail
    go_region
    all_goals go_wp2
    refine bodyPost_ret (v := .tuple #[.agg #[.int .i64 4], .agg #[.int .i64 rk, .int .i64 rc, .int .u32 rx, .int .u32 ry, .int .u32 ro], .bool true, .bool false]) (by simp [results, Try.results134, go_sem, x0, x1, y0, y1]) rfl ?_
    refine (fun (TF : Touch [w.heap.size + 2, w.heap.size + 3] w3 _) => ⟨by rw [← HNX.out]; simp [HM.out], T3.newer TF (by simp)⟩) ?_
    repeat (first | with_reducible exact Touch.refl _ _ | with_reducible apply Touch.drew | with_reducible apply Touch.alloc | with_reducible refine Touch.set ?_ (by simp) _)
  | false =>
    go_wp2_with fail
    go_region
    all_goals go_wp2
    refine bodyPost_ret (v := .tuple #[.agg #[.int .i64 3], .agg #[.int .i64 rk, .int .i64 rc, .int .u32 rx, .int .u32 ry, .int .u32 ro], .bool false, .bool false]) (by simp [results, Try.results134, go_sem, x0, x1, y0, y1]) rfl ?_
    refine (fun (TF : Touch [w.heap.size + 2, w.heap.size + 3] w3 _) => ⟨by rw [← HNX.out]; simp [HM.out], T3.newer TF (by simp)⟩) ?_
    repeat (first | with_reducible exact Touch.refl _ _ | with_reducible apply Touch.drew | with_reducible apply Touch.alloc | with_reducible refine Touch.set ?_ (by simp) _)

set_option maxHeartbeats 1600000 in
set_option maxRecDepth 100000 in
theorem rwait_say {w : World} {p : Option Addr} {g cap : Nat} {L : List Int} (h : Row w p g L) (hcap : L.length ≤ cap) (hcm : cap ≤ 9223372036854775807) (n task c : Int) (k mk x : Int) :
    Calls Try.prog 134 #[.slice p L.length cap, .int .i64 n, .int .i64 2, .int .i64 task, .agg #[.int .i64 1], .int .i64 c, .agg #[.int .i64 k, .int .u32 mk, .int .u32 x]] w
      fun e w' => e = .returned (.tuple #[.agg #[.int .i64 2], .agg (doA L ⟨2, cellP n 2 task, (c + 1) % 4294967296, 0, 0⟩).1.cells, .bool false, .bool false]) ∧ Row w' p g (doA L ⟨2, cellP n 2 task, (c + 1) % 4294967296, 0, 0⟩).2.2 ∧ Touch (lv g L) w w' := by
  have hd0 := fun W (hM : Row W p g L) => rdoload_any hM hcap hcm c
  generalize (doA L ⟨1, c, 0, 0, 0⟩) = r0 at hd0
  obtain ⟨⟨qk, qc, qx, qy, qo⟩, qok, L0⟩ := r0
  have hd : ∀ W X, X = (c + 1) % 4294967296 → Row W p g L → Calls Try.prog 131 #[.slice p L.length cap, .agg #[.int .i64 2, .int .i64 (cellP n 2 task), .int .u32 X, .int .u32 0, .int .u32 0]] W
      fun e w' => e = .returned (.tuple #[.agg (doA L ⟨2, cellP n 2 task, (c + 1) % 4294967296, 0, 0⟩).1.cells, .bool (doA L ⟨2, cellP n 2 task, (c + 1) % 4294967296, 0, 0⟩).2.1]) ∧ Row w' p g (doA L ⟨2, cellP n 2 task, (c + 1) % 4294967296, 0, 0⟩).2.2 ∧ Touch (lv g L) W w' :=
    fun W X hX hM => by subst hX; exact rdo_any hM hcap hcm ⟨2, cellP n 2 task, (c + 1) % 4294967296, 0, 0⟩ (by simp; omega) (by simp)
  have hl := doA_length L ⟨2, cellP n 2 task, (c + 1) % 4294967296, 0, 0⟩
  generalize (doA L ⟨2, cellP n 2 task, (c + 1) % 4294967296, 0, 0⟩) = r at hd hl ⊢
  obtain ⟨⟨rk, rc, rx, ry, ro⟩, rok, L2⟩ := r
  simp only [Acc.cells] at hd hd0 hl ⊢
  have HD := Lib.hid hd
  have HD0 := Lib.hid hd0
  have HL := Lib.hid hl
  clear hd hd0 hl
  go_enter Try.func134, Try.ntmps134
  go_wp2_with fail
  refine (HD0.out _ (h.touch (((((Touch.refl [] _).alloc _).alloc _).alloc _).alloc _) (by simp))).mono ?_
  rintro e w2 ⟨rfl, t2⟩
  obtain ⟨B0, B1, B2, B3⟩ := t2.own4 (by simp)
  have T2 : Touch [] w w2 := ((((Touch.refl [] _).alloc _).alloc _).alloc _).alloc _ |>.trans t2
  have s2 := B3.lt
  go_wp2_with fail
  refine (refCell_any n 2 task _ (by decide)).mono ?_
  rintro e w3 ⟨rfl, rfl⟩
  go_wp2_with fail
  refine (HD.out _ _ ?hX (h.touch (T2.alloc _) (by simp))).mono ?_
  case hX => first | (unfold wrap32; omega) | omega
  rintro e w4 ⟨rfl, hR4, t4⟩
  have T4 : Touch (lv g L) w w4 := ((T2.alloc _).mono (by simp)).trans t4
  have hgn : ∀ q, w.heap.size ≤ q → q ∉ lv g L := fun q hq hm => by have h1 := mem_lv hm; have := h.lt h1.2; omega
  have Bn4 := t4.blk (B2.alloc _) (hgn _ (by omega))
  have Ba4 := t4.blk (B3.alloc _) (hgn _ (by omega))
  have s4 := Ba4.lt
  clear B0 B1 B2 B3 t2 T2 s2 t4 hgn
  go_wp2_with fail
  refine wp_from (Facts := fun W => Touch [] w4 W ∧ Blk W (w.heap.size + 2) #[.int .i64 0] ∧ Blk W (w.heap.size + 3) #[.int .i64 0, .int .i64 0, .int .u32 0, .int .u32 0, .int .u32 0] ∧ Blk W w4.heap.size #[.int .i64 rk, .int .i64 rc, .int .u32 rx, .int .u32 ry, .int .u32 ro]) ?_
    ⟨(Touch.refl [] _).alloc _, Bn4.alloc _, Ba4.alloc _, Blk.new _ _ _⟩
  rintro W ⟨tW, BnW, BaW, BoW⟩
  clear Bn4 Ba4
  obtain ⟨x0, x1, x2⟩ := BnW.own
  obtain ⟨y0, y1, y2⟩ := BaW.own
  obtain ⟨z0, z1, z2⟩ := BoW.own
  have z3 : w4.heap.size ≠ w.heap.size + 2 := by omega
  have z4 : w4.heap.size ≠ w.heap.size + 3 := by omega
  have z5 : w.heap.size + 2 ≠ w4.heap.size := by omega
  have z6 : w.heap.size + 3 ≠ w4.heap.size := by omega
  go_region
  all_goals go_wp2
  refine bodyPost_ret (v := .tuple #[.agg #[.int .i64 2], .agg #[.int .i64 rk, .int .i64 rc, .int .u32 rx, .int .u32 ry, .int .u32 ro], .bool false, .bool false]) (by simp [results, Try.results134, go_sem, x0, x1, y0, y1]) rfl ?_
  refine (fun (TF : Touch [w.heap.size + 2, w.heap.size + 3] w4 _) => ⟨rfl, h.new hR4 HL.out TF (by simp), T4.newer TF (by simp)⟩) ?_
  repeat (first | with_reducible exact tW.mono (by simp) | with_reducible exact Touch.refl _ _ | with_reducible apply Touch.drew | with_reducible apply Touch.alloc | with_reducible refine Touch.set ?_ (by simp) _)

set_option maxHeartbeats 1600000 in
set_option maxRecDepth 100000 in
theorem rwait_forget {w : World} {p : Option Addr} {g cap : Nat} {L : List Int} (h : Row w p g L) (hcap : L.length ≤ cap) (hcm : cap ≤ 9223372036854775807) (n task c : Int) (k mk x : Int) :
    Calls Try.prog 134 #[.slice p L.length cap, .int .i64 n, .int .i64 2, .int .i64 task, .agg #[.int .i64 4], .int .i64 c, .agg #[.int .i64 k, .int .u32 mk, .int .u32 x]] w
      fun e w' => e = .returned (.tuple #[.agg #[.int .i64 0], .agg (doA L ⟨2, cellP n 2 task, 0, 0, 0⟩).1.cells, .bool false, .bool true]) ∧ Row w' p g (doA L ⟨2, cellP n 2 task, 0, 0, 0⟩).2.2 ∧ Touch (lv g L) w w' := by
  have hd0 := fun W (hM : Row W p g L) => rdoload_any hM hcap hcm c
  generalize (doA L ⟨1, c, 0, 0, 0⟩) = r0 at hd0
  obtain ⟨⟨qk, qc, qx, qy, qo⟩, qok, L0⟩ := r0
  have hd : ∀ W X, X = 0 → Row W p g L → Calls Try.prog 131 #[.slice p L.length cap, .agg #[.int .i64 2, .int .i64 (cellP n 2 task), .int .u32 X, .int .u32 0, .int .u32 0]] W
      fun e w' => e = .returned (.tuple #[.agg (doA L ⟨2, cellP n 2 task, 0, 0, 0⟩).1.cells, .bool (doA L ⟨2, cellP n 2 task, 0, 0, 0⟩).2.1]) ∧ Row w' p g (doA L ⟨2, cellP n 2 task, 0, 0, 0⟩).2.2 ∧ Touch (lv g L) W w' :=
    fun W X hX hM => by subst hX; exact rdo_any hM hcap hcm ⟨2, cellP n 2 task, 0, 0, 0⟩ (by simp) (by simp)
  have hl := doA_length L ⟨2, cellP n 2 task, 0, 0, 0⟩
  generalize (doA L ⟨2, cellP n 2 task, 0, 0, 0⟩) = r at hd hl ⊢
  obtain ⟨⟨rk, rc, rx, ry, ro⟩, rok, L2⟩ := r
  simp only [Acc.cells] at hd hd0 hl ⊢
  have HD := Lib.hid hd
  have HD0 := Lib.hid hd0
  have HL := Lib.hid hl
  clear hd hd0 hl
  go_enter Try.func134, Try.ntmps134
  go_wp2_with fail
  refine (HD0.out _ (h.touch (((((Touch.refl [] _).alloc _).alloc _).alloc _).alloc _) (by simp))).mono ?_
  rintro e w2 ⟨rfl, t2⟩
  obtain ⟨B0, B1, B2, B3⟩ := t2.own4 (by simp)
  have T2 : Touch [] w w2 := ((((Touch.refl [] _).alloc _).alloc _).alloc _).alloc _ |>.trans t2
  have s2 := B3.lt
  go_wp2_with fail
  refine (refCell_any n 2 task _ (by decide)).mono ?_
  rintro e w3 ⟨rfl, rfl⟩
  go_wp2_with fail
  refine (HD.out _ _ ?hX (h.touch (T2.alloc _) (by simp))).mono ?_
  case hX => rfl
  rintro e w4 ⟨rfl, hR4, t4⟩
  have T4 : Touch (lv g L) w w4 := ((T2.alloc _).mono (by simp)).trans t4
  have hgn : ∀ q, w.heap.size ≤ q → q ∉ lv g L := fun q hq hm => by have h1 := mem_lv hm; have := h.lt h1.2; omega
  have Bn4 := t4.blk (B2.alloc _) (hgn _ (by omega))
  have Ba4 := t4.blk (B3.alloc _) (hgn _ (by omega))
  have s4 := Ba4.lt
  clear B0 B1 B2 B3 t2 T2 s2 t4 hgn
  go_wp2_with fail
  refine wp_from (Facts := fun W => Touch [] w4 W ∧ Blk W (w.heap.size + 2) #[.int .i64 0] ∧ Blk W (w.heap.size + 3) #[.int .i64 0, .int .i64 0, .int .u32 0, .int .u32 0, .int .u32 0] ∧ Blk W w4.heap.size #[.int .i64 rk, .int .i64 rc, .int .u32 rx, .int .u32 ry, .int .u32 ro]) ?_
    ⟨(Touch.refl [] _).alloc _, Bn4.alloc _, Ba4.alloc _, Blk.new _ _ _⟩
  rintro W ⟨tW, BnW, BaW, BoW⟩
  clear Bn4 Ba4
  obtain ⟨x0, x1, x2⟩ := BnW.own
  obtain ⟨y0, y1, y2⟩ := BaW.own
  obtain ⟨z0, z1, z2⟩ := BoW.own
  have z3 : w4.heap.size ≠ w.heap.size + 2 := by omega
  have z4 : w4.heap.size ≠ w.heap.size + 3 := by omega
  have z5 : w.heap.size + 2 ≠ w4.heap.size := by omega
  have z6 : w.heap.size + 3 ≠ w4.heap.size := by omega
  go_region
  all_goals go_wp2
  refine bodyPost_ret (v := .tuple #[.agg #[.int .i64 0], .agg #[.int .i64 rk, .int .i64 rc, .int .u32 rx, .int .u32 ry, .int .u32 ro], .bool false, .bool true]) (by simp [results, Try.results134, go_sem, x0, x1, y0, y1]) rfl ?_
  refine (fun (TF : Touch [w.heap.size + 2, w.heap.size + 3] w4 _) => ⟨rfl, h.new hR4 HL.out TF (by simp), T4.newer TF (by simp)⟩) ?_
  repeat (first | with_reducible exact tW.mono (by simp) | with_reducible exact Touch.refl _ _ | with_reducible apply Touch.drew | with_reducible apply Touch.alloc | with_reducible refine Touch.set ?_ (by simp) _)

set_option maxHeartbeats 1600000 in
set_option maxRecDepth 100000 in
theorem rwait_sleep {w : World} {p : Option Addr} {g cap : Nat} {L : List Int} (h : Row w p g L) (hcap : L.length ≤ cap) (hcm : cap ≤ 9223372036854775807) (n task c : Int) (k mk x : Int) :
    Calls Try.prog 134 #[.slice p L.length cap, .int .i64 n, .int .i64 2, .int .i64 task, .agg #[.int .i64 3], .int .i64 c, .agg #[.int .i64 k, .int .u32 mk, .int .u32 x]] w
      fun e w' => e = .returned (.tuple #[.agg #[.int .i64 (if (takeA L n task).2.1 then 2 else 3)], .agg (takeA L n task).1.cells, .bool false, .bool false]) ∧ Row w' p g (takeA L n task).2.2 ∧ Touch (lv g L) w w' := by
  have hmem := h
  have hd0 := fun W (hM : Row W p g L) => rdoload_any hM hcap hcm c
  generalize (doA L ⟨1, c, 0, 0, 0⟩) = r0 at hd0
  obtain ⟨⟨qk, qc, qx, qy, qo⟩, qok, L0⟩ := r0
  have hd := fun W (hM : Row W p g L) => rtake_any hM hcap hcm n task
  have hl : (takeA L n task).2.2.length = L.length := takeA_len L n task
  have hz := takeA_zero L n task
  generalize (takeA L n task) = r at hd hl hz ⊢
  obtain ⟨⟨rk, rc, rx, ry, ro⟩, rok, L2⟩ := r
  simp only [Acc.cells] at hd hd0 hl hz ⊢
  have HD := Lib.hid hd
  have HD0 := Lib.hid hd0
  have HL := Lib.hid hl
  clear hd hd0 hl
  cases rok with
  | true =>
    clear hz
    go_enter Try.func134, Try.ntmps134
    go_wp2_with fail
    refine (HD0.out _ (hmem.touch (((((Touch.refl [] _).alloc _).alloc _).alloc _).alloc _) (by simp))).mono ?_
    rintro e w2 ⟨rfl, t2⟩
    obtain ⟨B0, B1, B2, B3⟩ := t2.own4 (by simp)
    have T2 : Touch [] w w2 := ((((Touch.refl [] _).alloc _).alloc _).alloc _).alloc _ |>.trans t2
    have s2 := B3.lt
    go_wp2_with fail
    refine (HD.out _ (hmem.touch (T2.alloc _) (by simp))).mono ?_
    rintro e w4 ⟨rfl, hR4, t4⟩
    have T4 : Touch (lv g L) w w4 := ((T2.alloc _).mono (by simp)).trans t4
    have hgn : ∀ q, w.heap.size ≤ q → q ∉ lv g L := fun q hq hm => by have h1 := mem_lv hm; have := hmem.lt h1.2; omega
    have Bn4 := t4.blk (B2.alloc _) (hgn _ (by omega))
    have Ba4 := t4.blk (B3.alloc _) (hgn _ (by omega))
    have s4 := Ba4.lt
    clear B0 B1 B2 B3 t2 T2 s2 t4 hgn
    go_wp2_with fail
    refine wp_from (Facts := fun W => Touch [] w4 W ∧ Blk W (w.heap.size + 2) #[.int .i64 0] ∧ Blk W (w.heap.size + 3) #[.int .i64 0, .int .i64 0, .int .u32 0, .int .u32 0, .int .u32 0] ∧ Blk W w4.heap.size #[.int .i64 rk, .int .i64 rc, .int .u32 rx, .int .u32 ry, .int .u32 ro]) ?_
      ⟨(Touch.refl [] _).alloc _, Bn4.alloc _, Ba4.alloc _, Blk.new _ _ _⟩
    rintro W ⟨tW, BnW, BaW, BoW⟩
    clear Bn4 Ba4
    obtain ⟨x0, x1, x2⟩ := BnW.own
    obtain ⟨y0, y1, y2⟩ := BaW.own
    obtain ⟨z0, z1, z2⟩ := BoW.own
    have z3 : w4.heap.size ≠ w.heap.size + 2 := by omega
    have z4 : w4.heap.size ≠ w.heap.size + 3 := by omega
    have z5 : w.heap.size + 2 ≠ w4.heap.size := by omega
    have z6 : w.heap.size + 3 ≠ w4.heap.size := by omega
    go_region
    all_goals go_wp2
    refine bodyPost_ret (v := .tuple #[.agg #[.int .i64 2], .agg #[.int .i64 rk, .int .i64 rc, .int .u32 rx, .int .u32 ry, .int .u32 ro], .bool false, .bool false]) (by simp [results, Try.results134, go_sem, x0, x1, y0, y1]) rfl ?_
    refine (fun (TF : Touch [w.heap.size + 2, w.heap.size + 3] w4 _) => ⟨rfl, hmem.new hR4 HL.out TF (by simp), T4.newer TF (by simp)⟩) ?_
    repeat (first | with_reducible exact tW.mono (by simp) | with_reducible exact Touch.refl _ _ | with_reducible apply Touch.drew | with_reducible apply Touch.alloc | with_reducible refine Touch.set ?_ (by simp) _)
  | false =>
    obtain ⟨rfl, rfl, rfl, rfl, rfl⟩ := hz rfl
    clear hz
    go_enter Try.func134, Try.ntmps134
    go_wp2_with fail
    refine (HD0.out _ (hmem.touch (((((Touch.refl [] _).alloc _).alloc _).alloc _).alloc _) (by simp))).mono ?_
    rintro e w2 ⟨rfl, t2⟩
    obtain ⟨B0, B1, B2, B3⟩ := t2.own4 (by simp)
    have T2 : Touch [] w w2 := ((((Touch.refl [] _).alloc _).alloc _).alloc _).alloc _ |>.trans t2
    have s2 := B3.lt
    go_wp2_with fail
    refine (HD.out _ (hmem.touch (T2.alloc _) (by simp))).mono ?_
    rintro e w4 ⟨rfl, hR4, t4⟩
    have T4 : Touch (lv g L) w w4 := ((T2.alloc _).mono (by simp)).trans t4
    have hgn : ∀ q, w.heap.size ≤ q → q ∉ lv g L := fun q hq hm => by have h1 := mem_lv hm; have := hmem.lt h1.2; omega
    have Bn4 := t4.blk (B2.alloc _) (hgn _ (by omega))
    have Ba4 := t4.blk (B3.alloc _) (hgn _ (by omega))
    have s4 := Ba4.lt
    clear B0 B1 B2 B3 t2 T2 s2 t4 hgn
    obtain ⟨x0, x1, x2⟩ := Bn4.own
    obtain ⟨y0, y1, y2⟩ := Ba4.own
    have x3 : w.heap.size + 2 < w4.heap.size + 1 := by omega
    have y3 : w.heap.size + 3 < w4.heap.size + 1 := by omega
    have z3 : w4.heap.size ≠ w.heap.size + 2 := by omega
    have z4 : w4.heap.size ≠ w.heap.size + 3 := by omega
    go_wp2_with fail
    refine bodyPost_ret (v := .tuple #[.agg #[.int .i64 3], .agg #[.int .i64 0, .int .i64 0, .int .u32 0, .int .u32 0, .int .u32 0], .bool false, .bool false]) (by simp [results, Try.results134, go_sem, x0, x1, y0, y1]) rfl ?_
    refine (fun (TF : Touch [w.heap.size + 2, w.heap.size + 3] w4 _) => ⟨rfl, hmem.new hR4 HL.out TF (by simp), T4.newer TF (by simp)⟩) ?_
    repeat (first | with_reducible exact Touch.refl _ _ | with_reducible apply Touch.drew | with_reducible apply Touch.alloc | with_reducible refine Touch.set ?_ (by simp) _)

end Go.Proofs.Ytlndihdlodempaa.Z
