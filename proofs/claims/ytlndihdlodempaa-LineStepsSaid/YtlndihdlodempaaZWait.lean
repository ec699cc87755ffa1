/- Package wait: a step of waiting. -/
import Derived.Test.YtlndihdlodempaaZPark
import Derived.Test.YtlndihdlodempaaZFrom2
import Derived.Outline
set_option linter.unusedVariables false
set_option linter.unusedSimpArgs false
namespace Go.Proofs.Ytlndihdlodempaa.Z
open Go.RowKit

/-- The stage that a task is at. -/
def stageA (mode stage : Int) : Int := if mode = 2 ∧ 0 ≤ stage ∧ stage ≤ 4 then stage else 0

structure WaitR where
  stage : Int
  acc : Acc
  seen : Bool
  done : Bool
  words : List Int

/-- What a step of waiting does and tells. -/
def waitA (L : List Int) (n mode task stage c : Int) (p : Int → Bool) : WaitR :=
  let at_ := stageA mode stage
  if at_ = 1 then let r := doA L ⟨2, cellP n 2 task, (c + 1) % 4294967296, 0, 0⟩; ⟨2, r.1, false, false, r.2.2⟩
  else if at_ = 2 then let r := doA L ⟨1, c, 0, 0, 0⟩; ⟨if p r.1.old then 4 else 3, r.1, p r.1.old, false, L⟩
  else if at_ = 3 then let r := takeA L n task; ⟨if r.2.1 then 2 else 3, r.1, false, false, r.2.2⟩
  else if at_ = 4 then let r := doA L ⟨2, cellP n 2 task, 0, 0, 0⟩; ⟨0, r.1, false, true, r.2.2⟩
  else let r := doA L ⟨1, c, 0, 0, 0⟩; ⟨if p r.1.old then 0 else if mode = 2 then 1 else 0, r.1, p r.1.old, p r.1.old, L⟩

theorem stageA_is (mode stage : Int) : stageA mode stage = 0 ∨ stageA mode stage = 1 ∨ stageA mode stage = 2 ∨ stageA mode stage = 3 ∨ stageA mode stage = 4 := by
  unfold stageA
  split <;> omega

theorem doA_load (L : List Int) (c x y o : Int) : (doA L ⟨1, c, x, y, o⟩).2.2 = L := by
  unfold doA
  split <;> simp

theorem doA_old (L : List Int) (hw : Words L) (b : Acc) : 0 ≤ (doA L b).1.old ∧ (doA L b).1.old < 4294967296 := by
  have h0 := hw.getD b.cell.toNat
  unfold doA
  dsimp only
  repeat' split
  all_goals first | exact h0 | (simp [Acc.zero])

theorem stage_any (mode stage : Int) (w : World) : Calls Try.prog 137 #[.int .i64 mode, .agg #[.int .i64 stage]] w fun e w' => e = .returned (.int .i64 (stageA mode stage)) ∧ Touch [] w w' := by
  by_cases h1 : mode = 2
  · subst h1
    by_cases h2 : stage < 0
    · rw [show stageA 2 stage = 0 from if_neg (by omega)]
      go_enter Try.func137, Try.ntmps137
      go_wp2
      go_ret
      exact ⟨rfl, (Touch.refl [] w).alloc _⟩
    · by_cases h3 : 4 < stage
      · rw [show stageA 2 stage = 0 from if_neg (by omega)]
        go_enter Try.func137, Try.ntmps137
        go_wp2
        go_ret
        exact ⟨rfl, (Touch.refl [] w).alloc _⟩
      · rw [show stageA 2 stage = stage from if_pos (by omega)]
        have h2' : ¬ (stage < 0) := h2
        have h3' : ¬ (4 < stage) := h3
        go_enter Try.func137, Try.ntmps137
        go_wp2
        go_ret
        exact ⟨rfl, (Touch.refl [] w).alloc _⟩
  · rw [show stageA mode stage = 0 from if_neg (by omega)]
    have h1' : (mode != 2) = true := by simpa using h1
    clear h1
    go_enter Try.func137, Try.ntmps137
    go_wp2
    go_ret
    exact ⟨rfl, (Touch.refl [] w).alloc _⟩

/-- A load, whatever the cell. -/
theorem doload_any {w : World} {m a : Nat} {L : List Int} (h : Mem w m a L) (c : Int) :
    Calls Try.prog 124 #[.pointer (some ⟨m, 0, none⟩), .agg #[.int .i64 1, .int .i64 c, .int .u32 0, .int .u32 0, .int .u32 0]] w
      fun e w' => e = .returned (.tuple #[.agg (doA L ⟨1, c, 0, 0, 0⟩).1.cells, .bool (doA L ⟨1, c, 0, 0, 0⟩).2.1]) ∧ Touch [] w w' := by
  by_cases hc : 0 ≤ c ∧ c < L.length
  · rw [show doA L ⟨1, c, 0, 0, 0⟩ = (⟨1, c, 0, 0, L.getD c.toNat 0⟩, true, L) from by unfold doA; rw [if_pos hc]; rfl]
    exact do_load h c 0 0 0 _ hc.1 hc.2 rfl
  · rw [show doA L ⟨1, c, 0, 0, 0⟩ = (Acc.zero, false, L) from if_neg hc]
    exact do_out h 1 c 0 0 0 hc

/-- A function that is there isn't nil. -/
theorem notNil (fn : Fn) (first cap : Array Value) (w : World) : Sem.run Try.prog (binOp BinOp.neq 91 (Value.func fn first cap) Value.nilFunc) w = .ok (.bool true) w := by kernel_rfl
theorem isNil (w : World) : Sem.run Try.prog (binOp BinOp.neq 91 Value.nilFunc Value.nilFunc) w = .ok (.bool false) w := by kernel_rfl

set_option maxHeartbeats 1600000 in
set_option maxRecDepth 100000 in
theorem wait_look {w : World} {m a : Nat} {L : List Int} (h : Mem w m a L) (n mode task stage c : Int) (fid : FuncId) (first cap : Array Value) (b : Bool) {S : List Nat} {G : World → Prop}
    (eg : ∀ args w, (callFunc fid args).run Try.prog w = .ok (.enter fid args) w) (hst : stageA mode stage = 0 ∨ stageA mode stage = 2) (hS : ∀ k, k ∈ S → k < w.heap.size ∧ k ≠ m ∧ k ≠ a) (hG : ∀ W W' T, G W → Touch T W W' → (∀ k, k ∈ T → w.heap.size ≤ k) → G W')
    (hF : ∀ W, Touch [] w W → Calls Try.prog fid (first ++ #[.int .u32 (doA L ⟨1, c, 0, 0, 0⟩).1.old] ++ cap) W fun e W' => e = .returned (.bool b) ∧ Touch S W W' ∧ G W') :
    Calls Try.prog 128 #[.pointer (some ⟨m, 0, none⟩), .agg #[.int .i64 n], .int .i64 mode, .int .i64 task, .agg #[.int .i64 stage], .int .i64 c, .func (.func fid) first cap] w
      fun e w' => e = .returned (.tuple #[.agg #[.int .i64 (if stageA mode stage = 2 then (if b then 4 else 3) else if b then 0 else if mode = 2 then 1 else 0)], .agg (doA L ⟨1, c, 0, 0, 0⟩).1.cells, .bool b, .bool (b && decide (stageA mode stage = 0))]) ∧ Mem w' m a L ∧ Touch S w w' ∧ G w' := by
  have hd := fun W (hM : Mem W m a L) => doload_any hM c
  have hs := fun W => stage_any mode stage W
  generalize (doA L ⟨1, c, 0, 0, 0⟩) = r at hd hF ⊢
  obtain ⟨⟨rk, rc, rx, ry, ro⟩, rok, L2⟩ := r
  simp only [Acc.cells] at hd hF ⊢
  have hmode : stageA mode stage = 2 → mode = 2 := fun h => by unfold stageA at h; split at h <;> omega
  generalize stageA mode stage = st at hs hst hmode ⊢
  have HMODE := Lib.hid hmode
  clear hmode
  generalize hnx : (if st = 2 then (if b then (4:Int) else 3) else if b then 0 else if mode = 2 then 1 else 0) = nx
  have HNX := Lib.hid hnx
  clear hnx
  have HD := Lib.hid hd
  have HF := Lib.hid hF
  have HS := Lib.hid hS
  have HG := Lib.hid hG
  have HT := Lib.hid hs
  clear hd hF hS hG hs
  have hrun := notNil (.func fid) first cap
  rcases hst with rfl | rfl
  · go_enter Try.func128, Try.ntmps128
    go_wp2_with fail
    refine (HT.out _).mono ?_
    rintro e w1 ⟨rfl, t1⟩
    obtain ⟨B0, B1, B2, B3⟩ := t1.own4 (by simp)
    have T1 : Touch [] w w1 := ((((Touch.refl [] _).alloc _).alloc _).alloc _).alloc _ |>.trans t1
    obtain ⟨x0, x1, x2⟩ := B0.own
    obtain ⟨y0, y1, y2⟩ := B3.own
    go_wp2_with fail
    refine (HD.out _ (h.touch T1 (by simp) (by simp))).mono ?_
    rintro e w2 ⟨rfl, t2⟩
    have T2 : Touch [] w w2 := T1.trans t2
    have Bn := t2.blk B2 (by simp)
    have Ba := t2.blk B3 (by simp)
    clear x0 x1 x2 y0 y1 y2 B0 B1 B2 B3 t1 t2 T1
    obtain ⟨y0, y1, y2⟩ := Ba.own
    go_wp2_with fail
    refine calls_from (Facts := fun W => Touch [] w W ∧ Blk W (w.heap.size + 2) #[.int .i64 0] ∧ Blk W (w.heap.size + 3) #[.int .i64 rk, .int .i64 rc, .int .u32 rx, .int .u32 ry, .int .u32 ro]) ?_ ⟨T2.newer touch_set5 (by simp; omega), touch_set5.blk Bn (by simp), blk_set5 Ba⟩
    rintro W ⟨tW, Bn, Ba⟩
    clear y0 y1 y2 T2
    refine (HF.out _ tW).mono ?_
    rintro e w3 ⟨rfl, t3, g3⟩
    have hM3 := (h.touch tW (by simp) (by simp)).touch t3 (fun hm => (HS.out _ hm).2.1 rfl) (fun hm => (HS.out _ hm).2.2 rfl)
    have T3 : Touch S w w3 := (tW.mono (by simp)).trans t3
    have Bn3 := t3.blk Bn (fun hm => by have := (HS.out _ hm).1; omega)
    have Ba3 := t3.blk Ba (fun hm => by have := (HS.out _ hm).1; omega)
    clear Bn Ba t3 tW
    obtain ⟨x0, x1, x2⟩ := Bn3.own
    obtain ⟨y0, y1, y2⟩ := Ba3.own
    cases b with
    | true =>
      go_wp2_with fail
      go_region
      all_goals go_wp2
      refine bodyPost_ret (v := .tuple #[.agg #[.int .i64 0], .agg #[.int .i64 rk, .int .i64 rc, .int .u32 rx, .int .u32 ry, .int .u32 ro], .bool true, .bool true]) (by simp [results, Try.results128, go_sem, x0, x1, y0, y1]) rfl ?_
      refine (fun (TF : Touch [w.heap.size + 2, w.heap.size + 3] w3 _) => ⟨by rw [← HNX.out]; rfl, h.new hM3 rfl TF (by simp), T3.newer TF (by simp), HG.out _ _ _ g3 TF (by simp)⟩) ?_
      repeat (first | with_reducible exact Touch.refl _ _ | with_reducible apply Touch.drew | with_reducible apply Touch.alloc | with_reducible refine Touch.set ?_ (by simp) _)
    | false =>
      by_cases h2 : mode = 2
      · subst h2
        go_wp2_with fail
        go_region
        all_goals go_wp2
        refine bodyPost_ret (v := .tuple #[.agg #[.int .i64 1], .agg #[.int .i64 rk, .int .i64 rc, .int .u32 rx, .int .u32 ry, .int .u32 ro], .bool false, .bool false]) (by simp [results, Try.results128, go_sem, x0, x1, y0, y1]) rfl ?_
        refine (fun (TF : Touch [w.heap.size + 2, w.heap.size + 3] w3 _) => ⟨by rw [← HNX.out]; rfl, h.new hM3 rfl TF (by simp), T3.newer TF (by simp), HG.out _ _ _ g3 TF (by simp)⟩) ?_
        repeat (first | with_reducible exact Touch.refl _ _ | with_reducible apply Touch.drew | with_reducible apply Touch.alloc | with_reducible refine Touch.set ?_ (by simp) _)
      · have h2' : (mode == 2) = false := by simpa using h2
        have H2 := Lib.hid h2
        clear h2
        go_wp2_with fail
        go_region
        all_goals go_wp2
        refine bodyPost_ret (v := .tuple #[.agg #[.int .i64 0], .agg #[.int .i64 rk, .int .i64 rc, .int .u32 rx, .int .u32 ry, .int .u32 ro], .bool false, .bool false]) (by simp [results, Try.results128, go_sem, x0, x1, y0, y1]) rfl ?_
        refine (fun (TF : Touch [w.heap.size + 2, w.heap.size + 3] w3 _) => ⟨by rw [← HNX.out, if_neg (by decide), if_neg (by decide), if_neg H2.out]; rfl, h.new hM3 rfl TF (by simp), T3.newer TF (by simp), HG.out _ _ _ g3 TF (by simp)⟩) ?_
        repeat (first | with_reducible exact Touch.refl _ _ | with_reducible apply Touch.drew | with_reducible apply Touch.alloc | with_reducible refine Touch.set ?_ (by simp) _)
  · go_enter Try.func128, Try.ntmps128
    go_wp2_with fail
    refine (HT.out _).mono ?_
    rintro e w1 ⟨rfl, t1⟩
    obtain ⟨B0, B1, B2, B3⟩ := t1.own4 (by simp)
    have T1 : Touch [] w w1 := ((((Touch.refl [] _).alloc _).alloc _).alloc _).alloc _ |>.trans t1
    obtain ⟨x0, x1, x2⟩ := B0.own
    obtain ⟨y0, y1, y2⟩ := B3.own
    go_wp2_with fail
    refine (HD.out _ (h.touch T1 (by simp) (by simp))).mono ?_
    rintro e w2 ⟨rfl, t2⟩
    have T2 : Touch [] w w2 := T1.trans t2
    have Bn := t2.blk B2 (by simp)
    have Ba := t2.blk B3 (by simp)
    clear x0 x1 x2 y0 y1 y2 B0 B1 B2 B3 t1 t2 T1
    obtain ⟨y0, y1, y2⟩ := Ba.own
    go_wp2_with fail
    refine calls_from (Facts := fun W => Touch [] w W ∧ Blk W (w.heap.size + 2) #[.int .i64 0] ∧ Blk W (w.heap.size + 3) #[.int .i64 rk, .int .i64 rc, .int .u32 rx, .int .u32 ry, .int .u32 ro]) ?_ ⟨T2.newer touch_set5 (by simp; omega), touch_set5.blk Bn (by simp), blk_set5 Ba⟩
    rintro W ⟨tW, Bn, Ba⟩
    clear y0 y1 y2 T2
    refine (HF.out _ tW).mono ?_
    rintro e w3 ⟨rfl, t3, g3⟩
    have hM3 := (h.touch tW (by simp) (by simp)).touch t3 (fun hm => (HS.out _ hm).2.1 rfl) (fun hm => (HS.out _ hm).2.2 rfl)
    have T3 : Touch S w w3 := (tW.mono (by simp)).trans t3
    have Bn3 := t3.blk Bn (fun hm => by have := (HS.out _ hm).1; omega)
    have Ba3 := t3.blk Ba (fun hm => by have := (HS.out _ hm).1; omega)
    clear Bn Ba t3 tW
    obtain ⟨x0, x1, x2⟩ := Bn3.own
    obtain ⟨y0, y1, y2⟩ := Ba3.own
    cases b with
    | true =>
      go_wp2_with fail
      go_region
      all_goals go_wp2
      refine bodyPost_ret (v := .tuple #[.agg #[.int .i64 4], .agg #[.int .i64 rk, .int .i64 rc, .int .u32 rx, .int .u32 ry, .int .u32 ro], .bool true, .bool false]) (by simp [results, Try.results128, go_sem, x0, x1, y0, y1]) rfl ?_
      refine (fun (TF : Touch [w.heap.size + 2, w.heap.size + 3] w3 _) => ⟨by rw [← HNX.out]; rfl, h.new hM3 rfl TF (by simp), T3.newer TF (by simp), HG.out _ _ _ g3 TF (by simp)⟩) ?_
      repeat (first | with_reducible exact Touch.refl _ _ | with_reducible apply Touch.drew | with_reducible apply Touch.alloc | with_reducible refine Touch.set ?_ (by simp) _)
    | false =>
      have hmode := HMODE.out (by first | rfl | trivial)
      subst hmode
      go_wp2_with fail
      go_region
      all_goals go_wp2
      refine bodyPost_ret (v := .tuple #[.agg #[.int .i64 3], .agg #[.int .i64 rk, .int .i64 rc, .int .u32 rx, .int .u32 ry, .int .u32 ro], .bool false, .bool false]) (by simp [results, Try.results128, go_sem, x0, x1, y0, y1]) rfl ?_
      refine (fun (TF : Touch [w.heap.size + 2, w.heap.size + 3] w3 _) => ⟨by rw [← HNX.out]; rfl, h.new hM3 rfl TF (by simp), T3.newer TF (by simp), HG.out _ _ _ g3 TF (by simp)⟩) ?_
      repeat (first | with_reducible exact Touch.refl _ _ | with_reducible apply Touch.drew | with_reducible apply Touch.alloc | with_reducible refine Touch.set ?_ (by simp) _)

end Go.Proofs.Ytlndihdlodempaa.Z
