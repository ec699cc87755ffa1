/- The statement WaitSteps: its walk. -/
import Derived.Test.YtghiggaldkojpaaZLaw07
import Derived.Test.YtghiggaldkojpaaZLaw06
import Derived.Deep.RegionHeld3
import Derived.Outline
set_option linter.unusedVariables false
set_option linter.unusedSimpArgs false
namespace Go.Proofs.Ytghiggaldkojpaa.Z
open Go.RowKit

theorem waitA_len (L : List Int) (n mode task stage c : Int) (p : Int → Bool) : (waitA L n mode task stage c p).words.length = L.length := by
  rcases stageA_is mode stage with e | e | e | e | e
  · rw [waitA0 e]
  · rw [waitA1 e]; exact doA_length _ _
  · rw [waitA2 e]
  · rw [waitA3 e]; exact takeA_len _ _ _
  · rw [waitA4 e]; exact doA_length _ _

theorem waitA_never (L : List Int) (n mode task stage c : Int) : (waitA L n mode task stage c fun _ => false).seen = false := by
  rcases stageA_is mode stage with e | e | e | e | e
  · rw [waitA0 e]
  · rw [waitA1 e]
  · rw [waitA2 e]
  · rw [waitA3 e]
  · rw [waitA4 e]

set_option maxHeartbeats 1600000 in
set_option maxRecDepth 100000 in
theorem waitSteps_some {A : Option Addr} {ln cp : Nat} {L : List Int} (w : World) (hr : Rd w 1 A ln (u32s L)) (hw : Words L) (n mode task stage c k mk x : Int) (hn : I64 n) :
    Calls Try.prog 4 #[.slice A ln cp, .int .i64 n, .int .i64 mode, .int .i64 task, .agg #[.int .i64 stage], .int .i64 c, .agg #[.int .i64 k, .int .u32 mk, .int .u32 x]] w fun e w' => e = .returned (.bool true) ∧ Touch [] w w' := by
  have hl := len_of_rd hr
  subst hl
  have h1024 := hw.1
  have i1 : ¬ ((1024 : Int) < (L.length : Int)) := by omega
  have HW := Lib.hid hw
  have HN := Lib.hid hn
  clear hw hn
  go_enter Try.func4, Try.ntmps4
  go_wp2_with fail
  refine (from_ok _ (hr.touch (((Touch.refl [] _).alloc _).alloc _) (by simp)) HW.out).mono ?_
  rintro e w1 ⟨mm, a, rfl, hM, k1, k2, t1⟩
  obtain ⟨B11, B13⟩ := t1.own2 (by simp)
  have T1 : Touch [] w w1 := (((Touch.refl [] w).alloc _).alloc _).trans t1
  go_wp2_with fail
  refine (copy_any _ (hr.touch (T1.alloc _) (by simp)) (by omega)).mono ?_
  rintro e w2 ⟨p, cap, rfl, hown, t2⟩
  obtain ⟨g, hR, hg, hga⟩ := Row.of_owns_ne hown HW.out a (fun h0 => by have := hM.lt.2 h0; simp; omega)
  obtain ⟨hcap, hcm⟩ := owns_cap hown
  have hM2 := (hM.touch ((Touch.refl [] _).alloc _) (by simp) (by simp)).touch t2 (by simp) (by simp)
  have B17 := t2.own1 (by simp)
  have B11 := t2.blk (B11.alloc _) (by simp)
  have B13 := t2.blk (B13.alloc _) (by simp)
  have T2 : Touch [] w w2 := (T1.alloc _).trans t2
  have s1 := t1.size
  have s2 := t2.size
  simp only [World.size_alloc] at s1 s2 hg k1 k2
  have hml := hM.lt
  have HG := Lib.hid (show w.heap.size + 1 < a ∧ w.heap.size + 1 < g ∧ g ≠ a ∧ mm ≠ g ∧ mm ≠ a ∧ (0 < L.length → a < w1.heap.size) ∧ w1.heap.size + 1 ≤ g from ⟨by omega, by omega, hga, by omega, hM.ne, hml.2, hg⟩)
  have hsz := Lib.hid (show w.heap.size + 1 < w1.heap.size from by omega)
  clear hown hM t1 t2 T1 k1 k2 s1 s2 hg hga hml
  have hT : ∀ w', Touch [] w2 w' → Touch [] w2 w' ∧ (w.heap.size < w'.heap.size ∧ w.heap.size + 1 < w'.heap.size ∧ w1.heap.size < w'.heap.size) ∧
      (∀ i, w'.cell? ⟨w.heap.size, i, none⟩ = #[Value.int .i64 stage][i]?) ∧ (∀ i, w'.cell? ⟨w.heap.size + 1, i, none⟩ = #[Value.int .i64 k, .int .u32 mk, .int .u32 x][i]?) ∧ (∀ i, w'.cell? ⟨w1.heap.size, i, none⟩ = #[Value.int .i64 n][i]?) := fun w' t =>
    ⟨t, ⟨(t.blk B11 (by simp)).lt, (t.blk B13 (by simp)).lt, (t.blk B17 (by simp)).lt⟩, (t.blk B11 (by simp)).cell, (t.blk B13 (by simp)).cell, (t.blk B17 (by simp)).cell⟩
  have hc1 : ∀ w', Touch [] w2 w' → Calls Try.prog 25 #[.pointer (some ⟨mm, 0, none⟩), .agg #[.int .i64 n], .int .i64 mode, .int .i64 task, .agg #[.int .i64 stage]] w' fun e w'' => e = .returned (.bool (stuckA L n mode task stage)) ∧ Touch [] w2 w'' :=
    fun w' t => (stuck_any (hM2.touch t (by simp) (by simp)) n mode task stage HN.out).mono (fun e w'' h => ⟨h.1, t.trans h.2⟩)
  have hc2 : ∀ w', Touch [] w2 w' → Calls Try.prog 26 #[.slice p L.length cap, .int .i64 n, .int .i64 mode, .int .i64 task, .agg #[.int .i64 stage]] w' fun e w'' => e = .returned (.bool (stuckA L n mode task stage)) ∧ Touch [] w2 w'' :=
    fun w' t => (rstuck_any (hR.touch t (by simp)) hcap hcm n mode task stage).mono (fun e w'' h => ⟨h.1, t.trans h.2⟩)
  go_wp2_with fail
  generalize stuckA L n mode task stage = bs at hc1 hc2
  go_region_held3 (fun w' => Touch [] w2 w' ∧ (w.heap.size < w'.heap.size ∧ w.heap.size + 1 < w'.heap.size ∧ w1.heap.size < w'.heap.size) ∧
      (∀ i, w'.cell? ⟨w.heap.size, i, none⟩ = #[Value.int .i64 stage][i]?) ∧ (∀ i, w'.cell? ⟨w.heap.size + 1, i, none⟩ = #[Value.int .i64 k, .int .u32 mk, .int .u32 x][i]?) ∧ (∀ i, w'.cell? ⟨w1.heap.size, i, none⟩ = #[Value.int .i64 n][i]?))
    (first | (go_split_ands; refine hT _ ?_; first | assumption | exact Touch.refl _ _ | (with_reducible apply Touch.drew; first | exact Touch.refl _ _ | assumption)))
    (first
      | (go_at_call 25; refine (hc1 _ (by go_split_ands; first | assumption | exact Touch.refl _ _ | (with_reducible apply Touch.drew; first | exact Touch.refl _ _ | assumption))).mono ?_; rintro e w5 ⟨rfl, t5⟩)
      | (go_at_call 26; refine (hc2 _ (by go_split_ands; first | assumption | exact Touch.refl _ _ | (with_reducible apply Touch.drew; first | exact Touch.refl _ _ | assumption))).mono ?_; rintro e w6 ⟨rfl, t6⟩))
  all_goals
    go_wp2_with fail
    refine calls_from (Facts := fun W => Touch [] w2 W) ?_ (by first | assumption | exact Touch.refl _ _ | (with_reducible apply Touch.drew; first | exact Touch.refl _ _ | assumption))
    intro W tW
    have TW : Touch [] w W := T2.trans tW
    have hM := hM2.touch tW (by simp) (by simp)
    have hR := hR.touch tW (by simp)
    have B11 := tW.blk B11 (by simp)
    have B13 := tW.blk B13 (by simp)
    have B17 := tW.blk B17 (by simp)
    have hgl : (waitA L n mode task stage c (untilA k mk x)).words.length = L.length := waitA_len _ _ _ _ _ _ _
    have hd := fun W (hM : Mem W mm a L) => wait_until hM n mode task stage c HN.out k mk x
    have hrd := fun W (hR : Row W p g L) => rwait_any hR hcap hcm n mode task stage c k mk x
    generalize (waitA L n mode task stage c (untilA k mk x)) = r at hd hrd hgl
    obtain ⟨st, ⟨rk, rc, rx, ry, ro⟩, rs, rd, L2⟩ := r
    simp only [WaitR.value, Acc.cells] at hd hrd hgl
    have HLEN := Lib.hid hgl
    have HRD := Lib.hid hrd
    refine (hd W hM).mono ?_
    clear hd hrd hgl hc1 hc2 hT hM2
    rintro e w3 ⟨rfl, hM3, t3⟩
    have T3 : Touch [] w w3 := TW.newer t3 (lv_ge (by have := HG.out; omega))
    have hgT : ∀ q, q ∉ lv a L ∨ a ≤ q := fun q => by by_cases h : q = a <;> first | exact Or.inr (by omega) | exact Or.inl (lv_not h)
    have hR3 := hR.touch t3 (lv_not HG.out.2.2.1)
    have B11 := t3.blk B11 (lv_not (by have := HG.out; omega))
    have B13 := t3.blk B13 (lv_not (by have := HG.out; omega))
    have B17 := t3.blk B17 (fun hm => by have h1 := mem_lv hm; have := HG.out; omega)
    clear tW TW hM hR hgT
    obtain ⟨x0, x1, x2⟩ := B11.own
    obtain ⟨y0, y1, y2⟩ := B13.own
    have x3 : w.heap.size < w3.heap.size + 1 := by omega
    have x4 : w.heap.size < w3.heap.size + 1 + 1 := by omega
    have x5 : w.heap.size < w3.heap.size + 2 := by omega
    have y3 : w.heap.size + 1 < w3.heap.size + 1 := by omega
    have y4 : w.heap.size + 1 < w3.heap.size + 1 + 1 := by omega
    have y5 : w.heap.size + 1 < w3.heap.size + 2 := by omega
    go_wp2_with fail
    refine (HRD.out _ (hR3.touch (((Touch.refl [] _).alloc _).alloc _) (by simp))).mono ?_
    rintro e w4 ⟨rfl, hR4, t4⟩
    have s3 := B17.lt
    have T4 : Touch [] w w4 := ((T3.alloc _).alloc _).newer t4 (lv_ge (by have := HG.out; omega))
    have hM4 := (hM3.touch (((Touch.refl [] _).alloc _).alloc _) (by simp) (by simp)).touch t4 (lv_not HG.out.2.2.2.1) (lv_not (Ne.symm HG.out.2.2.1))
    have hgl : ∀ q, q ∈ lv g L → q < w3.heap.size := fun q hm => by have h1 := mem_lv hm; have := hR3.lt (by rw [HLEN.out] at *; omega); omega
    obtain ⟨B19, B20⟩ := t4.own2 hgl
    have B11 := t4.blk ((B11.alloc _).alloc _) (lv_not (by have := HG.out; omega))
    have B17 := t4.blk ((B17.alloc _).alloc _) (lv_not (by have := HG.out; have := hsz.out; omega))
    clear x0 x1 x2 x3 x4 x5 y0 y1 y2 y3 y4 y5 T3 hM3 hR3 t3 t4 hgl B13
    obtain ⟨x0, x1, x2⟩ := B19.own
    obtain ⟨y0, y1, y2⟩ := B20.own
    have x3 : w3.heap.size < w4.heap.size + 1 := by omega
    have x4 : w3.heap.size < w4.heap.size + 1 + 1 := by omega
    have x5 : w3.heap.size < w4.heap.size + 2 := by omega
    have y3 : w3.heap.size + 1 < w4.heap.size + 1 := by omega
    have y4 : w3.heap.size + 1 < w4.heap.size + 1 + 1 := by omega
    have y5 : w3.heap.size + 1 < w4.heap.size + 2 := by omega
    go_wp2_with fail
    have hA := all_mem (hM4.touch (((Touch.refl [] _).alloc (.cells #[.int .i64 st] 24)).alloc (.cells #[.int .i64 rk, .int .i64 rc, .int .u32 rx, .int .u32 ry, .int .u32 ro] 34)) (by simp) (by simp))
    refine hA.mono ?_
    rintro e w5 ⟨p', cap', rfl, ho, t5⟩
    have T5 : Touch [] w w5 := ((T4.alloc _).alloc _).trans t5
    have hM5 := (hM4.touch (((Touch.refl [] _).alloc _).alloc _) (by simp) (by simp)).touch t5 (by simp) (by simp)
    have hR5 := (hR4.touch (((Touch.refl [] _).alloc _).alloc _) (by simp)).touch t5 (by simp)
    have B11 := t5.blk ((B11.alloc _).alloc _) (by simp)
    have B17 := t5.blk ((B17.alloc _).alloc _) (by simp)
    have hSame := same_any (c := cap') (d := cap) w5 (Rd.own ho) (Row.rd' (n := L.length) hR5 HLEN.out) (by have := HLEN.out; omega)
    simp only [decide_true] at hSame
    clear x0 x1 x2 x3 x4 x5 y0 y1 y2 y3 y4 y5 t5 ho hA hM4 hR4 B19 B20
    go_wp2_with fail
    refine hSame.mono ?_
    rintro e w6 ⟨rfl, t6⟩
    have T6 : Touch [] w w6 := T5.trans t6
    have hM6 := hM5.touch t6 (by simp) (by simp)
    have B11 := t6.blk B11 (by simp)
    have B17 := t6.blk B17 (by simp)
    clear hSame hM5 hR5 T5 t6
    obtain ⟨x0, x1, x2⟩ := B11.own
    obtain ⟨y0, y1, y2⟩ := B17.own
    go_wp2_with fail
    have hnv := waitA_never L2 n mode task stage c
    have hd := fun W (hM : Mem W mm a L2) => wait_never hM n mode task stage c HN.out
    generalize (waitA L2 n mode task stage c fun _ => false) = r at hd hnv
    obtain ⟨st', ⟨rk', rc', rx', ry', ro'⟩, rs', rd', L3⟩ := r
    simp only at hnv
    subst hnv
    simp only [WaitR.value, Acc.cells] at hd
    refine (hd _ hM6).mono ?_
    rintro e w7 ⟨rfl, hM7, t7⟩
    have T7 : Touch [] w w7 := T6.newer t7 (lv_ge (by have := HG.out; omega))
    clear x0 x1 x2 y0 y1 y2 hd
    go_wp2_with fail
    refine (awake07 _).mono ?_
    rintro e w8 ⟨rfl, t8⟩
    go_wp2_with fail
    go_ret
    exact ⟨rfl, ((T7.alloc _).alloc _).trans t8⟩

theorem waitSteps_long {A : Option Addr} {ln cp : Nat} (w : World) (n mode task stage c k mk x : Int) (hl : 1024 < ln) :
    Calls Try.prog 4 #[.slice A ln cp, .int .i64 n, .int .i64 mode, .int .i64 task, .agg #[.int .i64 stage], .int .i64 c, .agg #[.int .i64 k, .int .u32 mk, .int .u32 x]] w fun e w' => e = .returned (.bool true) ∧ Touch [] w w' := by
  have i1 : ((1024 : Int) < (ln : Int)) := by omega
  go_enter Try.func4, Try.ntmps4
  go_wp2_with (go_at_call 16; refine (awake07 _).mono ?_; rintro e w9 ⟨rfl, t9⟩)
  go_ret
  exact ⟨rfl, (((Touch.refl [] w).alloc _).alloc _).trans t9⟩

/-- WHATEVER THE INPUT. -/
theorem waitSteps_any {A : Option Addr} {ln cp : Nat} {L : List Int} (w : World) (hr : Rd w 1 A ln (L.flatMap fun x => [Value.int .u32 x])) (hL : ∀ x, x ∈ L → 0 ≤ x ∧ x < 4294967296) (n mode task stage c k mk x : Int) (hn : I64 n) :
    Calls Try.prog 4 #[.slice A ln cp, .int .i64 n, .int .i64 mode, .int .i64 task, .agg #[.int .i64 stage], .int .i64 c, .agg #[.int .i64 k, .int .u32 mk, .int .u32 x]] w fun e w' => e = .returned (.bool true) ∧ Touch [] w w' := by
  have hr' : Rd w 1 A ln (u32s L) := by
    rw [← u32s_flatMap]
    exact hr
  by_cases hl : ln ≤ 1024
  · exact waitSteps_some w hr' ⟨by have := len_of_rd hr'; omega, hL⟩ n mode task stage c k mk x hn
  · exact waitSteps_long w n mode task stage c k mk x (by omega)

end Go.Proofs.Ytghiggaldkojpaa.Z
