/- The statement WaitAccess: its walk. -/
import Derived.Test.YtghiggaldkojpaaZLawWaitSteps
import Derived.Deep.RegionHeld3
import Derived.Outline
set_option linter.unusedVariables false
set_option linter.unusedSimpArgs false
namespace Go.Proofs.Ytghiggaldkojpaa.Z
open Go.RowKit

/-- An access that is done once more tells the same. -/
theorem doA_again (L : List Int) (b : Acc) : (doA L b).1 = Acc.zero ∧ (doA L b).2.2 = L ∨ doA L (doA L b).1 = doA L b ∧ (doA L b).2.1 = true ∧ (doA L b).1.kind = b.kind ∧ (doA L b).1.cell = b.cell ∧ b.kind ≠ 0 := by
  by_cases hc : 0 ≤ b.cell ∧ b.cell < L.length
  · by_cases k1 : b.kind = 1
    · refine Or.inr ?_
      have e : doA L b = ({ b with old := L.getD b.cell.toNat 0 }, true, L) := by unfold doA; rw [if_pos hc]; simp [k1]
      rw [e]
      refine ⟨?_, rfl, rfl, rfl, by omega⟩
      unfold doA; rw [if_pos hc]; simp [k1]
    by_cases k3 : b.kind = 3
    · refine Or.inr ?_
      have e : doA L b = ({ b with old := L.getD b.cell.toNat 0 }, true, L.set b.cell.toNat ((L.getD b.cell.toNat 0 + b.x) % 4294967296)) := by unfold doA; rw [if_pos hc]; simp [k3]
      rw [e]
      refine ⟨?_, rfl, rfl, rfl, by omega⟩
      unfold doA; rw [if_pos hc]; simp [k3]
    by_cases k5 : b.kind = 5
    · refine Or.inr ?_
      have e : doA L b = ({ b with old := L.getD b.cell.toNat 0 }, true, if L.getD b.cell.toNat 0 = b.x then L.set b.cell.toNat b.y else L) := by unfold doA; rw [if_pos hc]; simp [k5]
      rw [e]
      refine ⟨?_, rfl, rfl, rfl, by omega⟩
      unfold doA; rw [if_pos hc]; simp [k5]
    by_cases k24 : b.kind = 2 ∨ b.kind = 4
    · refine Or.inr ?_
      have e : doA L b = ({ b with old := L.getD b.cell.toNat 0 }, true, L.set b.cell.toNat b.x) := by unfold doA; rw [if_pos hc]; simp [k1, k3, k5, k24]
      rw [e]
      refine ⟨?_, rfl, rfl, rfl, by omega⟩
      unfold doA; rw [if_pos hc]; simp [k1, k3, k5, k24]
    · refine Or.inl ?_
      unfold doA; rw [if_pos hc]; simp [k1, k3, k5, k24]
  · refine Or.inl ?_
    unfold doA; rw [if_neg hc]; exact ⟨rfl, rfl⟩

/-- What a step of waiting does is one access at most, and which. -/
theorem waitA_one (L : List Int) (n mode task stage c : Int) (p : Int → Bool) :
    (waitA L n mode task stage c p).acc = Acc.zero ∧ (waitA L n mode task stage c p).words = L ∨
    doA L (waitA L n mode task stage c p).acc = ((waitA L n mode task stage c p).acc, true, (waitA L n mode task stage c p).words) ∧ (waitA L n mode task stage c p).acc.kind ≠ 0 ∧
      ((waitA L n mode task stage c p).acc.cell = cellP n 2 task ∨ (waitA L n mode task stage c p).acc.cell = cellP n 3 task ∨ (waitA L n mode task stage c p).acc.kind = 1 ∧ (waitA L n mode task stage c p).acc.cell = c) := by
  have key : ∀ b : Acc, b.kind ≠ 0 → (b.cell = cellP n 2 task ∨ b.cell = cellP n 3 task ∨ b.kind = 1 ∧ b.cell = c) → ∀ L2, L2 = (doA L b).2.2 →
      (doA L b).1 = Acc.zero ∧ L2 = L ∨ doA L (doA L b).1 = ((doA L b).1, true, L2) ∧ (doA L b).1.kind ≠ 0 ∧ ((doA L b).1.cell = cellP n 2 task ∨ (doA L b).1.cell = cellP n 3 task ∨ (doA L b).1.kind = 1 ∧ (doA L b).1.cell = c) := by
    rintro b hk hc L2 rfl
    rcases doA_again L b with h | ⟨h1, h2, h3, h4, h5⟩
    · exact Or.inl h
    · refine Or.inr ⟨?_, by rw [h3]; exact hk, by rw [h3, h4]; exact hc⟩
      rw [h1, ← h2]
  rcases stageA_is mode stage with e | e | e | e | e
  · rw [waitA0 e]; exact key ⟨1, c, 0, 0, 0⟩ (by simp) (Or.inr (Or.inr ⟨rfl, rfl⟩)) _ (doA_load _ _ _ _ _).symm
  · rw [waitA1 e]; exact key _ (by simp) (Or.inl rfl) _ rfl
  · rw [waitA2 e]; exact key ⟨1, c, 0, 0, 0⟩ (by simp) (Or.inr (Or.inr ⟨rfl, rfl⟩)) _ (doA_load _ _ _ _ _).symm
  · rw [waitA3 e]
    dsimp only
    unfold takeA
    split
    · exact key _ (by simp) (Or.inr (Or.inl rfl)) _ rfl
    · exact Or.inl ⟨rfl, rfl⟩
  · rw [waitA4 e]; exact key _ (by simp) (Or.inl rfl) _ rfl

theorem doA_ok (L : List Int) (b : Acc) (hx : 0 ≤ b.x ∧ b.x < 4294967296) (hy : 0 ≤ b.y ∧ b.y < 4294967296) : (0 ≤ (doA L b).1.x ∧ (doA L b).1.x < 4294967296) ∧ (0 ≤ (doA L b).1.y ∧ (doA L b).1.y < 4294967296) := by
  unfold doA
  dsimp only
  repeat' split
  all_goals first | exact ⟨hx, hy⟩ | (simp [Acc.zero])

theorem waitA_ok (L : List Int) (n mode task stage c : Int) (p : Int → Bool) :
    (0 ≤ (waitA L n mode task stage c p).acc.x ∧ (waitA L n mode task stage c p).acc.x < 4294967296) ∧ (0 ≤ (waitA L n mode task stage c p).acc.y ∧ (waitA L n mode task stage c p).acc.y < 4294967296) := by
  rcases stageA_is mode stage with e | e | e | e | e
  · rw [waitA0 e]; exact doA_ok _ _ (by simp) (by simp)
  · rw [waitA1 e]; exact doA_ok _ _ (by simp; omega) (by simp)
  · rw [waitA2 e]; exact doA_ok _ _ (by simp) (by simp)
  · rw [waitA3 e]
    dsimp only
    unfold takeA
    split
    · exact doA_ok _ _ (by simp) (by simp)
    · simp [Acc.zero]
  · rw [waitA4 e]; exact doA_ok _ _ (by simp) (by simp)

theorem doA_zero (L : List Int) : doA L ⟨0, 0, 0, 0, 0⟩ = (⟨0, 0, 0, 0, 0⟩, false, L) := by
  unfold doA
  split <;> rfl

set_option maxHeartbeats 3200000 in
set_option maxRecDepth 100000 in
theorem waitAccess_some {A : Option Addr} {ln cp : Nat} {L : List Int} (w : World) (hr : Rd w 1 A ln (u32s L)) (hw : Words L) (nn mode task stage c k mk x : Int) (hn0 : 0 ≤ nn) (hn1 : nn ≤ 255) :
    Calls Try.prog 3 #[.slice A ln cp, .int .u8 nn, .int .i64 mode, .int .i64 task, .agg #[.int .i64 stage], .int .i64 c, .agg #[.int .i64 k, .int .u32 mk, .int .u32 x]] w fun e w' => e = .returned (.bool true) ∧ Touch [] w w' := by
  have hl := len_of_rd hr
  subst hl
  have h1024 := hw.1
  have i1 : ¬ ((1024 : Int) < (L.length : Int)) := by omega
  have HW := Lib.hid hw
  clear hw
  have hgl : (waitA L (1 + nn % 64) mode task stage c (untilA k mk x)).words.length = L.length := waitA_len _ _ _ _ _ _ _
  have hd := fun W mm a (hM : Mem W mm a L) => wait_until hM (1 + nn % 64) mode task stage c (by unfold I64; omega) k mk x
  have hone := waitA_one L (1 + nn % 64) mode task stage c (untilA k mk x)
  have hok := waitA_ok L (1 + nn % 64) mode task stage c (untilA k mk x)
  have hq2 := fun W => refCell_any (1 + nn % 64) 2 task W (by decide)
  have hq3 := fun W => refCell_any (1 + nn % 64) 3 task W (by decide)
  generalize cellP (1 + nn % 64) 2 task = q2 at hone hq2
  generalize cellP (1 + nn % 64) 3 task = q3 at hone hq3
  generalize (waitA L (1 + nn % 64) mode task stage c (untilA k mk x)) = r at hd hgl hone hok
  obtain ⟨st, ⟨rk, rc, rx, ry, ro⟩, rs, rd, L2⟩ := r
  simp only [WaitR.value, Acc.cells, Acc.zero, Acc.mk.injEq] at hd hgl hone hok
  have HD := Lib.hid hd
  have HLEN := Lib.hid hgl
  have HQ2 := Lib.hid hq2
  have HQ3 := Lib.hid hq3
  have HONE := Lib.hid hone
  have HOK := Lib.hid hok
  clear hd hgl hq2 hq3 hone hok
  go_enter Try.func3, Try.ntmps3
  go_wp2_with fail
  refine (from_ok _ (hr.touch (((Touch.refl [] _).alloc _).alloc _) (by simp)) HW.out).mono ?_
  rintro e w1 ⟨mm, a, rfl, hM, k1, k2, t1⟩
  obtain ⟨B11, B13⟩ := t1.own2 (by simp)
  have T1 : Touch [] w w1 := (((Touch.refl [] w).alloc _).alloc _).trans t1
  simp only [World.size_alloc] at k1 k2
  obtain ⟨x0, x1, x2⟩ := B11.own
  obtain ⟨y0, y1, y2⟩ := B13.own
  go_wp2_with fail
  refine (HD.out _ _ _ hM).mono ?_
  rintro e w3 ⟨rfl, hM3, t3⟩
  have T3 : Touch [] w w3 := T1.newer t3 (lv_ge (by omega))
  have hlt := hM.lt
  clear x0 x1 x2 y0 y1 y2 B11 B13 hM t1
  go_wp2_with fail
  refine (copy_any _ (hr.touch ((T3.alloc _).alloc _) (by simp)) (by omega)).mono ?_
  rintro e w4 ⟨p, cap, rfl, hown, t4⟩
  obtain ⟨g, hR, hg, hga⟩ := Row.of_owns_ne hown HW.out a (fun h0 => by have := hlt.2 h0; have := t3.size; simp; omega)
  obtain ⟨hcap, hcm⟩ := owns_cap hown
  have hM4 := (hM3.touch (((Touch.refl [] _).alloc _).alloc _) (by simp) (by simp)).touch t4 (by simp) (by simp)
  obtain ⟨B18, B19⟩ := t4.own2 (by simp)
  have T4 : Touch [] w w4 := ((T3.alloc _).alloc _).trans t4
  have s3 := t3.size
  have s1 := hlt.1
  simp only [World.size_alloc] at hg
  have HG := Lib.hid (show w.heap.size ≤ a ∧ w.heap.size ≤ g ∧ g ≠ a ∧ mm ≠ g ∧ mm ≠ a ∧ w3.heap.size + 2 ≤ g from ⟨by omega, by have := T3.size; omega, hga, by omega, hM3.ne, by omega⟩)
  clear hown t3 t4 T1 T3 hlt hM3 k1 k2 hga s1
  obtain ⟨y0, y1, y2⟩ := B19.own
  rcases HONE.out with ⟨⟨rfl, rfl, rfl, rfl, rfl⟩, rfl⟩ | ⟨hdo, hk, hcell⟩
  · have hdz := rdo_any hR hcap hcm ⟨0, 0, 0, 0, 0⟩ (by simp) (by simp)
    rw [doA_zero] at hdz
    simp only [Acc.cells] at hdz
    go_wp2_with fail
    refine hdz.mono ?_
    rintro e w5 ⟨rfl, hR5, t5⟩
    have T5 : Touch [] w w5 := T4.newer t5 (lv_ge (by have := HG.out; omega))
    have hM5 := hM4.touch t5 (lv_not HG.out.2.2.2.1) (lv_not (Ne.symm HG.out.2.2.1))
    have B19 := t5.blk B19 (lv_not (by have := HG.out; omega))
    clear y0 y1 y2 hdz t5 T4 hR hM4 hR5
    obtain ⟨y0, y1, y2⟩ := B19.own
    have y3 : w3.heap.size + 1 < w5.heap.size + 1 := by omega
    go_wp2_with fail
    refine (all_mem (hM5.touch ((Touch.refl [] _).alloc _) (by simp) (by simp))).mono ?_
    rintro e w6 ⟨p', cap', rfl, ho, t6⟩
    have T6 : Touch [] w w6 := (T5.alloc _).trans t6
    have hSame := same_any (c := cap') (d := cp) w6 (Rd.own ho) (hr.touch T6 (by simp)) (by omega)
    simp only [decide_true] at hSame
    clear y0 y1 y2 y3 ho B19
    go_wp2_with fail
    refine hSame.mono ?_
    rintro e w7 ⟨rfl, t7⟩
    clear hSame
    go_wp2_with fail
    refine (awake07 _).mono ?_
    rintro e w8 ⟨rfl, t8⟩
    go_wp2_with fail
    go_ret
    exact ⟨rfl, (T6.trans t7).trans t8⟩
  · have hk' : (rk == 0) = false := by simpa using hk
    have hdz := rdo_any hR hcap hcm ⟨rk, rc, rx, ry, ro⟩ HOK.out.1 HOK.out.2
    rw [hdo] at hdz
    simp only [Acc.cells] at hdz
    clear hdo hk
    have HCELL := Lib.hid hcell
    clear hcell
    go_wp2_with fail
    refine hdz.mono ?_
    rintro e w5 ⟨rfl, hR5, t5⟩
    have T5 : Touch [] w w5 := T4.newer t5 (lv_ge (by have := HG.out; omega))
    have hM5 := hM4.touch t5 (lv_not HG.out.2.2.2.1) (lv_not (Ne.symm HG.out.2.2.1))
    have B19 := t5.blk B19 (lv_not (by have := HG.out; omega))
    clear y0 y1 y2 hdz t5 T4 hR hM4
    obtain ⟨y0, y1, y2⟩ := B19.own
    have y3 : w3.heap.size + 1 < w5.heap.size + 1 := by omega
    go_wp2_with fail
    refine wp_from (Facts := fun W => Touch [] w5 W ∧ Blk W (w3.heap.size + 1) #[.int .i64 rk, .int .i64 rc, .int .u32 rx, .int .u32 ry, .int .u32 ro] ∧ Blk W w5.heap.size #[.int .i64 rk, .int .i64 rc, .int .u32 rx, .int .u32 ry, .int .u32 ro]) ?_ ⟨(Touch.refl [] _).alloc _, B19.alloc _, Blk.new _ _ _⟩
    rintro W ⟨tW, B19, B23⟩
    clear y0 y1 y2 y3
    have TW : Touch [] w W := T5.trans tW
    have hM := hM5.touch tW (by simp) (by simp)
    have hR := hR5.touch tW (by simp)
    obtain ⟨y0, y1, y2⟩ := B19.own
    obtain ⟨z0, z1, z2⟩ := B23.own
    clear tW hM5 hR5 B18
    have hT : ∀ w', Touch [] W w' → Touch [] W w' ∧ w3.heap.size + 1 < w'.heap.size ∧ w5.heap.size < w'.heap.size ∧ (∀ i, w'.cell? ⟨w3.heap.size + 1, i, none⟩ = #[Value.int .i64 rk, .int .i64 rc, .int .u32 rx, .int .u32 ry, .int .u32 ro][i]?) ∧ (∀ i, w'.cell? ⟨w5.heap.size, i, none⟩ = #[Value.int .i64 rk, .int .i64 rc, .int .u32 rx, .int .u32 ry, .int .u32 ro][i]?) := fun w' t => ⟨t, (t.blk B19 (by simp)).lt, (t.blk B23 (by simp)).lt, (t.blk B19 (by simp)).cell, (t.blk B23 (by simp)).cell⟩
    have HK2 := Lib.hid (fun n => (HQ2.out (W.drewN n)).mono (R' := fun e w' => e = .returned (.int .i64 q2) ∧ w' = W.drewN n) (fun _ _ h => ⟨h.1, h.2.symm⟩))
    have HK3 := Lib.hid (fun n => (HQ3.out (W.drewN n)).mono (R' := fun e w' => e = .returned (.int .i64 q3) ∧ w' = W.drewN n) (fun _ _ h => ⟨h.1, h.2.symm⟩))
    by_cases h2 : rc = q2
    · have e2 : (rc == q2) = true := by simpa using h2
      clear h2
      go_quiet ((first
        | (go_at_call 24; with_reducible exact Calls.quiet_of_same (HK2.out _))
        | (go_at_call 24; with_reducible exact Calls.quiet_of_same (HK3.out _))))
      all_goals
        go_wp2_with fail
        refine (all_mem (hM.touch (S := []) (by first | exact Touch.refl _ _ | assumption | (with_reducible apply Touch.drewN; exact Touch.refl _ _)) (by simp) (by simp))).mono ?_
        rintro e w6 ⟨p', cap', rfl, ho, t6⟩
        have T6 : Touch [] w w6 := TW.trans (Touch.trans (by first | exact Touch.refl _ _ | assumption | (with_reducible apply Touch.drewN; exact Touch.refl _ _)) t6)
        have hR6 := (hR.touch (S := []) (by first | exact Touch.refl _ _ | assumption | (with_reducible apply Touch.drewN; exact Touch.refl _ _)) (by simp)).touch t6 (by simp)
        have hSame := same_any (c := cap') (d := cap) w6 (Rd.own ho) (Row.rd' (n := L.length) hR6 HLEN.out) (by have := HLEN.out; omega)
        simp only [decide_true] at hSame
        clear ho hR6
        go_wp2_with fail
        refine hSame.mono ?_
        rintro e w7 ⟨rfl, t7⟩
        clear hSame
        go_wp2_with fail
        refine (awake07 _).mono ?_
        rintro e w8 ⟨rfl, t8⟩
        go_wp2_with fail
        go_ret
        exact ⟨rfl, (T6.trans t7).trans t8⟩
    · have e2 : (rc == q2) = false := by simpa using h2
      by_cases h3 : rc = q3
      · have e3 : (rc == q3) = true := by simpa using h3
        clear h2 h3
        go_quiet ((first
          | (go_at_call 24; with_reducible exact Calls.quiet_of_same (HK2.out _))
          | (go_at_call 24; with_reducible exact Calls.quiet_of_same (HK3.out _))))
        all_goals
          go_wp2_with fail
          refine (all_mem (hM.touch (S := []) (by first | exact Touch.refl _ _ | assumption | (with_reducible apply Touch.drewN; exact Touch.refl _ _)) (by simp) (by simp))).mono ?_
          rintro e w6 ⟨p', cap', rfl, ho, t6⟩
          have T6 : Touch [] w w6 := TW.trans (Touch.trans (by first | exact Touch.refl _ _ | assumption | (with_reducible apply Touch.drewN; exact Touch.refl _ _)) t6)
          have hR6 := (hR.touch (S := []) (by first | exact Touch.refl _ _ | assumption | (with_reducible apply Touch.drewN; exact Touch.refl _ _)) (by simp)).touch t6 (by simp)
          have hSame := same_any (c := cap') (d := cap) w6 (Rd.own ho) (Row.rd' (n := L.length) hR6 HLEN.out) (by have := HLEN.out; omega)
          simp only [decide_true] at hSame
          clear ho hR6
          go_wp2_with fail
          refine hSame.mono ?_
          rintro e w7 ⟨rfl, t7⟩
          clear hSame
          go_wp2_with fail
          refine (awake07 _).mono ?_
          rintro e w8 ⟨rfl, t8⟩
          go_wp2_with fail
          go_ret
          exact ⟨rfl, (T6.trans t7).trans t8⟩
      · have e3 : (rc == q3) = false := by simpa using h3
        obtain ⟨h5, h6⟩ : rk = 1 ∧ rc = c := by
          have := HCELL.out
          rcases this with h | h | h
          · exact absurd h h2
          · exact absurd h h3
          · exact h
        have e5 : (rk == 1) = true := by simpa using h5
        have e6 : (rc == c) = true := by simpa using h6
        clear h2 h3 h5 h6
        go_quiet ((first
          | (go_at_call 24; with_reducible exact Calls.quiet_of_same (HK2.out _))
          | (go_at_call 24; with_reducible exact Calls.quiet_of_same (HK3.out _))))
        all_goals
          go_wp2_with fail
          refine (all_mem (hM.touch (S := []) (by first | exact Touch.refl _ _ | assumption | (with_reducible apply Touch.drewN; exact Touch.refl _ _)) (by simp) (by simp))).mono ?_
          rintro e w6 ⟨p', cap', rfl, ho, t6⟩
          have T6 : Touch [] w w6 := TW.trans (Touch.trans (by first | exact Touch.refl _ _ | assumption | (with_reducible apply Touch.drewN; exact Touch.refl _ _)) t6)
          have hR6 := (hR.touch (S := []) (by first | exact Touch.refl _ _ | assumption | (with_reducible apply Touch.drewN; exact Touch.refl _ _)) (by simp)).touch t6 (by simp)
          have hSame := same_any (c := cap') (d := cap) w6 (Rd.own ho) (Row.rd' (n := L.length) hR6 HLEN.out) (by have := HLEN.out; omega)
          simp only [decide_true] at hSame
          have B19a := t6.blk (B19.drewN _) (by simp)
          clear ho hR6 y0 y1 y2 z0 z1 z2
          obtain ⟨y0, y1, y2⟩ := B19a.own
          go_wp2_with fail
          refine hSame.mono ?_
          rintro e w7 ⟨rfl, t7⟩
          have B19b := t7.blk B19a (by simp)
          clear hSame y0 y1 y2
          obtain ⟨y0, y1, y2⟩ := B19b.own
          go_wp2_with fail
          refine (awake07 _).mono ?_
          rintro e w8 ⟨rfl, t8⟩
          go_wp2_with fail
          go_ret
          exact ⟨rfl, (T6.trans t7).trans t8⟩

theorem waitAccess_long {A : Option Addr} {ln cp : Nat} (w : World) (nn mode task stage c k mk x : Int) (hl : 1024 < ln) :
    Calls Try.prog 3 #[.slice A ln cp, .int .u8 nn, .int .i64 mode, .int .i64 task, .agg #[.int .i64 stage], .int .i64 c, .agg #[.int .i64 k, .int .u32 mk, .int .u32 x]] w fun e w' => e = .returned (.bool true) ∧ Touch [] w w' := by
  have i1 : ((1024 : Int) < (ln : Int)) := by omega
  go_enter Try.func3, Try.ntmps3
  go_wp2_with (go_at_call 16; refine (awake07 _).mono ?_; rintro e w9 ⟨rfl, t9⟩)
  go_ret
  exact ⟨rfl, (((Touch.refl [] w).alloc _).alloc _).trans t9⟩

/-- WHATEVER THE INPUT. -/
theorem waitAccess_any {A : Option Addr} {ln cp : Nat} {L : List Int} (w : World) (hr : Rd w 1 A ln (L.flatMap fun x => [Value.int .u32 x])) (hL : ∀ x, x ∈ L → 0 ≤ x ∧ x < 4294967296) (nn mode task stage c k mk x : Int) (hn : 0 ≤ nn ∧ nn < 256) :
    Calls Try.prog 3 #[.slice A ln cp, .int .u8 nn, .int .i64 mode, .int .i64 task, .agg #[.int .i64 stage], .int .i64 c, .agg #[.int .i64 k, .int .u32 mk, .int .u32 x]] w fun e w' => e = .returned (.bool true) ∧ Touch [] w w' := by
  have hr' : Rd w 1 A ln (u32s L) := by
    rw [← u32s_flatMap]
    exact hr
  by_cases hl : ln ≤ 1024
  · exact waitAccess_some w hr' ⟨by have := len_of_rd hr'; omega, hL⟩ nn mode task stage c k mk x hn.1 (by omega)
  · exact waitAccess_long w nn mode task stage c k mk x (by omega)

end Go.Proofs.Ytghiggaldkojpaa.Z
