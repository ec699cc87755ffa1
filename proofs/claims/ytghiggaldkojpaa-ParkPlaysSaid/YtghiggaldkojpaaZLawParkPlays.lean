/- The statement ParkPlays: its walk. -/
import Derived.Test.YtghiggaldkojpaaZLaw06
import Derived.Test.YtghiggaldkojpaaZElem
import Derived.Test.YtghiggaldkojpaaZFrom2
import Derived.Deep.RegionHeld3
import Derived.Outline
set_option linter.unusedVariables false
set_option linter.unusedSimpArgs false
namespace Go.Proofs.Ytghiggaldkojpaa.Z
open Go.RowKit

/-- A call: its kind, its task. -/
def opDec (x : Int × Int) : List Value := [.int .i64 x.1, .int .i64 x.2]

theorem takeA_length (L : List Int) (n task : Int) : (takeA L n task).2.2.length = L.length := by
  unfold takeA
  split
  · exact doA_length _ _
  · rfl

set_option maxHeartbeats 1600000 in
set_option maxRecDepth 100000 in
theorem parkPlays_some {A B : Option Addr} {ln c m d : Nat} {L : List Int} {l : List (Int × Int)} (w : World) (hr : Rd w 1 A ln (u32s L)) (hw : Words L) (n : Int) (hn : I64 n) (hB : Rd w 2 B m (l.flatMap opDec)) (hm : m ≤ 40) :
    Calls Try.prog 5 #[.slice A ln c, .int .i64 n, .slice B m d] w fun e w' => e = .returned (.bool true) ∧ Touch [] w w' := by
  have hl := len_of_rd hr
  subst hl
  have h1024 := hw.1
  have i1 : ¬ ((1024 : Int) < (L.length : Int)) := by omega
  have i2 : ¬ ((40 : Int) < (m : Int)) := by omega
  have HW := Lib.hid hw
  have HN := Lib.hid hn
  clear hw hn
  go_enter Try.func5, Try.ntmps5
  go_wp2_with fail
  refine (from_ok _ hr HW.out).mono ?_
  rintro e w1 ⟨mm, a, rfl, hM, k1, k2, t1⟩
  go_wp2_with fail
  have T1 : Touch [] w (w1.alloc (.cells #[.int .i64 n] 38)) := t1.alloc _
  refine (copy_any _ (hr.touch T1 (by simp)) (by omega)).mono ?_
  rintro e w2 ⟨p, cap, rfl, hown, t2⟩
  obtain ⟨g, hR, hg, hga⟩ := Row.of_owns_ne hown HW.out a (fun h0 => by have := hM.lt.2 h0; simp; omega)
  obtain ⟨hcap, hcm⟩ := owns_cap hown
  have hM2 := (hM.touch ((Touch.refl [] _).alloc _) (by simp) (by simp)).touch t2 (by simp) (by simp)
  have B2 := t2.own1 (by simp)
  have T2 : Touch [] w w2 := T1.trans t2
  have s1 := t1.size
  have s2 := t2.size
  simp only [World.size_alloc] at s2 hg
  have hml := hM.lt
  have HG := Lib.hid (show w.heap.size ≤ a ∧ w.heap.size ≤ g ∧ g ≠ a ∧ mm ≠ g ∧ mm ≠ a ∧ (0 < L.length → a < w1.heap.size) ∧ w1.heap.size + 1 ≤ g from ⟨k2, by omega, hga, by omega, hM.ne, hml.2, hg⟩)
  clear hown hM t1 t2 T1 k1 k2 s1 s2 hg hga hml
  go_wp2_with fail
  go_loopw [11] (fun i wr => ∃ (k : Nat) (L' : List Int), k ≤ m ∧ i = .int .i64 k ∧ Mem wr mm a L' ∧ Row wr p g L' ∧ Hid (L'.length = L.length) ∧ Blk wr w1.heap.size #[.int .i64 n] ∧ Touch [] w wr) (fun i _ => m - (intOf i).toNat)
  case atStart => exact ⟨0, L, Nat.zero_le _, rfl, hM2, hR, Lib.hid rfl, B2, T2⟩
  case round =>
    obtain ⟨k, L', hk, rfl, hMr, hRr, hlen, hBr, hTr⟩ := hrel
    clear hM2 hR B2 T2
    by_cases hlt : k < m
    · have hBB := hB.touch hTr (by simp)
      obtain ⟨b, off, x, rfl, hb, hx, _⟩ := elem_head (dec := opDec) (size := 2) (by decide) (fun _ => rfl) hB hlt
      obtain ⟨e1, e2⟩ := elem_cells (dec := opDec) (size := 2) (by decide) (fun _ => rfl) hBB hlt hx
      obtain ⟨kd, tk⟩ := x
      have c0 : wr.cell? ⟨b, off + k * 2, none⟩ = some (.int .i64 kd) := e2 0 _ rfl
      have c1 : wr.cell? ⟨b, off + k * 2 + 1, none⟩ = some (.int .i64 tk) := e2 1 _ rfl
      have hi : (k : Int) < (m : Int) := by omega
      obtain ⟨z1, z2, z3⟩ := hBr.own
      have y1 : w1.heap.size < wr.heap.size + 1 := by omega
      have y2 : w1.heap.size < wr.heap.size + 2 := by omega
      have y3 : w1.heap.size < wr.heap.size + 1 + 1 := by omega
      clear e2
      by_cases hk0 : kd = 0
      · subst hk0
        have hgl : (giveA L' n tk).2.2.length = L'.length := doA_length _ _
        have hd := fun W (hM : Mem W mm a L') => give_any hM n tk HN.out
        have hrd := fun W (hR : Row W p g L') => rgive_any hR (by rw [hlen.out]; exact hcap) hcm n tk
        simp only [hlen.out] at hrd hgl
        generalize giveA L' n tk = r at hd hrd hgl
        obtain ⟨⟨rk, rc, rx, ry, ro⟩, rok, L2⟩ := r
        simp only [Acc.cells] at hd hrd hgl
        have HLEN := Lib.hid hgl
        have HD := Lib.hid hd
        have HRD := Lib.hid hrd
        clear hgl hd hrd
        go_wp2_with fail
        refine (HD.out _ (hMr.touch ((((Touch.refl [] _).alloc _).alloc _).alloc _) (by simp) (by simp))).mono ?_
        rintro e w3 ⟨rfl, hM3, t3⟩
        have hnew : ∀ q, wr.heap.size ≤ q → q ∉ lv a L' := fun q hq hm => by have h1 := mem_lv hm; have := hMr.lt.2 h1.2; omega
        have T3 : Touch [] w w3 := ((((hTr.alloc _).alloc _).alloc _)).newer t3 (lv_ge HG.out.1)
        obtain ⟨Bo, Ba, Bb⟩ := t3.own3 (fun q hq => by rw [(mem_lv hq).1]; exact hMr.lt.2 (mem_lv hq).2)
        have hR3 := (hRr.touch ((((Touch.refl [] _).alloc _).alloc _).alloc _) (by simp)).touch t3 (lv_not HG.out.2.2.1)
        have hB3 := t3.blk (((hBr.alloc _).alloc _).alloc _) (fun hm => by have h1 := mem_lv hm; have := HG.out.2.2.2.2.2.1 (by have := hlen.out; omega); omega)
        clear z1 z2 z3 y1 y2 y3
        obtain ⟨o1, o2, o3⟩ := Bo.own
        obtain ⟨a1, a2, a3⟩ := Ba.own
        obtain ⟨q1, q2, q3⟩ := hB3.own
        go_wp2_with fail
        refine calls_from (Facts := fun W => Touch [wr.heap.size + 1] w3 W ∧ Blk W (wr.heap.size + 1) #[.int .i64 rk, .int .i64 rc, .int .u32 rx, .int .u32 ry, .int .u32 ro]) ?_ ⟨touch_set5, blk_set5 Ba⟩
        rintro W3 ⟨tW, BaW⟩
        clear o1 o2 o3 a1 a2 a3 q1 q2 q3
        have TW : Touch [] w W3 := T3.newer tW (by have := hTr.size; simp; omega)
        have hRW := hRr.new hR3 rfl tW (by simp)
        have hMW := hMr.new hM3 (HLEN.out.trans hlen.out.symm) tW (by simp)
        have BoW := tW.blk Bo (by simp)
        have BbW := tW.blk Bb (by simp)
        have B9W := tW.blk hB3 (by have := hBr.lt; simp; omega)
        have hnewg : ∀ q, wr.heap.size ≤ q → q ∉ lv g L' := fun q hq hm => by have h1 := mem_lv hm; have := hRr.lt h1.2; omega
        have h9g : w1.heap.size ∉ lv g L' := fun hm => by have h1 := mem_lv hm; have := HG.out; omega
        refine (HRD.out _ hRW).mono ?_
        rintro e w4 ⟨rfl, hR4, t4⟩
        have T4 : Touch [] w w4 := TW.newer t4 (lv_ge HG.out.2.1)
        have hM4 := hMW.touch t4 (lv_not HG.out.2.2.2.1) (lv_not (Ne.symm HG.out.2.2.1))
        have Bo4 := t4.blk BoW (hnewg _ (by omega))
        have Ba4 := t4.blk BaW (hnewg _ (by omega))
        have Bb4 := t4.blk BbW (hnewg _ (by omega))
        have B94 := t4.blk B9W h9g
        clear hMW hRW BoW BaW BbW B9W tW t4 TW hM3 hR3 Bo Ba Bb hB3 t3 T3 
        obtain ⟨b1, b2, b3⟩ := Bb4.own
        go_wp2_with fail
        refine wp_from (Facts := fun W => Touch [wr.heap.size + 2] w4 W ∧ Blk W (wr.heap.size + 2) #[.int .i64 rk, .int .i64 rc, .int .u32 rx, .int .u32 ry, .int .u32 ro]) ?_ ⟨touch_set5, blk_set5 Bb4⟩
        rintro W ⟨tW, Bb⟩
        clear b1 b2 b3
        have TW : Touch [] w W := T4.newer tW (by have := hTr.size; simp; omega)
        have hR := hRr.new hR4 (HLEN.out.trans hlen.out.symm) tW (by simp)
        have hM := hMr.new hM4 (HLEN.out.trans hlen.out.symm) tW (by simp)
        have Bo := tW.blk Bo4 (by simp)
        have Ba := tW.blk Ba4 (by simp)
        have Bb := Bb
        have B9 := tW.blk B94 (by have := hBr.lt; simp; omega)
        clear hM4 hR4 Bo4 Ba4 Bb4 B94 tW T4 hnewg HRD HD hnew h9g
        have hT : ∀ w', Touch [] W w' → Touch [] W w' ∧ (wr.heap.size < w'.heap.size ∧ wr.heap.size + 1 < w'.heap.size ∧ wr.heap.size + 2 < w'.heap.size ∧ w1.heap.size < w'.heap.size) ∧
            (∀ i, w'.cell? ⟨wr.heap.size, i, none⟩ = #[Value.int .i64 0, .int .i64 tk][i]?) ∧ (∀ i, w'.cell? ⟨wr.heap.size + 1, i, none⟩ = #[.int .i64 rk, .int .i64 rc, .int .u32 rx, .int .u32 ry, .int .u32 ro][i]?) ∧
            (∀ i, w'.cell? ⟨wr.heap.size + 2, i, none⟩ = #[.int .i64 rk, .int .i64 rc, .int .u32 rx, .int .u32 ry, .int .u32 ro][i]?) ∧ (∀ i, w'.cell? ⟨w1.heap.size, i, none⟩ = #[Value.int .i64 n][i]?) := fun w' t =>
          ⟨t, ⟨(t.blk Bo (by simp)).lt, (t.blk Ba (by simp)).lt, (t.blk Bb (by simp)).lt, (t.blk B9 (by simp)).lt⟩, (t.blk Bo (by simp)).cell, (t.blk Ba (by simp)).cell, (t.blk Bb (by simp)).cell, (t.blk B9 (by simp)).cell⟩
        have hc1 : ∀ w', Touch [] W w' → Calls Try.prog 33 #[.pointer (some ⟨mm, 0, none⟩), .agg #[.int .i64 n], .int .i64 tk] w' fun e w'' => e = .returned (.bool (thereA L2 n tk)) ∧ Touch [] W w'' :=
          fun w' t => (there_is (hM.touch t (by simp) (by simp)) n tk HN.out).mono (fun e w'' h => ⟨h.1, t.trans h.2⟩)
        have hc2 : ∀ w', Touch [] W w' → Calls Try.prog 34 #[.slice p L.length cap, .int .i64 n, .int .i64 tk] w' fun e w'' => e = .returned (.bool (thereA L2 n tk)) ∧ Touch [] W w'' :=
          fun w' t => by
            have h := rthere_any (hR.touch t (by simp)) (by rw [HLEN.out]; exact hcap) hcm n tk
            rw [HLEN.out] at h
            exact h.mono (fun e w'' h => ⟨h.1, by rw [← h.2]; exact t⟩)
        have hc3 : ∀ w', Touch [] W w' → Calls Try.prog 23 #[.pointer (some ⟨mm, 0, none⟩)] w' fun e w'' => ∃ p' cap', e = .returned (.slice p' L.length cap') ∧ Rd w'' 1 p' L.length (u32s L2) ∧ Touch [] W w'' :=
          fun w' t => (all_mem (hM.touch t (by simp) (by simp))).mono (fun e w'' h => by
            obtain ⟨p', cap', he, ho, ht⟩ := h
            rw [HLEN.out] at he ho
            exact ⟨p', cap', he, Rd.own ho, t.trans ht⟩)
        have hc4 : ∀ w' w'' p' cap', Rd w' 1 p' L.length (u32s L2) → Touch [] W w' → Touch [] w' w'' → Calls Try.prog 22 #[.slice p' L.length cap', .slice p L.length cap] w'' fun e w3 => e = .returned (.bool true) ∧ Touch [] W w3 :=
          fun w' w'' p' cap' h t t' => by
            have h := same_any (c := cap') (d := cap) w'' (h.touch t' (by simp)) (Row.rd' (n := L.length) (hR.touch (t.trans t') (by simp)) HLEN.out) (by omega)
            simp only [decide_true] at h
            exact h.mono (fun e w3 h => ⟨h.1, (t.trans t').trans h.2⟩)
        have HW9 := Lib.hid (And.intro hM (And.intro hR B9))
        have HLE := Lib.hid (HLEN.out)
        clear hM hR hMr hRr Bo Ba Bb B9 hBr hBB
        go_region_held3 (fun w' => Touch [] W w' ∧ (wr.heap.size < w'.heap.size ∧ wr.heap.size + 1 < w'.heap.size ∧ wr.heap.size + 2 < w'.heap.size ∧ w1.heap.size < w'.heap.size) ∧
            (∀ i, w'.cell? ⟨wr.heap.size, i, none⟩ = #[Value.int .i64 0, .int .i64 tk][i]?) ∧ (∀ i, w'.cell? ⟨wr.heap.size + 1, i, none⟩ = #[.int .i64 rk, .int .i64 rc, .int .u32 rx, .int .u32 ry, .int .u32 ro][i]?) ∧
            (∀ i, w'.cell? ⟨wr.heap.size + 2, i, none⟩ = #[.int .i64 rk, .int .i64 rc, .int .u32 rx, .int .u32 ry, .int .u32 ro][i]?) ∧ (∀ i, w'.cell? ⟨w1.heap.size, i, none⟩ = #[Value.int .i64 n][i]?))
          (first | (go_split_ands; refine hT _ ?_; first | assumption | exact Touch.refl _ _ | (with_reducible apply Touch.drew; first | exact Touch.refl _ _ | assumption)))
          (first
            | (go_at_call 33; refine (hc1 _ (by go_split_ands; first | assumption | exact Touch.refl _ _ | (with_reducible apply Touch.drew; first | exact Touch.refl _ _ | assumption))).mono ?_; rintro e w5 ⟨rfl, t5⟩)
            | (go_at_call 34; refine (hc2 _ (by go_split_ands; first | assumption | exact Touch.refl _ _ | (with_reducible apply Touch.drew; first | exact Touch.refl _ _ | assumption))).mono ?_; rintro e w6 ⟨rfl, t6⟩)
            | (go_at_call 23; refine (hc3 _ (by go_split_ands; first | assumption | exact Touch.refl _ _ | (with_reducible apply Touch.drew; first | exact Touch.refl _ _ | assumption))).mono ?_; rintro e w7 ⟨p', cap', rfl, hd7, t7⟩)
            | (go_at_call 22; refine (hc4 _ _ _ _ hd7 t7 (by first | exact Touch.refl _ _ | (with_reducible apply Touch.drew; exact Touch.refl _ _))).mono ?_; rintro e w8 ⟨rfl, t8⟩))
        all_goals
          go_wp2
          go_roundw
          case rel => exact ⟨k + 1, L2, by omega, by go_num, HW9.out.1.touch (by first | assumption | exact Touch.refl _ _ | (with_reducible apply Touch.drew; first | exact Touch.refl _ _ | assumption)) (by simp) (by simp), HW9.out.2.1.touch (by first | assumption | exact Touch.refl _ _ | (with_reducible apply Touch.drew; first | exact Touch.refl _ _ | assumption)) (by simp), Lib.hid HLE.out, Touch.blk (by first | assumption | exact Touch.refl _ _ | (with_reducible apply Touch.drew; first | exact Touch.refl _ _ | assumption)) HW9.out.2.2 (by simp), TW.trans (by first | assumption | exact Touch.refl _ _ | (with_reducible apply Touch.drew; first | exact Touch.refl _ _ | assumption))⟩
          case measure => simp [intOf]; omega
      · by_cases hk1 : kd = 1
        · subst hk1
          have hgl : (takeA L' n tk).2.2.length = L'.length := takeA_length _ _ _
          have hd := fun W (hM : Mem W mm a L') => take_any hM n tk HN.out
          have hrd := fun W (hR : Row W p g L') => rtake_any hR (by rw [hlen.out]; exact hcap) hcm n tk
          simp only [hlen.out] at hrd hgl
          generalize takeA L' n tk = r at hd hrd hgl
          obtain ⟨⟨rk, rc, rx, ry, ro⟩, rok, L2⟩ := r
          simp only [Acc.cells] at hd hrd hgl
          have HLEN := Lib.hid hgl
          have HD := Lib.hid hd
          have HRD := Lib.hid hrd
          clear hgl hd hrd
          go_wp2_with fail
          refine (HD.out _ (hMr.touch ((((Touch.refl [] _).alloc _).alloc _).alloc _) (by simp) (by simp))).mono ?_
          rintro e w3 ⟨rfl, hM3, t3⟩
          have hnew : ∀ q, wr.heap.size ≤ q → q ∉ lv a L' := fun q hq hm => by have h1 := mem_lv hm; have := hMr.lt.2 h1.2; omega
          have T3 : Touch [] w w3 := ((((hTr.alloc _).alloc _).alloc _)).newer t3 (lv_ge HG.out.1)
          obtain ⟨Bo, Ba, Bb⟩ := t3.own3 (fun q hq => by rw [(mem_lv hq).1]; exact hMr.lt.2 (mem_lv hq).2)
          have hR3 := (hRr.touch ((((Touch.refl [] _).alloc _).alloc _).alloc _) (by simp)).touch t3 (lv_not HG.out.2.2.1)
          have hB3 := t3.blk (((hBr.alloc _).alloc _).alloc _) (fun hm => by have h1 := mem_lv hm; have := HG.out.2.2.2.2.2.1 (by have := hlen.out; omega); omega)
          clear z1 z2 z3 y1 y2 y3
          obtain ⟨o1, o2, o3⟩ := Bo.own
          obtain ⟨a1, a2, a3⟩ := Ba.own
          obtain ⟨q1, q2, q3⟩ := hB3.own
          go_wp2_with fail
          refine calls_from (Facts := fun W => Touch [wr.heap.size + 1] w3 W ∧ Blk W (wr.heap.size + 1) #[.int .i64 rk, .int .i64 rc, .int .u32 rx, .int .u32 ry, .int .u32 ro]) ?_ ⟨touch_set5, blk_set5 Ba⟩
          rintro W3 ⟨tW, BaW⟩
          clear o1 o2 o3 a1 a2 a3 q1 q2 q3
          have TW : Touch [] w W3 := T3.newer tW (by have := hTr.size; simp; omega)
          have hRW := hRr.new hR3 rfl tW (by simp)
          have hMW := hMr.new hM3 (HLEN.out.trans hlen.out.symm) tW (by simp)
          have BoW := tW.blk Bo (by simp)
          have BbW := tW.blk Bb (by simp)
          have B9W := tW.blk hB3 (by have := hBr.lt; simp; omega)
          have hnewg : ∀ q, wr.heap.size ≤ q → q ∉ lv g L' := fun q hq hm => by have h1 := mem_lv hm; have := hRr.lt h1.2; omega
          have h9g : w1.heap.size ∉ lv g L' := fun hm => by have h1 := mem_lv hm; have := HG.out; omega
          refine (HRD.out _ hRW).mono ?_
          rintro e w4 ⟨rfl, hR4, t4⟩
          have T4 : Touch [] w w4 := TW.newer t4 (lv_ge HG.out.2.1)
          have hM4 := hMW.touch t4 (lv_not HG.out.2.2.2.1) (lv_not (Ne.symm HG.out.2.2.1))
          have Bo4 := t4.blk BoW (hnewg _ (by omega))
          have Ba4 := t4.blk BaW (hnewg _ (by omega))
          have Bb4 := t4.blk BbW (hnewg _ (by omega))
          have B94 := t4.blk B9W h9g
          clear hMW hRW BoW BaW BbW B9W tW t4 TW hM3 hR3 Bo Ba Bb hB3 t3 T3 
          obtain ⟨b1, b2, b3⟩ := Bb4.own
          go_wp2_with fail
          refine wp_from (Facts := fun W => Touch [wr.heap.size + 2] w4 W ∧ Blk W (wr.heap.size + 2) #[.int .i64 rk, .int .i64 rc, .int .u32 rx, .int .u32 ry, .int .u32 ro]) ?_ ⟨touch_set5, blk_set5 Bb4⟩
          rintro W ⟨tW, Bb⟩
          clear b1 b2 b3
          have TW : Touch [] w W := T4.newer tW (by have := hTr.size; simp; omega)
          have hR := hRr.new hR4 (HLEN.out.trans hlen.out.symm) tW (by simp)
          have hM := hMr.new hM4 (HLEN.out.trans hlen.out.symm) tW (by simp)
          have Bo := tW.blk Bo4 (by simp)
          have Ba := tW.blk Ba4 (by simp)
          have Bb := Bb
          have B9 := tW.blk B94 (by have := hBr.lt; simp; omega)
          clear hM4 hR4 Bo4 Ba4 Bb4 B94 tW T4 hnewg HRD HD hnew h9g
          have hT : ∀ w', Touch [] W w' → Touch [] W w' ∧ (wr.heap.size < w'.heap.size ∧ wr.heap.size + 1 < w'.heap.size ∧ wr.heap.size + 2 < w'.heap.size ∧ w1.heap.size < w'.heap.size) ∧
              (∀ i, w'.cell? ⟨wr.heap.size, i, none⟩ = #[Value.int .i64 1, .int .i64 tk][i]?) ∧ (∀ i, w'.cell? ⟨wr.heap.size + 1, i, none⟩ = #[.int .i64 rk, .int .i64 rc, .int .u32 rx, .int .u32 ry, .int .u32 ro][i]?) ∧
              (∀ i, w'.cell? ⟨wr.heap.size + 2, i, none⟩ = #[.int .i64 rk, .int .i64 rc, .int .u32 rx, .int .u32 ry, .int .u32 ro][i]?) ∧ (∀ i, w'.cell? ⟨w1.heap.size, i, none⟩ = #[Value.int .i64 n][i]?) := fun w' t =>
            ⟨t, ⟨(t.blk Bo (by simp)).lt, (t.blk Ba (by simp)).lt, (t.blk Bb (by simp)).lt, (t.blk B9 (by simp)).lt⟩, (t.blk Bo (by simp)).cell, (t.blk Ba (by simp)).cell, (t.blk Bb (by simp)).cell, (t.blk B9 (by simp)).cell⟩
          have hc1 : ∀ w', Touch [] W w' → Calls Try.prog 33 #[.pointer (some ⟨mm, 0, none⟩), .agg #[.int .i64 n], .int .i64 tk] w' fun e w'' => e = .returned (.bool (thereA L2 n tk)) ∧ Touch [] W w'' :=
            fun w' t => (there_is (hM.touch t (by simp) (by simp)) n tk HN.out).mono (fun e w'' h => ⟨h.1, t.trans h.2⟩)
          have hc2 : ∀ w', Touch [] W w' → Calls Try.prog 34 #[.slice p L.length cap, .int .i64 n, .int .i64 tk] w' fun e w'' => e = .returned (.bool (thereA L2 n tk)) ∧ Touch [] W w'' :=
            fun w' t => by
              have h := rthere_any (hR.touch t (by simp)) (by rw [HLEN.out]; exact hcap) hcm n tk
              rw [HLEN.out] at h
              exact h.mono (fun e w'' h => ⟨h.1, by rw [← h.2]; exact t⟩)
          have hc3 : ∀ w', Touch [] W w' → Calls Try.prog 23 #[.pointer (some ⟨mm, 0, none⟩)] w' fun e w'' => ∃ p' cap', e = .returned (.slice p' L.length cap') ∧ Rd w'' 1 p' L.length (u32s L2) ∧ Touch [] W w'' :=
            fun w' t => (all_mem (hM.touch t (by simp) (by simp))).mono (fun e w'' h => by
              obtain ⟨p', cap', he, ho, ht⟩ := h
              rw [HLEN.out] at he ho
              exact ⟨p', cap', he, Rd.own ho, t.trans ht⟩)
          have hc4 : ∀ w' w'' p' cap', Rd w' 1 p' L.length (u32s L2) → Touch [] W w' → Touch [] w' w'' → Calls Try.prog 22 #[.slice p' L.length cap', .slice p L.length cap] w'' fun e w3 => e = .returned (.bool true) ∧ Touch [] W w3 :=
            fun w' w'' p' cap' h t t' => by
              have h := same_any (c := cap') (d := cap) w'' (h.touch t' (by simp)) (Row.rd' (n := L.length) (hR.touch (t.trans t') (by simp)) HLEN.out) (by omega)
              simp only [decide_true] at h
              exact h.mono (fun e w3 h => ⟨h.1, (t.trans t').trans h.2⟩)
          have HW9 := Lib.hid (And.intro hM (And.intro hR B9))
          have HLE := Lib.hid (HLEN.out)
          clear hM hR hMr hRr Bo Ba Bb B9 hBr hBB
          go_region_held3 (fun w' => Touch [] W w' ∧ (wr.heap.size < w'.heap.size ∧ wr.heap.size + 1 < w'.heap.size ∧ wr.heap.size + 2 < w'.heap.size ∧ w1.heap.size < w'.heap.size) ∧
              (∀ i, w'.cell? ⟨wr.heap.size, i, none⟩ = #[Value.int .i64 1, .int .i64 tk][i]?) ∧ (∀ i, w'.cell? ⟨wr.heap.size + 1, i, none⟩ = #[.int .i64 rk, .int .i64 rc, .int .u32 rx, .int .u32 ry, .int .u32 ro][i]?) ∧
              (∀ i, w'.cell? ⟨wr.heap.size + 2, i, none⟩ = #[.int .i64 rk, .int .i64 rc, .int .u32 rx, .int .u32 ry, .int .u32 ro][i]?) ∧ (∀ i, w'.cell? ⟨w1.heap.size, i, none⟩ = #[Value.int .i64 n][i]?))
            (first | (go_split_ands; refine hT _ ?_; first | assumption | exact Touch.refl _ _ | (with_reducible apply Touch.drew; first | exact Touch.refl _ _ | assumption)))
            (first
              | (go_at_call 33; refine (hc1 _ (by go_split_ands; first | assumption | exact Touch.refl _ _ | (with_reducible apply Touch.drew; first | exact Touch.refl _ _ | assumption))).mono ?_; rintro e w5 ⟨rfl, t5⟩)
              | (go_at_call 34; refine (hc2 _ (by go_split_ands; first | assumption | exact Touch.refl _ _ | (with_reducible apply Touch.drew; first | exact Touch.refl _ _ | assumption))).mono ?_; rintro e w6 ⟨rfl, t6⟩)
              | (go_at_call 23; refine (hc3 _ (by go_split_ands; first | assumption | exact Touch.refl _ _ | (with_reducible apply Touch.drew; first | exact Touch.refl _ _ | assumption))).mono ?_; rintro e w7 ⟨p', cap', rfl, hd7, t7⟩)
              | (go_at_call 22; refine (hc4 _ _ _ _ hd7 t7 (by first | exact Touch.refl _ _ | (with_reducible apply Touch.drew; exact Touch.refl _ _))).mono ?_; rintro e w8 ⟨rfl, t8⟩))
          all_goals
            go_wp2
            go_roundw
            case rel => exact ⟨k + 1, L2, by omega, by go_num, HW9.out.1.touch (by first | assumption | exact Touch.refl _ _ | (with_reducible apply Touch.drew; first | exact Touch.refl _ _ | assumption)) (by simp) (by simp), HW9.out.2.1.touch (by first | assumption | exact Touch.refl _ _ | (with_reducible apply Touch.drew; first | exact Touch.refl _ _ | assumption)) (by simp), Lib.hid HLE.out, Touch.blk (by first | assumption | exact Touch.refl _ _ | (with_reducible apply Touch.drew; first | exact Touch.refl _ _ | assumption)) HW9.out.2.2 (by simp), TW.trans (by first | assumption | exact Touch.refl _ _ | (with_reducible apply Touch.drew; first | exact Touch.refl _ _ | assumption))⟩
            case measure => simp [intOf]; omega
        · have hk0' : (kd == 0) = false := by simpa using hk0
          have hk1' : (kd == 1) = false := by simpa using hk1
          clear hk0 hk1
          go_wp2_with fail
          have Bo := ((Blk.new wr #[.int .i64 kd, .int .i64 tk] 53).alloc (.cells #[.int .i64 0, .int .i64 0, .int .u32 0, .int .u32 0, .int .u32 0] 34)).alloc (.cells #[.int .i64 0, .int .i64 0, .int .u32 0, .int .u32 0, .int .u32 0] 34)
          have Ba := (Blk.new (wr.alloc (.cells #[.int .i64 kd, .int .i64 tk] 53)) #[.int .i64 0, .int .i64 0, .int .u32 0, .int .u32 0, .int .u32 0] 34).alloc (.cells #[.int .i64 0, .int .i64 0, .int .u32 0, .int .u32 0, .int .u32 0] 34)
          have Bb := Blk.new ((wr.alloc (.cells #[.int .i64 kd, .int .i64 tk] 53)).alloc (.cells #[.int .i64 0, .int .i64 0, .int .u32 0, .int .u32 0, .int .u32 0] 34)) #[.int .i64 0, .int .i64 0, .int .u32 0, .int .u32 0, .int .u32 0] 34
          simp only [World.size_alloc] at Ba Bb
          refine wp_from (Facts := fun W => Touch [] wr W ∧ Blk W wr.heap.size #[.int .i64 kd, .int .i64 tk] ∧ Blk W (wr.heap.size + 1) #[.int .i64 0, .int .i64 0, .int .u32 0, .int .u32 0, .int .u32 0] ∧ Blk W (wr.heap.size + 2) #[.int .i64 0, .int .i64 0, .int .u32 0, .int .u32 0, .int .u32 0]) ?_ ⟨(((Touch.refl [] _).alloc _).alloc _).alloc _, Bo, Ba, Bb⟩
          clear Bo Ba Bb z1 z2 z3 y1 y2 y3
          rintro W ⟨tW, Bo, Ba, Bb⟩
          have TW : Touch [] w W := hTr.trans tW
          have hM := hMr.touch tW (by simp) (by simp)
          have hR := hRr.touch tW (by simp)
          have B9 := tW.blk hBr (by simp)
          clear tW
          have hT : ∀ w', Touch [] W w' → Touch [] W w' ∧ (wr.heap.size < w'.heap.size ∧ wr.heap.size + 1 < w'.heap.size ∧ wr.heap.size + 2 < w'.heap.size ∧ w1.heap.size < w'.heap.size) ∧
              (∀ i, w'.cell? ⟨wr.heap.size, i, none⟩ = #[Value.int .i64 kd, .int .i64 tk][i]?) ∧ (∀ i, w'.cell? ⟨wr.heap.size + 1, i, none⟩ = #[.int .i64 0, .int .i64 0, .int .u32 0, .int .u32 0, .int .u32 0][i]?) ∧
              (∀ i, w'.cell? ⟨wr.heap.size + 2, i, none⟩ = #[.int .i64 0, .int .i64 0, .int .u32 0, .int .u32 0, .int .u32 0][i]?) ∧ (∀ i, w'.cell? ⟨w1.heap.size, i, none⟩ = #[Value.int .i64 n][i]?) := fun w' t =>
            ⟨t, ⟨(t.blk Bo (by simp)).lt, (t.blk Ba (by simp)).lt, (t.blk Bb (by simp)).lt, (t.blk B9 (by simp)).lt⟩, (t.blk Bo (by simp)).cell, (t.blk Ba (by simp)).cell, (t.blk Bb (by simp)).cell, (t.blk B9 (by simp)).cell⟩
          have hc1 : ∀ w', Touch [] W w' → Calls Try.prog 33 #[.pointer (some ⟨mm, 0, none⟩), .agg #[.int .i64 n], .int .i64 tk] w' fun e w'' => e = .returned (.bool (thereA L' n tk)) ∧ Touch [] W w'' :=
            fun w' t => (there_is (hM.touch t (by simp) (by simp)) n tk HN.out).mono (fun e w'' h => ⟨h.1, t.trans h.2⟩)
          have hc2 : ∀ w', Touch [] W w' → Calls Try.prog 34 #[.slice p L.length cap, .int .i64 n, .int .i64 tk] w' fun e w'' => e = .returned (.bool (thereA L' n tk)) ∧ Touch [] W w'' :=
            fun w' t => by
              have h := rthere_any (hR.touch t (by simp)) (by rw [hlen.out]; exact hcap) hcm n tk
              rw [hlen.out] at h
              exact h.mono (fun e w'' h => ⟨h.1, by rw [← h.2]; exact t⟩)
          have hc3 : ∀ w', Touch [] W w' → Calls Try.prog 23 #[.pointer (some ⟨mm, 0, none⟩)] w' fun e w'' => ∃ p' cap', e = .returned (.slice p' L.length cap') ∧ Rd w'' 1 p' L.length (u32s L') ∧ Touch [] W w'' :=
            fun w' t => (all_mem (hM.touch t (by simp) (by simp))).mono (fun e w'' h => by
              obtain ⟨p', cap', he, ho, ht⟩ := h
              rw [hlen.out] at he ho
              exact ⟨p', cap', he, Rd.own ho, t.trans ht⟩)
          have hc4 : ∀ w' w'' p' cap', Rd w' 1 p' L.length (u32s L') → Touch [] W w' → Touch [] w' w'' → Calls Try.prog 22 #[.slice p' L.length cap', .slice p L.length cap] w'' fun e w3 => e = .returned (.bool true) ∧ Touch [] W w3 :=
            fun w' w'' p' cap' h t t' => by
              have h := same_any (c := cap') (d := cap) w'' (h.touch t' (by simp)) (Row.rd' (n := L.length) (hR.touch (t.trans t') (by simp)) hlen.out) (by omega)
              simp only [decide_true] at h
              exact h.mono (fun e w3 h => ⟨h.1, (t.trans t').trans h.2⟩)
          have HW9 := Lib.hid (And.intro hM (And.intro hR B9))
          have HLE := Lib.hid (hlen.out)
          clear hM hR hMr hRr Bo Ba Bb B9 hBr hBB
          go_region_held3 (fun w' => Touch [] W w' ∧ (wr.heap.size < w'.heap.size ∧ wr.heap.size + 1 < w'.heap.size ∧ wr.heap.size + 2 < w'.heap.size ∧ w1.heap.size < w'.heap.size) ∧
              (∀ i, w'.cell? ⟨wr.heap.size, i, none⟩ = #[Value.int .i64 kd, .int .i64 tk][i]?) ∧ (∀ i, w'.cell? ⟨wr.heap.size + 1, i, none⟩ = #[.int .i64 0, .int .i64 0, .int .u32 0, .int .u32 0, .int .u32 0][i]?) ∧
              (∀ i, w'.cell? ⟨wr.heap.size + 2, i, none⟩ = #[.int .i64 0, .int .i64 0, .int .u32 0, .int .u32 0, .int .u32 0][i]?) ∧ (∀ i, w'.cell? ⟨w1.heap.size, i, none⟩ = #[Value.int .i64 n][i]?))
            (first | (go_split_ands; refine hT _ ?_; first | assumption | exact Touch.refl _ _ | (with_reducible apply Touch.drew; first | exact Touch.refl _ _ | assumption)))
            (first
              | (go_at_call 33; refine (hc1 _ (by go_split_ands; first | assumption | exact Touch.refl _ _ | (with_reducible apply Touch.drew; first | exact Touch.refl _ _ | assumption))).mono ?_; rintro e w5 ⟨rfl, t5⟩)
              | (go_at_call 34; refine (hc2 _ (by go_split_ands; first | assumption | exact Touch.refl _ _ | (with_reducible apply Touch.drew; first | exact Touch.refl _ _ | assumption))).mono ?_; rintro e w6 ⟨rfl, t6⟩)
              | (go_at_call 23; refine (hc3 _ (by go_split_ands; first | assumption | exact Touch.refl _ _ | (with_reducible apply Touch.drew; first | exact Touch.refl _ _ | assumption))).mono ?_; rintro e w7 ⟨p', cap', rfl, hd7, t7⟩)
              | (go_at_call 22; refine (hc4 _ _ _ _ hd7 t7 (by first | exact Touch.refl _ _ | (with_reducible apply Touch.drew; exact Touch.refl _ _))).mono ?_; rintro e w8 ⟨rfl, t8⟩))
          all_goals
            go_wp2
            go_roundw
            case rel => exact ⟨k + 1, L', by omega, by go_num, HW9.out.1.touch (by first | assumption | exact Touch.refl _ _ | (with_reducible apply Touch.drew; first | exact Touch.refl _ _ | assumption)) (by simp) (by simp), HW9.out.2.1.touch (by first | assumption | exact Touch.refl _ _ | (with_reducible apply Touch.drew; first | exact Touch.refl _ _ | assumption)) (by simp), Lib.hid HLE.out, Touch.blk (by first | assumption | exact Touch.refl _ _ | (with_reducible apply Touch.drew; first | exact Touch.refl _ _ | assumption)) HW9.out.2.2 (by simp), TW.trans (by first | assumption | exact Touch.refl _ _ | (with_reducible apply Touch.drew; first | exact Touch.refl _ _ | assumption))⟩
            case measure => simp [intOf]; omega
    · have hi : (m : Int) ≤ (k : Int) := by omega
      go_wp2_with (go_at_call 28; refine (awake06 _).mono ?_; rintro e w9 ⟨rfl, t9⟩)
      go_ret
      exact ⟨rfl, hTr.trans t9⟩

theorem parkPlays_long {A B : Option Addr} {n c m d : Nat} (w : World) (k : Int) (hl : 1024 < n ∨ 40 < m) :
    Calls Try.prog 5 #[.slice A n c, .int .i64 k, .slice B m d] w fun e w' => e = .returned (.bool true) ∧ Touch [] w w' := by
  by_cases h : 1024 < n
  · have i1 : ((1024 : Int) < (n : Int)) := by omega
    go_enter Try.func5, Try.ntmps5
    go_wp2_with (go_at_call 28; refine (awake06 _).mono ?_; rintro e w9 ⟨rfl, t9⟩)
    go_ret
    exact ⟨rfl, t9⟩
  · have i1 : ¬ ((1024 : Int) < (n : Int)) := by omega
    have i2 : ((40 : Int) < (m : Int)) := by omega
    go_enter Try.func5, Try.ntmps5
    go_wp2_with (go_at_call 28; refine (awake06 _).mono ?_; rintro e w9 ⟨rfl, t9⟩)
    go_ret
    exact ⟨rfl, t9⟩

/-- WHATEVER THE INPUT. -/
theorem parkPlays_any {A B : Option Addr} {n c m d : Nat} {L : List Int} {l : List (Int × Int)} (w : World) (hr : Rd w 1 A n (L.flatMap fun x => [Value.int .u32 x])) (hL : ∀ x, x ∈ L → 0 ≤ x ∧ x < 4294967296)
    (k : Int) (hk : I64 k) (hB : Rd w 2 B m (l.flatMap opDec)) :
    Calls Try.prog 5 #[.slice A n c, .int .i64 k, .slice B m d] w fun e w' => e = .returned (.bool true) ∧ Touch [] w w' := by
  have hr' : Rd w 1 A n (u32s L) := by
    rw [← u32s_flatMap]
    exact hr
  by_cases hn : n ≤ 1024 ∧ m ≤ 40
  · exact parkPlays_some w hr' ⟨by have := len_of_rd hr'; omega, hL⟩ k hk hB hn.2
  · exact parkPlays_long w k (by omega)

end Go.Proofs.Ytghiggaldkojpaa.Z
