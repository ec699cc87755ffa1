/- The statement CellsCalls: its walk. -/
import Derived.Test.YtjlpaefpilhngaaZLawCellsBack
import Derived.Outline
set_option linter.unusedVariables false
set_option linter.unusedSimpArgs false
namespace Go.Proofs.Ytjlpaefpilhngaa.Z
open Go.RowKit

theorem calls_in {L : List Int} {c o : Int} (h0 : 0 ≤ c) (h1 : c < L.length) (hv : L.getD c.toNat 0 = o) :
    ldA L c = o ∧ (∀ x, stA L c x = L.set c.toNat x) ∧ (∀ x, addA L c x = L.set c.toNat ((o + x) % 4294967296)) ∧ (∀ x, isA L c x = (o == x)) ∧ L.set c.toNat o = L := by
  have hc : 0 ≤ c ∧ c < L.length := ⟨h0, h1⟩
  have l1 : ldA L c = o := by unfold ldA; rw [if_pos hc, hv]
  have s1 : ∀ v, stA L c v = L.set c.toNat v := fun v => if_pos hc
  refine ⟨l1, s1, fun x => by unfold addA; rw [l1, s1], fun x => ?_, by rw [← hv]; exact set_same (by omega)⟩
  unfold isA
  rw [hv]
  simp only [h0, h1, true_and]
  rw [Bool.eq_iff_iff]
  simp

theorem casA_yes {L : List Int} {c x y : Int} (h : isA L c x = true) : casA L c x y = L.set c.toNat y := by unfold casA; rw [if_pos h]
theorem casA_no {L : List Int} {c x y : Int} (h : isA L c x = false) : casA L c x y = L := by unfold casA; rw [h]; rfl

set_option maxHeartbeats 2000000 in
set_option maxRecDepth 100000 in
theorem cellsCalls_in {A : Option Addr} {n cp : Nat} {L : List Int} (w : World) (hr : Rd w 1 A n (u32s L)) (hw : Words L) (c x y o : Int) (hx : 0 ≤ x ∧ x < 4294967296) (hy : 0 ≤ y ∧ y < 4294967296) (h0 : 0 ≤ c) (h1 : c < n) (hv : L.getD c.toNat 0 = o) :
    Calls Try.prog 11 #[.slice A n cp, .int .i64 c, .int .u32 x, .int .u32 y] w fun e w' => e = .returned (.bool true) ∧ Touch [] w w' := by
  have hn := len_of_rd hr
  subst hn
  have h1024 := hw.1
  have i1 : ¬ ((1024 : Int) < (L.length : Int)) := by omega
  have ho := hw.getD c.toNat
  rw [hv] at ho
  have HF := Lib.hid (calls_in h0 h1 hv)
  obtain ⟨ad, rfl, had, hcell⟩ := u32s_at hr (show c.toNat < L.length by omega)
  rw [hv] at hcell
  have ht := fun W => there_any (some ad) L.length cp c W
  rw [decide_eq_true ⟨h0, h1⟩] at ht
  have HV := Lib.hid hv
  have HW := Lib.hid hw
  clear hv hw
  go_enter Try.func11, Try.ntmps11
  go_wp2_with (go_at_call 37; refine (ht _).mono ?_; rintro e w' ⟨rfl, rfl⟩)
  go_loopw [11] (fun i wr => ∃ k : Int, 1 ≤ k ∧ k ≤ 6 ∧ i = .int .i64 k ∧ Touch [] w wr) (fun i _ => (6 - intOf i).toNat)
  case atStart => exact ⟨1, by decide, by decide, rfl, Touch.refl _ _⟩
  case round =>
    obtain ⟨k, hk1, hk6, rfl, hTr⟩ := hrel
    have hrr := hr.touch hTr (by simp)
    have hcases : k = 1 ∨ k = 2 ∨ k = 3 ∨ k = 4 ∨ k = 5 ∨ k = 6 := by omega
    clear hk1 hk6
    rcases hcases with rfl | rfl | rfl | rfl | rfl | rfl
    · go_wp2_with (first
        | (go_at_call 23; refine (from_ok _ hrr HW.out).mono ?_; rintro e w1 ⟨m, a, rfl, hM, k1, k2, ht1⟩)
        | (go_at_call 33; with_reducible refine (load_any hM c).mono ?_; rw [HF.out.1]; rintro e w2 ⟨rfl, ht2⟩))
      have hM2 := hM.touch ht2 (by simp) (by simp)
      have hT2 : Touch [] w w2 := (hTr.trans ht1).trans ht2
      have hge : w.heap.size ≤ a := by have := hTr.size; omega
      clear hM ht2 ht1
      refine (store_any hM2 c x hx).mono ?_
      rw [HF.out.2.1 x]
      rintro e w3 ⟨rfl, hM3, ht3⟩
      have hT3 : Touch [] w w3 := hT2.newer ht3 (lv_ge hge)
      have hr3 := hr.touch hT3 (by simp)
      clear hM2 hT2
      go_wp2_with (go_at_call 26; refine (copy_any _ hr3 (by omega)).mono ?_; rintro e w4 ⟨p, cap, rfl, hown, ht4⟩
                   obtain ⟨g, hR, hg, hga⟩ := Row.of_owns_ne hown HW.out a (fun h0 => hM3.lt.2 (by simpa using h0))
                   obtain ⟨rfl, d1, d2, d3, _, _⟩ := hR.at_cell c o h0 h1 HV.out
                   have hcap := (owns_cap hown).1)
      have hM4 := hM3.touch ht4 (by simp) (by simp)
      have hT4 : Touch [] w w4 := hT3.trans ht4
      have hgw : w.heap.size ≤ g := by have := hT3.size; omega
      have hset := hR.set c.toNat (by omega) x hx.1 hx.2
      have hts := (Touch.refl [g] w4).set (p := ⟨g, c.toNat, none⟩) (by simp) (.int .u32 x)
      have hMs := hM4.touch hts (by have := hM3.lt.1; simp; omega) (by simp; omega)
      have hTs : Touch [] w (w4.setCell ⟨g, c.toNat, none⟩ (.int .u32 x)) := hT4.newer hts (by simp; omega)
      clear hM4 hR
      go_wp2_with (first
        | (go_at_call 30; refine (all_mem hMs).mono ?_; rintro e w5 ⟨p5, cap5, rfl, hown5, ht5⟩; simp only [List.length_set] at hown5)
        | (go_at_call 29; refine (same_any _ (Rd.own hown5) (Row.rd' (n := L.length) (hset.touch ht5 (by simp)) (by simp)) (by omega)).mono ?_; rw [decide_eq_true rfl]; rintro e w6 ⟨rfl, ht6⟩))
      exact ⟨⟨2, by decide, by decide, rfl, (hTs.trans ht5).trans ht6⟩, by simp [intOf]⟩
    · go_wp2_with (first
        | (go_at_call 23; refine (from_ok _ hrr HW.out).mono ?_; rintro e w1 ⟨m, a, rfl, hM, k1, k2, ht1⟩)
        | (go_at_call 33; with_reducible refine (load_any hM c).mono ?_; rw [HF.out.1]; rintro e w2 ⟨rfl, ht2⟩))
      have hM2 := hM.touch ht2 (by simp) (by simp)
      have hT2 : Touch [] w w2 := (hTr.trans ht1).trans ht2
      have hge : w.heap.size ≤ a := by have := hTr.size; omega
      clear hM ht2 ht1
      refine (add_any hM2 c x hx).mono ?_
      rw [HF.out.1, HF.out.2.2.1 x]
      rintro e w3 ⟨rfl, hM3, ht3⟩
      have hT3 : Touch [] w w3 := hT2.newer ht3 (lv_ge hge)
      have hr3 := hr.touch hT3 (by simp)
      clear hM2 hT2
      go_wp2_with (go_at_call 26; refine (copy_any _ hr3 (by omega)).mono ?_; rintro e w4 ⟨p, cap, rfl, hown, ht4⟩
                   obtain ⟨g, hR, hg, hga⟩ := Row.of_owns_ne hown HW.out a (fun h0 => hM3.lt.2 (by simpa using h0))
                   obtain ⟨rfl, d1, d2, d3, _, _⟩ := hR.at_cell c o h0 h1 HV.out
                   have hcap := (owns_cap hown).1)
      have hM4 := hM3.touch ht4 (by simp) (by simp)
      have hT4 : Touch [] w w4 := hT3.trans ht4
      have hgw : w.heap.size ≤ g := by have := hT3.size; omega
      have hset := hR.set c.toNat (by omega) ((o + x) % 4294967296) (by omega) (by omega)
      have hts := (Touch.refl [g] w4).set (p := ⟨g, c.toNat, none⟩) (by simp) (.int .u32 ((o + x) % 4294967296))
      have hMs := hM4.touch hts (by have := hM3.lt.1; simp; omega) (by simp; omega)
      have hTs : Touch [] w (w4.setCell ⟨g, c.toNat, none⟩ (.int .u32 ((o + x) % 4294967296))) := hT4.newer hts (by simp; omega)
      clear hM4 hR
      go_wp2_with (first
        | (go_at_call 30; refine (all_mem hMs).mono ?_; rintro e w5 ⟨p5, cap5, rfl, hown5, ht5⟩; simp only [List.length_set] at hown5)
        | (go_at_call 29; refine (same_any _ (Rd.own hown5) (Row.rd' (n := L.length) (hset.touch ht5 (by simp)) (by simp)) (by omega)).mono ?_; rw [decide_eq_true rfl]; rintro e w6 ⟨rfl, ht6⟩))
      exact ⟨⟨3, by decide, by decide, rfl, (hTs.trans ht5).trans ht6⟩, by simp [intOf]⟩
    · go_wp2_with (first
        | (go_at_call 23; refine (from_ok _ hrr HW.out).mono ?_; rintro e w1 ⟨m, a, rfl, hM, k1, k2, ht1⟩)
        | (go_at_call 33; with_reducible refine (load_any hM c).mono ?_; rw [HF.out.1]; rintro e w2 ⟨rfl, ht2⟩))
      have hM2 := hM.touch ht2 (by simp) (by simp)
      have hT2 : Touch [] w w2 := (hTr.trans ht1).trans ht2
      have hge : w.heap.size ≤ a := by have := hTr.size; omega
      clear hM ht2 ht1
      refine (swap_any hM2 c x hx).mono ?_
      rw [HF.out.1, HF.out.2.1 x]
      rintro e w3 ⟨rfl, hM3, ht3⟩
      have hT3 : Touch [] w w3 := hT2.newer ht3 (lv_ge hge)
      have hr3 := hr.touch hT3 (by simp)
      clear hM2 hT2
      go_wp2_with (go_at_call 26; refine (copy_any _ hr3 (by omega)).mono ?_; rintro e w4 ⟨p, cap, rfl, hown, ht4⟩
                   obtain ⟨g, hR, hg, hga⟩ := Row.of_owns_ne hown HW.out a (fun h0 => hM3.lt.2 (by simpa using h0))
                   obtain ⟨rfl, d1, d2, d3, _, _⟩ := hR.at_cell c o h0 h1 HV.out
                   have hcap := (owns_cap hown).1)
      have hM4 := hM3.touch ht4 (by simp) (by simp)
      have hT4 : Touch [] w w4 := hT3.trans ht4
      have hgw : w.heap.size ≤ g := by have := hT3.size; omega
      have hset := hR.set c.toNat (by omega) x hx.1 hx.2
      have hts := (Touch.refl [g] w4).set (p := ⟨g, c.toNat, none⟩) (by simp) (.int .u32 x)
      have hMs := hM4.touch hts (by have := hM3.lt.1; simp; omega) (by simp; omega)
      have hTs : Touch [] w (w4.setCell ⟨g, c.toNat, none⟩ (.int .u32 x)) := hT4.newer hts (by simp; omega)
      clear hM4 hR
      go_wp2_with (first
        | (go_at_call 30; refine (all_mem hMs).mono ?_; rintro e w5 ⟨p5, cap5, rfl, hown5, ht5⟩; simp only [List.length_set] at hown5)
        | (go_at_call 29; refine (same_any _ (Rd.own hown5) (Row.rd' (n := L.length) (hset.touch ht5 (by simp)) (by simp)) (by omega)).mono ?_; rw [decide_eq_true rfl]; rintro e w6 ⟨rfl, ht6⟩))
      exact ⟨⟨4, by decide, by decide, rfl, (hTs.trans ht5).trans ht6⟩, by simp [intOf]⟩
    · go_wp2_with (first
        | (go_at_call 23; refine (from_ok _ hrr HW.out).mono ?_; rintro e w1 ⟨m, a, rfl, hM, k1, k2, ht1⟩)
        | (go_at_call 33; with_reducible refine (load_any hM c).mono ?_; rw [HF.out.1]; rintro e w2 ⟨rfl, ht2⟩))
      have hM2 := hM.touch ht2 (by simp) (by simp)
      have hT2 : Touch [] w w2 := (hTr.trans ht1).trans ht2
      have hge : w.heap.size ≤ a := by have := hTr.size; omega
      clear hM ht2 ht1
      refine (load_any hM2 c).mono ?_
      rw [HF.out.1]
      rintro e w3 ⟨rfl, ht3⟩
      have hM3 := hM2.touch ht3 (by simp) (by simp)
      have hT3 : Touch [] w w3 := hT2.trans ht3
      have hr3 := hr.touch hT3 (by simp)
      clear hM2 hT2
      go_wp2_with (go_at_call 26; refine (copy_any _ hr3 (by omega)).mono ?_; rintro e w4 ⟨p, cap, rfl, hown, ht4⟩
                   obtain ⟨g, hR, hg, hga⟩ := Row.of_owns_ne hown HW.out a (fun h0 => hM3.lt.2 (by simpa using h0))
                   obtain ⟨rfl, d1, d2, d3, _, _⟩ := hR.at_cell c o h0 h1 HV.out
                   have hcap := (owns_cap hown).1)
      have hM4 := hM3.touch ht4 (by simp) (by simp)
      have hT4 : Touch [] w w4 := hT3.trans ht4
      have hgw : w.heap.size ≤ g := by have := hT3.size; omega
      have hset := hR.set c.toNat (by omega) o ho.1 ho.2
      rw [HF.out.2.2.2.2] at hset
      have hts := (Touch.refl [g] w4).set (p := ⟨g, c.toNat, none⟩) (by simp) (.int .u32 o)
      have hMs := hM4.touch hts (by have := hM3.lt.1; simp; omega) (by simp; omega)
      have hTs : Touch [] w (w4.setCell ⟨g, c.toNat, none⟩ (.int .u32 o)) := hT4.newer hts (by simp; omega)
      clear hM4 hR
      go_wp2_with (first
        | (go_at_call 30; refine (all_mem hMs).mono ?_; rintro e w5 ⟨p5, cap5, rfl, hown5, ht5⟩)
        | (go_at_call 29; refine (same_any _ (Rd.own hown5) (Row.rd' (n := L.length) (hset.touch ht5 (by simp)) (by simp)) (by omega)).mono ?_; rw [decide_eq_true rfl]; rintro e w6 ⟨rfl, ht6⟩))
      exact ⟨⟨5, by decide, by decide, rfl, (hTs.trans ht5).trans ht6⟩, by simp [intOf]⟩
    · by_cases he : o = x
      · have hb : (o == x) = true := by simp [he]
        have i1 := HF.out.2.2.2.1 x
        rw [hb] at i1
        have q1 := casA_yes (y := y) i1
        have HI := Lib.hid i1
        have HQ := Lib.hid q1
        clear he i1 q1
        go_wp2_with (first
          | (go_at_call 23; refine (from_ok _ hrr HW.out).mono ?_; rintro e w1 ⟨m, a, rfl, hM, k1, k2, ht1⟩)
          | (go_at_call 33; with_reducible refine (load_any hM c).mono ?_; rw [HF.out.1]; rintro e w2 ⟨rfl, ht2⟩))
        have hM2 := hM.touch ht2 (by simp) (by simp)
        have hT2 : Touch [] w w2 := (hTr.trans ht1).trans ht2
        have hge : w.heap.size ≤ a := by have := hTr.size; omega
        clear hM ht2 ht1
        refine (cas_any hM2 c x y hx hy).mono ?_
        rw [HF.out.1, HI.out, HQ.out]
        rintro e w3 ⟨rfl, hM3, ht3⟩
        have hT3 : Touch [] w w3 := hT2.newer ht3 (lv_ge hge)
        have hr3 := hr.touch hT3 (by simp)
        clear hM2 hT2
        go_wp2_with (go_at_call 26; refine (copy_any _ hr3 (by omega)).mono ?_; rintro e w4 ⟨p, cap, rfl, hown, ht4⟩
                     obtain ⟨g, hR, hg, hga⟩ := Row.of_owns_ne hown HW.out a (fun h0 => hM3.lt.2 (by simpa using h0))
                     obtain ⟨rfl, d1, d2, d3, _, _⟩ := hR.at_cell c o h0 h1 HV.out
                     have hcap := (owns_cap hown).1)
        have hM4 := hM3.touch ht4 (by simp) (by simp)
        have hT4 : Touch [] w w4 := hT3.trans ht4
        have hgw : w.heap.size ≤ g := by have := hT3.size; omega
        have hset := hR.set c.toNat (by omega) y hy.1 hy.2
        have hts := (Touch.refl [g] w4).set (p := ⟨g, c.toNat, none⟩) (by simp) (.int .u32 y)
        have hMs := hM4.touch hts (by have := hM3.lt.1; simp; omega) (by simp; omega)
        have hTs : Touch [] w (w4.setCell ⟨g, c.toNat, none⟩ (.int .u32 y)) := hT4.newer hts (by simp; omega)
        clear hM4 hR
        go_wp2_with (first
          | (go_at_call 30; refine (all_mem hMs).mono ?_; rintro e w5 ⟨p5, cap5, rfl, hown5, ht5⟩; simp only [List.length_set] at hown5)
          | (go_at_call 29; refine (same_any _ (Rd.own hown5) (Row.rd' (n := L.length) (hset.touch ht5 (by simp)) (by simp)) (by omega)).mono ?_; rw [decide_eq_true rfl]; rintro e w6 ⟨rfl, ht6⟩))
        exact ⟨⟨6, by decide, by decide, rfl, (hTs.trans ht5).trans ht6⟩, by simp [intOf]⟩
      · have hb : (o == x) = false := by simpa using he
        have i1 := HF.out.2.2.2.1 x
        rw [hb] at i1
        have q1 := casA_no (y := y) i1
        have HI := Lib.hid i1
        have HQ := Lib.hid q1
        clear he i1 q1
        go_wp2_with (first
          | (go_at_call 23; refine (from_ok _ hrr HW.out).mono ?_; rintro e w1 ⟨m, a, rfl, hM, k1, k2, ht1⟩)
          | (go_at_call 33; with_reducible refine (load_any hM c).mono ?_; rw [HF.out.1]; rintro e w2 ⟨rfl, ht2⟩))
        have hM2 := hM.touch ht2 (by simp) (by simp)
        have hT2 : Touch [] w w2 := (hTr.trans ht1).trans ht2
        have hge : w.heap.size ≤ a := by have := hTr.size; omega
        clear hM ht2 ht1
        refine (cas_any hM2 c x y hx hy).mono ?_
        rw [HF.out.1, HI.out, HQ.out]
        rintro e w3 ⟨rfl, hM3, ht3⟩
        have hT3 : Touch [] w w3 := hT2.newer ht3 (lv_ge hge)
        have hr3 := hr.touch hT3 (by simp)
        clear hM2 hT2
        go_wp2_with (go_at_call 26; refine (copy_any _ hr3 (by omega)).mono ?_; rintro e w4 ⟨p, cap, rfl, hown, ht4⟩
                     obtain ⟨g, hR, hg, hga⟩ := Row.of_owns_ne hown HW.out a (fun h0 => hM3.lt.2 (by simpa using h0))
                     obtain ⟨rfl, d1, d2, d3, _, _⟩ := hR.at_cell c o h0 h1 HV.out
                     have hcap := (owns_cap hown).1)
        have hM4 := hM3.touch ht4 (by simp) (by simp)
        have hT4 : Touch [] w w4 := hT3.trans ht4
        have hgw : w.heap.size ≤ g := by have := hT3.size; omega
        have hset := hR.set c.toNat (by omega) o ho.1 ho.2
        rw [HF.out.2.2.2.2] at hset
        have hts := (Touch.refl [g] w4).set (p := ⟨g, c.toNat, none⟩) (by simp) (.int .u32 o)
        have hMs := hM4.touch hts (by have := hM3.lt.1; simp; omega) (by simp; omega)
        have hTs : Touch [] w (w4.setCell ⟨g, c.toNat, none⟩ (.int .u32 o)) := hT4.newer hts (by simp; omega)
        clear hM4 hR
        go_wp2_with (first
          | (go_at_call 30; refine (all_mem hMs).mono ?_; rintro e w5 ⟨p5, cap5, rfl, hown5, ht5⟩)
          | (go_at_call 29; refine (same_any _ (Rd.own hown5) (Row.rd' (n := L.length) (hset.touch ht5 (by simp)) (by simp)) (by omega)).mono ?_; rw [decide_eq_true rfl]; rintro e w6 ⟨rfl, ht6⟩))
        exact ⟨⟨6, by decide, by decide, rfl, (hTs.trans ht5).trans ht6⟩, by simp [intOf]⟩
    · go_wp2_with (go_at_call 24; refine (awake01 _).mono ?_; rintro e w10 ⟨rfl, ht10⟩)
      go_ret
      exact ⟨rfl, hTr.trans ht10⟩

set_option maxHeartbeats 2000000 in
set_option maxRecDepth 100000 in
theorem cellsCalls_out {A : Option Addr} {n cp : Nat} {L : List Int} (w : World) (hr : Rd w 1 A n (u32s L)) (hw : Words L) (c x y : Int) (hx : 0 ≤ x ∧ x < 4294967296) (hy : 0 ≤ y ∧ y < 4294967296) (hc : ¬ (0 ≤ c ∧ c < (n : Int))) :
    Calls Try.prog 11 #[.slice A n cp, .int .i64 c, .int .u32 x, .int .u32 y] w fun e w' => e = .returned (.bool true) ∧ Touch [] w w' := by
  have hn := len_of_rd hr
  subst hn
  have h1024 := hw.1
  have i1 : ¬ ((1024 : Int) < (L.length : Int)) := by omega
  have HF := Lib.hid (back_out hc)
  have ht := fun W => there_any A L.length cp c W
  rw [decide_eq_false hc] at ht
  have HW := Lib.hid hw
  clear hc hw
  go_enter Try.func11, Try.ntmps11
  go_wp2_with (go_at_call 37; refine (ht _).mono ?_; rintro e w' ⟨rfl, rfl⟩)
  go_loopw [11] (fun i wr => ∃ k : Int, 1 ≤ k ∧ k ≤ 6 ∧ i = .int .i64 k ∧ Touch [] w wr) (fun i _ => (6 - intOf i).toNat)
  case atStart => exact ⟨1, by decide, by decide, rfl, Touch.refl _ _⟩
  case round =>
    obtain ⟨k, hk1, hk6, rfl, hTr⟩ := hrel
    have hrr := hr.touch hTr (by simp)
    have hcases : k = 1 ∨ k = 2 ∨ k = 3 ∨ k = 4 ∨ k = 5 ∨ k = 6 := by omega
    clear hk1 hk6
    rcases hcases with rfl | rfl | rfl | rfl | rfl | rfl
    · go_wp2_with (first
        | (go_at_call 23; refine (from_ok _ hrr HW.out).mono ?_; rintro e w1 ⟨m, a, rfl, hM, k1, k2, ht1⟩)
        | (go_at_call 33; with_reducible refine (load_any hM c).mono ?_; rw [HF.out.2.1]; rintro e w2 ⟨rfl, ht2⟩))
      have hM2 := hM.touch ht2 (by simp) (by simp)
      have hT2 : Touch [] w w2 := (hTr.trans ht1).trans ht2
      have hge : w.heap.size ≤ a := by have := hTr.size; omega
      clear hM ht2 ht1
      refine (store_any hM2 c x hx).mono ?_
      rw [HF.out.2.2.1 x]
      rintro e w3 ⟨rfl, hM3, ht3⟩
      have hT3 : Touch [] w w3 := hT2.newer ht3 (lv_ge hge)
      have hr3 := hr.touch hT3 (by simp)
      clear hM2 hT2
      go_wp2_with (first
        | (go_at_call 26; refine (copy_any _ hr3 (by omega)).mono ?_; rintro e w4 ⟨p, cap, rfl, hown, ht4⟩)
        | (go_at_call 30; refine (all_mem (hM3.touch ht4 (by simp) (by simp))).mono ?_; rintro e w5 ⟨p5, cap5, rfl, hown5, ht5⟩)
        | (go_at_call 29; refine (same_any _ (Rd.own hown5) ((Rd.own hown).touch ht5 (by simp)) (by omega)).mono ?_; rw [decide_eq_true rfl]; rintro e w6 ⟨rfl, ht6⟩))
      exact ⟨⟨2, by decide, by decide, rfl, ((hT3.trans ht4).trans ht5).trans ht6⟩, by simp [intOf]⟩
    · go_wp2_with (first
        | (go_at_call 23; refine (from_ok _ hrr HW.out).mono ?_; rintro e w1 ⟨m, a, rfl, hM, k1, k2, ht1⟩)
        | (go_at_call 33; with_reducible refine (load_any hM c).mono ?_; rw [HF.out.2.1]; rintro e w2 ⟨rfl, ht2⟩))
      have hM2 := hM.touch ht2 (by simp) (by simp)
      have hT2 : Touch [] w w2 := (hTr.trans ht1).trans ht2
      have hge : w.heap.size ≤ a := by have := hTr.size; omega
      clear hM ht2 ht1
      refine (add_any hM2 c x hx).mono ?_
      rw [HF.out.2.1, HF.out.1 x]
      rintro e w3 ⟨rfl, hM3, ht3⟩
      have hT3 : Touch [] w w3 := hT2.newer ht3 (lv_ge hge)
      have hr3 := hr.touch hT3 (by simp)
      clear hM2 hT2
      go_wp2_with (first
        | (go_at_call 26; refine (copy_any _ hr3 (by omega)).mono ?_; rintro e w4 ⟨p, cap, rfl, hown, ht4⟩)
        | (go_at_call 30; refine (all_mem (hM3.touch ht4 (by simp) (by simp))).mono ?_; rintro e w5 ⟨p5, cap5, rfl, hown5, ht5⟩)
        | (go_at_call 29; refine (same_any _ (Rd.own hown5) ((Rd.own hown).touch ht5 (by simp)) (by omega)).mono ?_; rw [decide_eq_true rfl]; rintro e w6 ⟨rfl, ht6⟩))
      exact ⟨⟨3, by decide, by decide, rfl, ((hT3.trans ht4).trans ht5).trans ht6⟩, by simp [intOf]⟩
    · go_wp2_with (first
        | (go_at_call 23; refine (from_ok _ hrr HW.out).mono ?_; rintro e w1 ⟨m, a, rfl, hM, k1, k2, ht1⟩)
        | (go_at_call 33; with_reducible refine (load_any hM c).mono ?_; rw [HF.out.2.1]; rintro e w2 ⟨rfl, ht2⟩))
      have hM2 := hM.touch ht2 (by simp) (by simp)
      have hT2 : Touch [] w w2 := (hTr.trans ht1).trans ht2
      have hge : w.heap.size ≤ a := by have := hTr.size; omega
      clear hM ht2 ht1
      refine (swap_any hM2 c x hx).mono ?_
      rw [HF.out.2.1, HF.out.2.2.1 x]
      rintro e w3 ⟨rfl, hM3, ht3⟩
      have hT3 : Touch [] w w3 := hT2.newer ht3 (lv_ge hge)
      have hr3 := hr.touch hT3 (by simp)
      clear hM2 hT2
      go_wp2_with (first
        | (go_at_call 26; refine (copy_any _ hr3 (by omega)).mono ?_; rintro e w4 ⟨p, cap, rfl, hown, ht4⟩)
        | (go_at_call 30; refine (all_mem (hM3.touch ht4 (by simp) (by simp))).mono ?_; rintro e w5 ⟨p5, cap5, rfl, hown5, ht5⟩)
        | (go_at_call 29; refine (same_any _ (Rd.own hown5) ((Rd.own hown).touch ht5 (by simp)) (by omega)).mono ?_; rw [decide_eq_true rfl]; rintro e w6 ⟨rfl, ht6⟩))
      exact ⟨⟨4, by decide, by decide, rfl, ((hT3.trans ht4).trans ht5).trans ht6⟩, by simp [intOf]⟩
    · go_wp2_with (first
        | (go_at_call 23; refine (from_ok _ hrr HW.out).mono ?_; rintro e w1 ⟨m, a, rfl, hM, k1, k2, ht1⟩)
        | (go_at_call 33; with_reducible refine (load_any hM c).mono ?_; rw [HF.out.2.1]; rintro e w2 ⟨rfl, ht2⟩))
      have hM2 := hM.touch ht2 (by simp) (by simp)
      have hT2 : Touch [] w w2 := (hTr.trans ht1).trans ht2
      have hge : w.heap.size ≤ a := by have := hTr.size; omega
      clear hM ht2 ht1
      refine (load_any hM2 c).mono ?_
      rw [HF.out.2.1]
      rintro e w3 ⟨rfl, ht3⟩
      have hM3 := hM2.touch ht3 (by simp) (by simp)
      have hT3 : Touch [] w w3 := hT2.trans ht3
      have hr3 := hr.touch hT3 (by simp)
      clear hM2 hT2
      go_wp2_with (first
        | (go_at_call 26; refine (copy_any _ hr3 (by omega)).mono ?_; rintro e w4 ⟨p, cap, rfl, hown, ht4⟩)
        | (go_at_call 30; refine (all_mem (hM3.touch ht4 (by simp) (by simp))).mono ?_; rintro e w5 ⟨p5, cap5, rfl, hown5, ht5⟩)
        | (go_at_call 29; refine (same_any _ (Rd.own hown5) ((Rd.own hown).touch ht5 (by simp)) (by omega)).mono ?_; rw [decide_eq_true rfl]; rintro e w6 ⟨rfl, ht6⟩))
      exact ⟨⟨5, by decide, by decide, rfl, ((hT3.trans ht4).trans ht5).trans ht6⟩, by simp [intOf]⟩
    · go_wp2_with (first
        | (go_at_call 23; refine (from_ok _ hrr HW.out).mono ?_; rintro e w1 ⟨m, a, rfl, hM, k1, k2, ht1⟩)
        | (go_at_call 33; with_reducible refine (load_any hM c).mono ?_; rw [HF.out.2.1]; rintro e w2 ⟨rfl, ht2⟩))
      have hM2 := hM.touch ht2 (by simp) (by simp)
      have hT2 : Touch [] w w2 := (hTr.trans ht1).trans ht2
      have hge : w.heap.size ≤ a := by have := hTr.size; omega
      clear hM ht2 ht1
      refine (cas_any hM2 c x y hx hy).mono ?_
      rw [HF.out.2.1, HF.out.2.2.2.1, HF.out.2.2.2.2]
      rintro e w3 ⟨rfl, hM3, ht3⟩
      have hT3 : Touch [] w w3 := hT2.newer ht3 (lv_ge hge)
      have hr3 := hr.touch hT3 (by simp)
      clear hM2 hT2
      go_wp2_with (first
        | (go_at_call 26; refine (copy_any _ hr3 (by omega)).mono ?_; rintro e w4 ⟨p, cap, rfl, hown, ht4⟩)
        | (go_at_call 30; refine (all_mem (hM3.touch ht4 (by simp) (by simp))).mono ?_; rintro e w5 ⟨p5, cap5, rfl, hown5, ht5⟩)
        | (go_at_call 29; refine (same_any _ (Rd.own hown5) ((Rd.own hown).touch ht5 (by simp)) (by omega)).mono ?_; rw [decide_eq_true rfl]; rintro e w6 ⟨rfl, ht6⟩))
      exact ⟨⟨6, by decide, by decide, rfl, ((hT3.trans ht4).trans ht5).trans ht6⟩, by simp [intOf]⟩
    · go_wp2_with (go_at_call 24; refine (awake01 _).mono ?_; rintro e w10 ⟨rfl, ht10⟩)
      go_ret
      exact ⟨rfl, hTr.trans ht10⟩

set_option maxHeartbeats 400000 in
theorem cellsCalls_big {A : Option Addr} {n cp : Nat} (w : World) (c x y : Int) (hn : 1024 < n) (hn2 : n ≤ 9223372036854775807) :
    Calls Try.prog 11 #[.slice A n cp, .int .i64 c, .int .u32 x, .int .u32 y] w fun e w' => e = .returned (.bool true) ∧ Touch [] w w' := by
  have i1 : ((1024 : Int) < (n : Int)) := by omega
  go_enter Try.func11, Try.ntmps11
  go_wp2_with (go_at_call 24; refine (awake01 _).mono ?_; rintro e w10 ⟨rfl, ht10⟩)
  go_ret
  exact ⟨by simp, ht10⟩

/-- WHATEVER THE INPUT. -/
theorem cellsCalls_any {A : Option Addr} {n cp : Nat} {L : List Int} (w : World) (hr : Rd w 1 A n (L.flatMap fun x => [Value.int .u32 x])) (hL : ∀ x, x ∈ L → 0 ≤ x ∧ x < 4294967296) (hc : n ≤ cp) (hm : cp ≤ 9223372036854775807)
    (c x y : Int) (hx : 0 ≤ x ∧ x < 4294967296) (hy : 0 ≤ y ∧ y < 4294967296) :
    Calls Try.prog 11 #[.slice A n cp, .int .i64 c, .int .u32 x, .int .u32 y] w fun e w' => e = .returned (.bool true) ∧ Touch [] w w' := by
  have hr' : Rd w 1 A n (u32s L) := by
    rw [← u32s_flatMap]
    exact hr
  by_cases hn : n ≤ 1024
  · have hw : Words L := ⟨by have := len_of_rd hr'; omega, hL⟩
    by_cases h1 : 0 ≤ c ∧ c < n
    · exact cellsCalls_in w hr' hw c x y _ hx hy h1.1 h1.2 rfl
    · exact cellsCalls_out w hr' hw c x y hx hy h1
  · exact cellsCalls_big w c x y (by omega) (by omega)

end Go.Proofs.Ytjlpaefpilhngaa.Z
