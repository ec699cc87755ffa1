/- The statement CellsBack: its walk. -/
import Derived.Test.YtjlpaefpilhngaaZLaw01
import Derived.Outline
set_option linter.unusedVariables false
set_option linter.unusedSimpArgs false
namespace Go.Proofs.Ytjlpaefpilhngaa.Z
open Go.RowKit

theorem set_same {L : List Int} {c : Nat} (h : c < L.length) : L.set c (L.getD c 0) = L := by
  apply List.ext_getElem (by simp)
  intro i h1 h2
  rw [List.getElem_set]
  split
  · subst_vars; simp [List.getD, h]
  · rfl

theorem getD_set {L : List Int} {c : Nat} (h : c < L.length) (v : Int) : (L.set c v).getD c 0 = v := by
  simp [List.getD, h]

/-- A cell that is there: its words, and those with another word. -/
theorem back_in {L : List Int} {c x o : Int} (h0 : 0 ≤ c) (h1 : c < L.length) (hx : 0 ≤ x ∧ x < 4294967296) (ho : 0 ≤ o ∧ o < 4294967296) (hv : L.getD c.toNat 0 = o) :
    addA L c x = L.set c.toNat ((o + x) % 4294967296) ∧ addA (L.set c.toNat ((o + x) % 4294967296)) c (-x % 4294967296) = L ∧ ldA L c = o ∧ stA L c x = L.set c.toNat x ∧ stA (L.set c.toNat x) c o = L ∧
      isA L c o = true ∧ casA L c o x = L.set c.toNat x ∧ ldA (L.set c.toNat x) c = x ∧ isA (L.set c.toNat x) c x = true ∧ casA (L.set c.toNat x) c x o = L := by
  have hc : 0 ≤ c ∧ c < L.length := ⟨h0, h1⟩
  have hcs : ∀ v, 0 ≤ c ∧ c < (L.set c.toNat v).length := fun v => ⟨h0, by simpa using h1⟩
  have hn : c.toNat < L.length := by omega
  have hself : L.set c.toNat o = L := by rw [← hv]; exact set_same hn
  have l1 : ldA L c = o := by unfold ldA; rw [if_pos hc, hv]
  have l2 : ∀ v, ldA (L.set c.toNat v) c = v := fun v => by unfold ldA; rw [if_pos (hcs v), getD_set hn]
  have s1 : ∀ v, stA L c v = L.set c.toNat v := fun v => if_pos hc
  have s2 : ∀ v u, stA (L.set c.toNat v) c u = L.set c.toNat u := fun v u => by unfold stA; rw [if_pos (hcs v), List.set_set]
  have i1 : isA L c o = true := decide_eq_true ⟨h0, h1, hv⟩
  have i2 : isA (L.set c.toNat x) c x = true := decide_eq_true ⟨h0, (hcs x).2, getD_set hn x⟩
  refine ⟨by unfold addA; rw [l1, s1], ?_, l1, s1 x, by rw [s2, hself], i1, by unfold casA; rw [i1]; rfl, l2 x, i2, by unfold casA; rw [i2, if_pos rfl, List.set_set, hself]⟩
  unfold addA
  rw [l2, s2, show ((o + x) % 4294967296 + -x % 4294967296) % 4294967296 = o by omega, hself]

theorem back_out {L : List Int} {c : Int} (hc : ¬ (0 ≤ c ∧ c < L.length)) : (∀ x, addA L c x = L) ∧ ldA L c = 0 ∧ (∀ x, stA L c x = L) ∧ (∀ x, isA L c x = false) ∧ ∀ x y, casA L c x y = L := by
  have i : ∀ x, isA L c x = false := fun x => decide_eq_false (fun h => hc ⟨h.1, h.2.1⟩)
  exact ⟨fun x => if_neg hc, if_neg hc, fun x => if_neg hc, i, fun x y => by unfold casA; rw [i]; rfl⟩

theorem neg_range (x : Int) : 0 ≤ -x % 4294967296 ∧ -x % 4294967296 < 4294967296 := by omega

set_option maxHeartbeats 1600000 in
set_option maxRecDepth 100000 in
theorem cellsBack_in {A : Option Addr} {n cp : Nat} {L : List Int} (w : World) (hr : Rd w 1 A n (u32s L)) (hw : Words L) (c x o : Int) (hx : 0 ≤ x ∧ x < 4294967296) (h0 : 0 ≤ c) (h1 : c < n) (hv : L.getD c.toNat 0 = o) :
    Calls Try.prog 10 #[.slice A n cp, .int .i64 c, .int .u32 x] w fun e w' => e = .returned (.bool true) ∧ Touch [] w w' := by
  have hn := len_of_rd hr
  subst hn
  have h1024 := hw.1
  have i1 : ¬ ((1024 : Int) < (L.length : Int)) := by omega
  have ho := hw.getD c.toNat
  rw [hv] at ho
  obtain ⟨e1, e2, e3, e4, e5, e6, e7, e8, e9, e10⟩ := back_in h0 h1 hx ho hv
  have HE := Lib.hid (show addA L c x = L.set c.toNat ((o + x) % 4294967296) ∧ addA (L.set c.toNat ((o + x) % 4294967296)) c (-x % 4294967296) = L ∧ ldA L c = o ∧ stA L c x = L.set c.toNat x ∧ stA (L.set c.toNat x) c o = L ∧
      isA L c o = true ∧ casA L c o x = L.set c.toNat x ∧ ldA (L.set c.toNat x) c = x ∧ isA (L.set c.toNat x) c x = true ∧ casA (L.set c.toNat x) c x o = L from ⟨e1, e2, e3, e4, e5, e6, e7, e8, e9, e10⟩)
  obtain ⟨ad, rfl, had, hcell⟩ := u32s_at hr (show c.toNat < L.length by omega)
  rw [hv] at hcell
  have ht := fun W => there_any (some ad) L.length cp c W
  rw [decide_eq_true ⟨h0, h1⟩] at ht
  have HW := Lib.hid hw
  clear e1 e2 e3 e4 e5 e6 e7 e8 e9 e10 hv hw
  go_enter Try.func10, Try.ntmps10
  go_wp2_with (go_at_call 23; refine (from_ok _ hr HW.out).mono ?_; rintro e w1 ⟨m, a, rfl, hM, k1, k2, ht1⟩)
  refine (add_any hM c x hx).mono ?_
  rw [HE.out.1]
  rintro e w2 ⟨rfl, hM2, ht2⟩
  go_wp2_with fail
  refine (add_any hM2 c _ (neg_range x)).mono ?_
  rw [HE.out.2.1]
  rintro e w3 ⟨rfl, hM3, ht3⟩
  go_wp2_with fail
  refine (swap_any hM3 c x hx).mono ?_
  rw [HE.out.2.2.1, HE.out.2.2.2.1]
  rintro e w4 ⟨rfl, hM4, ht4⟩
  go_wp2_with fail
  refine (swap_any hM4 c o ho).mono ?_
  rw [HE.out.2.2.2.2.1]
  rintro e w5 ⟨rfl, hM5, ht5⟩
  go_wp2_with fail
  refine (cas_any hM5 c o x ho hx).mono ?_
  rw [HE.out.2.2.1, HE.out.2.2.2.2.2.1, HE.out.2.2.2.2.2.2.1]
  rintro e w6 ⟨rfl, hM6, ht6⟩
  go_wp2_with fail
  refine (cas_any hM6 c x o hx ho).mono ?_
  rw [HE.out.2.2.2.2.2.2.2.1, HE.out.2.2.2.2.2.2.2.2.1, HE.out.2.2.2.2.2.2.2.2.2]
  rintro e w7 ⟨rfl, hM7, ht7⟩
  have hT : Touch [] w w7 := by
    have hge := k2
    exact (((((ht1.newer ht2 (lv_ge hge)).newer ht3 (lv_ge hge)).newer ht4 (lv_ge hge)).newer ht5 (lv_ge hge)).newer ht6 (lv_ge hge)).newer ht7 (lv_ge hge)
  have hr7 := hr.touch hT (by simp)
  clear hM hM2 hM3 hM4 hM5 hM6
  have hcell7 : w7.cell? (ad.add c.toNat) = some (.int .u32 o) := by
    rw [hT.cell (by rw [addr_block]; exact had) (by simp)]; exact hcell
  go_wp2_with (first
    | (go_at_call 37; refine (ht _).mono ?_; rintro e w' ⟨rfl, rfl⟩)
    | (go_at_call 30; refine (all_mem hM7).mono ?_; rintro e w8 ⟨p8, cap8, rfl, hown8, ht8⟩)
    | (go_at_call 29; refine (same_any _ (Rd.own hown8) (hr7.touch ht8 (by simp)) (by omega)).mono ?_; rw [decide_eq_true (rfl : L = L)]; rintro e w9 ⟨rfl, ht9⟩
       have hcell9 : w9.cell? (ad.add c.toNat) = some (.int .u32 o) := by rw [(ht8.trans ht9).cell (by rw [addr_block]; exact Nat.lt_of_lt_of_le had hT.size) (by simp)]; exact hcell7)
    | (go_at_call 24; refine (awake01 _).mono ?_; rintro e w10 ⟨rfl, ht10⟩))
  go_ret
  exact ⟨by simp, ((hT.trans ht8).trans ht9).trans ht10⟩

set_option maxHeartbeats 1600000 in
set_option maxRecDepth 100000 in
theorem cellsBack_out {A : Option Addr} {n cp : Nat} {L : List Int} (w : World) (hr : Rd w 1 A n (u32s L)) (hw : Words L) (c x : Int) (hx : 0 ≤ x ∧ x < 4294967296) (hc : ¬ (0 ≤ c ∧ c < (n : Int))) :
    Calls Try.prog 10 #[.slice A n cp, .int .i64 c, .int .u32 x] w fun e w' => e = .returned (.bool true) ∧ Touch [] w w' := by
  have hn := len_of_rd hr
  subst hn
  have h1024 := hw.1
  have i1 : ¬ ((1024 : Int) < (L.length : Int)) := by omega
  have HE := Lib.hid (back_out hc)
  have ht := fun W => there_any A L.length cp c W
  rw [decide_eq_false hc] at ht
  have HW := Lib.hid hw
  clear hc hw
  go_enter Try.func10, Try.ntmps10
  go_wp2_with (go_at_call 23; refine (from_ok _ hr HW.out).mono ?_; rintro e w1 ⟨m, a, rfl, hM, k1, k2, ht1⟩)
  refine (add_any hM c x hx).mono ?_
  rw [HE.out.1]
  rintro e w2 ⟨rfl, hM2, ht2⟩
  go_wp2_with fail
  refine (add_any hM2 c _ (neg_range x)).mono ?_
  rw [HE.out.1]
  rintro e w3 ⟨rfl, hM3, ht3⟩
  go_wp2_with fail
  refine (swap_any hM3 c x hx).mono ?_
  rw [HE.out.2.1, HE.out.2.2.1]
  rintro e w4 ⟨rfl, hM4, ht4⟩
  go_wp2_with fail
  refine (swap_any hM4 c 0 z32).mono ?_
  rw [HE.out.2.2.1]
  rintro e w5 ⟨rfl, hM5, ht5⟩
  go_wp2_with fail
  refine (cas_any hM5 c 0 x z32 hx).mono ?_
  rw [HE.out.2.1, HE.out.2.2.2.1, HE.out.2.2.2.2]
  rintro e w6 ⟨rfl, hM6, ht6⟩
  go_wp2_with fail
  refine (cas_any hM6 c x 0 hx z32).mono ?_
  rw [HE.out.2.1, HE.out.2.2.2.1, HE.out.2.2.2.2]
  rintro e w7 ⟨rfl, hM7, ht7⟩
  have hT : Touch [] w w7 := by
    have hge := k2
    exact (((((ht1.newer ht2 (lv_ge hge)).newer ht3 (lv_ge hge)).newer ht4 (lv_ge hge)).newer ht5 (lv_ge hge)).newer ht6 (lv_ge hge)).newer ht7 (lv_ge hge)
  have hr7 := hr.touch hT (by simp)
  clear hM hM2 hM3 hM4 hM5 hM6
  go_wp2_with (first
    | (go_at_call 37; refine (ht _).mono ?_; rintro e w' ⟨rfl, rfl⟩)
    | (go_at_call 30; refine (all_mem hM7).mono ?_; rintro e w8 ⟨p8, cap8, rfl, hown8, ht8⟩)
    | (go_at_call 29; refine (same_any _ (Rd.own hown8) (hr7.touch ht8 (by simp)) (by omega)).mono ?_; rw [decide_eq_true (rfl : L = L)]; rintro e w9 ⟨rfl, ht9⟩)
    | (go_at_call 24; refine (awake01 _).mono ?_; rintro e w10 ⟨rfl, ht10⟩))
  go_ret
  exact ⟨by simp, ((hT.trans ht8).trans ht9).trans ht10⟩

set_option maxHeartbeats 400000 in
theorem cellsBack_big {A : Option Addr} {n cp : Nat} (w : World) (c x : Int) (hn : 1024 < n) (hn2 : n ≤ 9223372036854775807) :
    Calls Try.prog 10 #[.slice A n cp, .int .i64 c, .int .u32 x] w fun e w' => e = .returned (.bool true) ∧ Touch [] w w' := by
  have i1 : ((1024 : Int) < (n : Int)) := by omega
  go_enter Try.func10, Try.ntmps10
  go_wp2_with (go_at_call 24; refine (awake01 _).mono ?_; rintro e w10 ⟨rfl, ht10⟩)
  go_ret
  exact ⟨by simp, ht10⟩

/-- WHATEVER THE INPUT. -/
theorem cellsBack_any {A : Option Addr} {n cp : Nat} {L : List Int} (w : World) (hr : Rd w 1 A n (L.flatMap fun x => [Value.int .u32 x])) (hL : ∀ x, x ∈ L → 0 ≤ x ∧ x < 4294967296) (hc : n ≤ cp) (hm : cp ≤ 9223372036854775807)
    (c x : Int) (hx : 0 ≤ x ∧ x < 4294967296) :
    Calls Try.prog 10 #[.slice A n cp, .int .i64 c, .int .u32 x] w fun e w' => e = .returned (.bool true) ∧ Touch [] w w' := by
  have hr' : Rd w 1 A n (u32s L) := by
    rw [← u32s_flatMap]
    exact hr
  by_cases hn : n ≤ 1024
  · have hw : Words L := ⟨by have := len_of_rd hr'; omega, hL⟩
    by_cases h1 : 0 ≤ c ∧ c < n
    · exact cellsBack_in w hr' hw c x _ hx h1.1 h1.2 rfl
    · exact cellsBack_out w hr' hw c x hx h1
  · exact cellsBack_big w c x (by omega) (by omega)

end Go.Proofs.Ytjlpaefpilhngaa.Z
