/- The statement ParkOnce: its walk. -/
import Derived.Test.YtghiggaldkojpaaZLaw06
import Derived.Test.YtghiggaldkojpaaZAcc
import Derived.Outline
set_option linter.unusedVariables false
set_option linter.unusedSimpArgs false
namespace Go.Proofs.Ytghiggaldkojpaa.Z
open Go.RowKit

/-- All words at first; and with one permit. -/
def onceL (k : Int) : List Int := own4 0 ++ List.replicate ((8 + 4 * k).toNat - 2) 0
def onceP (k a : Int) : List Int := (onceL k).set (cellP k 3 a).toNat 1

theorem onceL_eq (k : Int) (hk : 1 ≤ k) : onceL k = List.replicate (8 + 4 * k).toNat 0 := by
  unfold onceL own4
  obtain ⟨m, hm⟩ : ∃ m, (8 + 4 * k).toNat = m + 2 := ⟨(8 + 4 * k).toNat - 2, by omega⟩
  rw [hm]
  rfl

theorem onceL_length (k : Int) (hk : 1 ≤ k) : ((onceL k).length : Int) = 8 + 4 * k := by rw [onceL_eq k hk]; simp; omega

theorem once_cell {k a : Int} (hk : 1 ≤ k ∧ k ≤ 64) (ha : 0 ≤ a ∧ a < k) : cellP k 3 a = 8 + 3 * k + a := if_pos ⟨hk.1, hk.2, ha.1, ha.2⟩

theorem onceL_at (k : Int) (hk : 1 ≤ k) (i : Nat) : (onceL k).getD i 0 = 0 := by
  rw [onceL_eq k hk]
  simp [List.getD, List.getElem?_replicate]
  split <;> rfl

theorem once_in {k a : Int} (hk : 1 ≤ k ∧ k ≤ 64) (ha : 0 ≤ a ∧ a < k) : 0 ≤ cellP k 3 a ∧ cellP k 3 a < (onceL k).length := by
  rw [once_cell hk ha, onceL_length k hk.1]; omega

theorem onceP_length (k a : Int) : (onceP k a).length = (onceL k).length := by simp [onceP]

theorem onceP_at {k a b : Int} (hk : 1 ≤ k ∧ k ≤ 64) (ha : 0 ≤ a ∧ a < k) (hb : 0 ≤ b ∧ b < k) : (onceP k a).getD (cellP k 3 b).toNat 0 = if a = b then 1 else 0 := by
  have h1 := once_in hk ha
  have h2 := onceL_at k hk.1 (cellP k 3 b).toNat
  unfold onceP
  by_cases h : a = b
  · subst h
    rw [if_pos rfl, List.getD, List.getElem?_set_self (by omega)]
    rfl
  · have : (cellP k 3 a).toNat ≠ (cellP k 3 b).toNat := by rw [once_cell hk ha, once_cell hk hb]; omega
    rw [if_neg h, List.getD, List.getElem?_set_ne this]
    exact h2

theorem give_once {k a : Int} (hk : 1 ≤ k ∧ k ≤ 64) (ha : 0 ≤ a ∧ a < k) : giveA (onceL k) k a = (⟨2, cellP k 3 a, 1, 0, 0⟩, true, onceP k a) := by
  unfold giveA doA
  rw [if_pos (once_in hk ha)]
  simp only [onceL_at k hk.1]
  rfl

theorem give_twice {k a : Int} (hk : 1 ≤ k ∧ k ≤ 64) (ha : 0 ≤ a ∧ a < k) : giveA (onceP k a) k a = (⟨2, cellP k 3 a, 1, 0, 1⟩, true, onceP k a) := by
  unfold giveA
  rw [acc_store (by rw [onceP_length]; exact once_in hk ha), onceP_at hk ha ha, if_pos rfl]
  unfold onceP
  rw [List.set_set]

theorem there_once {k b : Int} (hk : 1 ≤ k ∧ k ≤ 64) : thereA (onceL k) k b = false := by
  unfold thereA ldA
  split
  · rw [onceL_at k hk.1]; rfl
  · rfl

theorem there_given {k a b : Int} (hk : 1 ≤ k ∧ k ≤ 64) (ha : 0 ≤ a ∧ a < k) (hb : 0 ≤ b ∧ b < k) : thereA (onceP k a) k b = decide (a = b) := by
  unfold thereA ldA
  rw [if_pos (by rw [onceP_length]; exact once_in hk hb), onceP_at hk ha hb]
  by_cases h : a = b <;> simp [h]

theorem take_given {k a : Int} (hk : 1 ≤ k ∧ k ≤ 64) (ha : 0 ≤ a ∧ a < k) : takeA (onceP k a) k a = (⟨4, cellP k 3 a, 0, 0, 1⟩, true, onceL k) := by
  unfold takeA
  rw [there_given hk ha ha, decide_eq_true rfl, if_pos rfl, acc_swap (by rw [onceP_length]; exact once_in hk ha), onceP_at hk ha ha, if_pos rfl]
  unfold onceP
  rw [List.set_set]
  have : (onceL k).set (cellP k 3 a).toNat 0 = onceL k := by
    rw [onceL_eq k hk.1]
    simp
  rw [this]

theorem take_none {k a : Int} (hk : 1 ≤ k ∧ k ≤ 64) : takeA (onceL k) k a = (Acc.zero, false, onceL k) := by
  unfold takeA
  rw [there_once hk]
  rfl

/-- The words behind some gifts. -/
def onceN (k a : Int) (i : Nat) : List Int := if i = 0 then onceL k else onceP k a

theorem give_n {k a : Int} (hk : 1 ≤ k ∧ k ≤ 64) (ha : 0 ≤ a ∧ a < k) (i : Nat) : ∃ o, giveA (onceN k a i) k a = (⟨2, cellP k 3 a, 1, 0, o⟩, true, onceN k a (i + 1)) := by
  unfold onceN
  by_cases h : i = 0
  · subst h
    exact ⟨0, give_once hk ha⟩
  · rw [if_neg h, if_neg (by omega)]
    exact ⟨1, give_twice hk ha⟩

set_option maxHeartbeats 1600000 in
theorem parkOnce_any (n t o q : Int) (w : World) (hn : 0 ≤ n ∧ n < 256) (ht : 0 ≤ t ∧ t < 256) (ho : 0 ≤ o ∧ o < 256) (hq : 0 ≤ q ∧ q < 256) :
    Calls Try.prog 6 #[.int .u8 n, .int .u8 t, .int .u8 o, .int .u8 q] w fun e w' => e = .returned (.bool true) ∧ Touch [] w w' := by
  obtain ⟨n0, n1⟩ := hn
  obtain ⟨t0, t1⟩ := ht
  obtain ⟨o0, o1⟩ := ho
  obtain ⟨q0, q1⟩ := hq
  have hk : 1 ≤ 1 + n % 64 ∧ 1 + n % 64 ≤ 64 := by omega
  have h64 : ¬ ((64 : Int) == 0) = true := by decide
  go_enter Try.func6, Try.ntmps6
  go_wp2_with fail
  generalize 1 + n % 64 = k at hk ⊢
  clear h64
  refine (first4 k 0 _ hk (by decide)).mono ?_
  rintro e w1 ⟨p, g, cap, rfl, hR, hg, hgl, ht1, hcap, hcm⟩
  rw [show own4 0 ++ List.replicate ((8 + 4 * k).toNat - 2) 0 = onceL k from rfl] at *
  go_wp2_with fail
  refine (from_row hR rfl).mono ?_
  rintro e w2 ⟨m, a, rfl, hM, k1, k2, ht2⟩
  have hR2 := hR.touch ht2 (by simp)
  have hT2 : Touch [] w w2 := ht1.trans ht2
  have s1 := ht1.size
  have s2 := ht2.size
  have hml := hM.lt.1
  have hal := hM.lt.2 (by have := onceL_length k hk.1; omega)
  have HG := Lib.hid (show w.heap.size ≤ a ∧ w.heap.size ≤ g ∧ g ≠ a ∧ g < w2.heap.size ∧ a < w2.heap.size from ⟨by omega, hg, by omega, by omega, hal⟩)
  have ha : 0 ≤ t % k ∧ t % k < k := ⟨Int.emod_nonneg _ (by omega), Int.emod_lt_of_pos _ (by omega)⟩
  have hb : 0 ≤ o % k ∧ o % k < k := ⟨Int.emod_nonneg _ (by omega), Int.emod_lt_of_pos _ (by omega)⟩
  have hk0 : (k == 0) = false := by have := hk.1; simp; omega
  obtain ⟨kk1, kk2⟩ := hk
  clear hR hg hgl ht1 ht2 k1 k2 s1 s2
  go_wp2_with fail
  go_quiet (fail)
  generalize t % k = x at ha ⊢
  generalize o % k = y at hb ⊢
  have hki : I64 k := by unfold I64; omega
  have B2 : Blk ((w2.alloc (.cells #[.int .i64 k] 38)).drewN nq) w2.heap.size #[.int .i64 k] := (Blk.new _ _ _).drewN nq
  have hT3 : Touch [] w ((w2.alloc (.cells #[.int .i64 k] 38)).drewN nq) := (hT2.alloc _).drewN nq
  have hM3 := hM.touch (((Touch.refl [] w2).alloc (.cells #[.int .i64 k] 38)).drewN nq) (by simp) (by simp)
  have hR3 := hR2.touch (((Touch.refl [] w2).alloc (.cells #[.int .i64 k] 38)).drewN nq) (by simp)
  obtain ⟨N, hN⟩ := Int.eq_ofNat_of_zero_le (show 0 ≤ q % 20 by omega)
  have HN := Lib.hid hN
  have hN20 : N < 20 := by omega
  have HK := Lib.hid (show (1 ≤ k ∧ k ≤ 64) ∧ (0 ≤ x ∧ x < k) ∧ (0 ≤ y ∧ y < k) from ⟨⟨kk1, kk2⟩, ha, hb⟩)
  clear hM hR2 hT2 hN kk1 kk2 ha hb
  go_wp2_with fail
  go_loopw [17] (fun i wr => ∃ j : Nat, j ≤ N ∧ i = .int .i64 j ∧ Mem wr m a (onceN k x j) ∧ Row wr p g (onceL k) ∧ Blk wr w2.heap.size #[.int .i64 k] ∧ Touch [] w wr) (fun i _ => N - (intOf i).toNat)
  case atStart => exact ⟨0, Nat.zero_le _, rfl, hM3, hR3, B2, hT3⟩
  case round =>
    obtain ⟨j, hj, rfl, hMr, hRr, hBr, hTr⟩ := hrel
    clear hM3 hR3 B2 hT3
    obtain ⟨b1, b2, b3⟩ := hBr.own
    by_cases hlt : j < N
    · have hi : (j : Int) < q % 20 := by have := HN.out; omega
      obtain ⟨og, hgv⟩ := give_n HK.out.1 HK.out.2.1 j
      have HGV := Lib.hid hgv
      clear hgv
      go_wp2_with fail
      refine (give_any hMr k x hki).mono ?_
      rw [HGV.out]
      simp only [Acc.cells]
      rintro e w3 ⟨rfl, hM3, t3⟩
      have hT3 : Touch [] w w3 := hTr.newer t3 (lv_ge HG.out.1)
      have hR3 := hRr.touch t3 (lv_not HG.out.2.2.1)
      have B3 := t3.blk hBr (lv_not (by have := HG.out.2.2.2.2; omega))
      go_wp2_with fail
      exact ⟨⟨j + 1, by omega, by go_num, hM3.touch ((Touch.refl [] _).alloc _) (by simp) (by simp), hR3.touch ((Touch.refl [] _).alloc _) (by simp), B3.alloc _, hT3.alloc _⟩, by simp [intOf]; omega⟩
    · obtain rfl : j = N := by omega
      have hi : q % 20 ≤ (j : Int) := by have := HN.out; omega
      by_cases hz : j = 0
      · have h0 : ¬ ((0 : Int) < q % 20) := by omega
        subst hz
        rw [show onceN k x 0 = onceL k from rfl] at hMr
        go_wp2_with fail
        refine (there_is hMr k x hki).mono ?_
        rw [there_once HK.out.1]
        rintro e w3 ⟨rfl, t3⟩
        have B3 := t3.blk hBr (by simp)
        obtain ⟨c1, c2, c3⟩ := B3.own
        have hM3 := hMr.touch t3 (by simp) (by simp)
        have hT3 := hTr.trans t3
        have hR3 := hRr.touch t3 (by simp)
        clear b1 b2 b3 hMr hTr hRr hBr t3
        have hmeet : ∃ w4, Touch [] w3 w4 ∧ w4 = w4 := ⟨w3, Touch.refl _ _, rfl⟩
        clear hmeet
        by_cases hxy : x = y
        · have hne : (x != y) = false := by simp [hxy]
          clear hxy
          go_wp2_with fail
          refine (take_any hM3 k x hki).mono ?_
          rw [take_none HK.out.1]
          simp only [Acc.cells, Acc.zero]
          rintro e w5 ⟨rfl, hM5, t5⟩
          have B5 := t5.blk B3 (lv_not (by have := HG.out.2.2.2.2; omega))
          obtain ⟨d1, d2, d3⟩ := B5.own
          have hT5 : Touch [] w w5 := hT3.newer t5 (lv_ge HG.out.1)
          have hR5 := hR3.touch t5 (lv_not HG.out.2.2.1)
          go_wp2_with fail
          refine (take_any (hM5.touch ((Touch.refl [] _).alloc _) (by simp) (by simp)) k x hki).mono ?_
          rw [take_none HK.out.1]
          simp only [Acc.cells, Acc.zero]
          rintro e w6 ⟨rfl, hM6, t6⟩
          have B6 := t6.blk (B5.alloc _) (lv_not (by have := HG.out.2.2.2.2; omega))
          clear d1 d2 d3
          obtain ⟨d1, d2, d3⟩ := B6.own
          have hT6 : Touch [] w w6 := (hT5.alloc _).newer t6 (lv_ge HG.out.1)
          have hR6 := (hR5.touch ((Touch.refl [] _).alloc _) (by simp)).touch t6 (lv_not HG.out.2.2.1)
          clear hM5 hT5 hR5 B5 t5 t6
          go_wp2_with (first
            | (go_at_call 33; refine (there_is (hM6.touch ((Touch.refl [] _).alloc _) (by simp) (by simp)) k x hki).mono ?_; rw [there_once HK.out.1]; rintro e w7 ⟨rfl, t7⟩
               have hM7 := (hM6.touch ((Touch.refl [] _).alloc _) (by simp) (by simp)).touch t7 (by simp) (by simp)
               have hR7 := (hR6.touch ((Touch.refl [] _).alloc _) (by simp)).touch t7 (by simp))
            | (go_at_call 23; refine (all_mem hM7).mono ?_; rintro e w8 ⟨p8, cap8, rfl, hown8, t8⟩)
            | (go_at_call 22; refine (same_any _ (Rd.own hown8) (hR7.touch t8 (by simp)).rd (by have := hM7.words.1; omega)).mono ?_; rw [decide_eq_true rfl]; rintro e w9 ⟨rfl, t9⟩)
            | (go_at_call 28; refine (awake06 _).mono ?_; rintro e w10 ⟨rfl, t10⟩))
          go_ret
          exact ⟨by simp, ((((hT6.alloc _).trans t7).trans t8).trans t9).trans t10⟩
        · have hne : (x != y) = true := by simpa using hxy
          have HXY := Lib.hid hxy
          clear hxy
          go_wp2_with fail
          refine (there_is hM3 k y hki).mono ?_
          rw [there_once HK.out.1]
          rintro e w4 ⟨rfl, t4⟩
          have B4 := t4.blk B3 (by simp)
          clear c1 c2 c3
          obtain ⟨c1, c2, c3⟩ := B4.own
          have hM4 := hM3.touch t4 (by simp) (by simp)
          have hT4 := hT3.trans t4
          have hR4 := hR3.touch t4 (by simp)
          go_wp2_with fail
          refine (take_any hM4 k x hki).mono ?_
          rw [take_none HK.out.1]
          simp only [Acc.cells, Acc.zero]
          rintro e w5 ⟨rfl, hM5, t5⟩
          have B5 := t5.blk B4 (lv_not (by have := HG.out.2.2.2.2; omega))
          obtain ⟨d1, d2, d3⟩ := B5.own
          have hT5 : Touch [] w w5 := hT4.newer t5 (lv_ge HG.out.1)
          have hR5 := hR4.touch t5 (lv_not HG.out.2.2.1)
          go_wp2_with fail
          refine (take_any (hM5.touch ((Touch.refl [] _).alloc _) (by simp) (by simp)) k x hki).mono ?_
          rw [take_none HK.out.1]
          simp only [Acc.cells, Acc.zero]
          rintro e w6 ⟨rfl, hM6, t6⟩
          have B6 := t6.blk (B5.alloc _) (lv_not (by have := HG.out.2.2.2.2; omega))
          clear d1 d2 d3
          obtain ⟨d1, d2, d3⟩ := B6.own
          have hT6 : Touch [] w w6 := (hT5.alloc _).newer t6 (lv_ge HG.out.1)
          have hR6 := (hR5.touch ((Touch.refl [] _).alloc _) (by simp)).touch t6 (lv_not HG.out.2.2.1)
          clear hM5 hT5 hR5 B5 t5 t6
          go_wp2_with (first
            | (go_at_call 33; refine (there_is (hM6.touch ((Touch.refl [] _).alloc _) (by simp) (by simp)) k x hki).mono ?_; rw [there_once HK.out.1]; rintro e w7 ⟨rfl, t7⟩
               have hM7 := (hM6.touch ((Touch.refl [] _).alloc _) (by simp) (by simp)).touch t7 (by simp) (by simp)
               have hR7 := (hR6.touch ((Touch.refl [] _).alloc _) (by simp)).touch t7 (by simp))
            | (go_at_call 23; refine (all_mem hM7).mono ?_; rintro e w8 ⟨p8, cap8, rfl, hown8, t8⟩)
            | (go_at_call 22; refine (same_any _ (Rd.own hown8) (hR7.touch t8 (by simp)).rd (by have := hM7.words.1; omega)).mono ?_; rw [decide_eq_true rfl]; rintro e w9 ⟨rfl, t9⟩)
            | (go_at_call 28; refine (awake06 _).mono ?_; rintro e w10 ⟨rfl, t10⟩))
          go_ret
          exact ⟨by simp, ((((hT6.alloc _).trans t7).trans t8).trans t9).trans t10⟩
      · have h0 : ((0 : Int) < q % 20) := by have := HN.out; omega
        rw [show onceN k x j = onceP k x from if_neg hz] at hMr
        go_wp2_with fail
        refine (there_is hMr k x hki).mono ?_
        rw [there_given HK.out.1 HK.out.2.1 HK.out.2.1, decide_eq_true rfl]
        rintro e w3 ⟨rfl, t3⟩
        have B3 := t3.blk hBr (by simp)
        obtain ⟨c1, c2, c3⟩ := B3.own
        have hM3 := hMr.touch t3 (by simp) (by simp)
        have hT3 := hTr.trans t3
        have hR3 := hRr.touch t3 (by simp)
        clear b1 b2 b3 hMr hTr hRr hBr t3
        have hmeet : ∃ w4, Touch [] w3 w4 ∧ w4 = w4 := ⟨w3, Touch.refl _ _, rfl⟩
        clear hmeet
        by_cases hxy : x = y
        · have hne : (x != y) = false := by simp [hxy]
          clear hxy
          go_wp2_with fail
          refine (take_any hM3 k x hki).mono ?_
          rw [take_given HK.out.1 HK.out.2.1]
          simp only [Acc.cells, Acc.zero]
          rintro e w5 ⟨rfl, hM5, t5⟩
          have B5 := t5.blk B3 (lv_not (by have := HG.out.2.2.2.2; omega))
          obtain ⟨d1, d2, d3⟩ := B5.own
          have hT5 : Touch [] w w5 := hT3.newer t5 (lv_ge HG.out.1)
          have hR5 := hR3.touch t5 (lv_not HG.out.2.2.1)
          go_wp2_with fail
          refine (take_any (hM5.touch ((Touch.refl [] _).alloc _) (by simp) (by simp)) k x hki).mono ?_
          rw [take_none HK.out.1]
          simp only [Acc.cells, Acc.zero]
          rintro e w6 ⟨rfl, hM6, t6⟩
          have B6 := t6.blk (B5.alloc _) (lv_not (by have := HG.out.2.2.2.2; omega))
          clear d1 d2 d3
          obtain ⟨d1, d2, d3⟩ := B6.own
          have hT6 : Touch [] w w6 := (hT5.alloc _).newer t6 (lv_ge HG.out.1)
          have hR6 := (hR5.touch ((Touch.refl [] _).alloc _) (by simp)).touch t6 (lv_not HG.out.2.2.1)
          clear hM5 hT5 hR5 B5 t5 t6
          go_wp2_with (first
            | (go_at_call 33; refine (there_is (hM6.touch ((Touch.refl [] _).alloc _) (by simp) (by simp)) k x hki).mono ?_; rw [there_once HK.out.1]; rintro e w7 ⟨rfl, t7⟩
               have hM7 := (hM6.touch ((Touch.refl [] _).alloc _) (by simp) (by simp)).touch t7 (by simp) (by simp)
               have hR7 := (hR6.touch ((Touch.refl [] _).alloc _) (by simp)).touch t7 (by simp))
            | (go_at_call 23; refine (all_mem hM7).mono ?_; rintro e w8 ⟨p8, cap8, rfl, hown8, t8⟩)
            | (go_at_call 22; refine (same_any _ (Rd.own hown8) (hR7.touch t8 (by simp)).rd (by have := hM7.words.1; omega)).mono ?_; rw [decide_eq_true rfl]; rintro e w9 ⟨rfl, t9⟩)
            | (go_at_call 28; refine (awake06 _).mono ?_; rintro e w10 ⟨rfl, t10⟩))
          go_ret
          exact ⟨by simp, ((((hT6.alloc _).trans t7).trans t8).trans t9).trans t10⟩
        · have hne : (x != y) = true := by simpa using hxy
          have HXY := Lib.hid hxy
          clear hxy
          go_wp2_with fail
          refine (there_is hM3 k y hki).mono ?_
          rw [there_given HK.out.1 HK.out.2.1 HK.out.2.2, decide_eq_false HXY.out]
          rintro e w4 ⟨rfl, t4⟩
          have B4 := t4.blk B3 (by simp)
          clear c1 c2 c3
          obtain ⟨c1, c2, c3⟩ := B4.own
          have hM4 := hM3.touch t4 (by simp) (by simp)
          have hT4 := hT3.trans t4
          have hR4 := hR3.touch t4 (by simp)
          go_wp2_with fail
          refine (take_any hM4 k x hki).mono ?_
          rw [take_given HK.out.1 HK.out.2.1]
          simp only [Acc.cells, Acc.zero]
          rintro e w5 ⟨rfl, hM5, t5⟩
          have B5 := t5.blk B4 (lv_not (by have := HG.out.2.2.2.2; omega))
          obtain ⟨d1, d2, d3⟩ := B5.own
          have hT5 : Touch [] w w5 := hT4.newer t5 (lv_ge HG.out.1)
          have hR5 := hR4.touch t5 (lv_not HG.out.2.2.1)
          go_wp2_with fail
          refine (take_any (hM5.touch ((Touch.refl [] _).alloc _) (by simp) (by simp)) k x hki).mono ?_
          rw [take_none HK.out.1]
          simp only [Acc.cells, Acc.zero]
          rintro e w6 ⟨rfl, hM6, t6⟩
          have B6 := t6.blk (B5.alloc _) (lv_not (by have := HG.out.2.2.2.2; omega))
          clear d1 d2 d3
          obtain ⟨d1, d2, d3⟩ := B6.own
          have hT6 : Touch [] w w6 := (hT5.alloc _).newer t6 (lv_ge HG.out.1)
          have hR6 := (hR5.touch ((Touch.refl [] _).alloc _) (by simp)).touch t6 (lv_not HG.out.2.2.1)
          clear hM5 hT5 hR5 B5 t5 t6
          go_wp2_with (first
            | (go_at_call 33; refine (there_is (hM6.touch ((Touch.refl [] _).alloc _) (by simp) (by simp)) k x hki).mono ?_; rw [there_once HK.out.1]; rintro e w7 ⟨rfl, t7⟩
               have hM7 := (hM6.touch ((Touch.refl [] _).alloc _) (by simp) (by simp)).touch t7 (by simp) (by simp)
               have hR7 := (hR6.touch ((Touch.refl [] _).alloc _) (by simp)).touch t7 (by simp))
            | (go_at_call 23; refine (all_mem hM7).mono ?_; rintro e w8 ⟨p8, cap8, rfl, hown8, t8⟩)
            | (go_at_call 22; refine (same_any _ (Rd.own hown8) (hR7.touch t8 (by simp)).rd (by have := hM7.words.1; omega)).mono ?_; rw [decide_eq_true rfl]; rintro e w9 ⟨rfl, t9⟩)
            | (go_at_call 28; refine (awake06 _).mono ?_; rintro e w10 ⟨rfl, t10⟩))
          go_ret
          exact ⟨by simp, ((((hT6.alloc _).trans t7).trans t8).trans t9).trans t10⟩

end Go.Proofs.Ytghiggaldkojpaa.Z
