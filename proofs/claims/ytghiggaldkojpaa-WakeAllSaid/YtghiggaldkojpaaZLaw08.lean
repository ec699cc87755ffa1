/- The document's example of layer 8; a step of the document's wake-up, whatever it is. -/
import Derived.Test.YtghiggaldkojpaaZWakeRef
import Derived.Test.YtghiggaldkojpaaZHas3
set_option linter.unusedVariables false
set_option linter.unusedSimpArgs false
namespace Go.Proofs.Ytghiggaldkojpaa.Z
open Go.RowKit

theorem cellP_right {n row i : Int} (h : 0 ≤ cellP n row i) : 1 ≤ n ∧ n ≤ 64 ∧ 0 ≤ i ∧ i < n := by
  unfold cellP at h
  split at h
  · assumption
  · omega

/-- WHATEVER THE WAKE-UP: the document's step of it. -/
theorem rwake_any {S0 : List Nat} {w0 w : World} {p : Option Addr} {g cap : Nat} {L : List Int} {rs : List Res} (H : Has S0 w0 w (.row p g cap L :: rs)) (n : Int) (k : Wk) :
    Calls Try.prog 39 #[.slice p L.length cap, .int .i64 n, .agg k.cells] w
      fun e w' => e = .returned (.tuple #[.agg (wakeA L n k).1.cells, .agg (wakeA L n k).2.1.cells]) ∧ Has S0 w0 w' (.row p g cap (wakeA L n k).2.2 :: rs) := by
  obtain ⟨on, cell, i, hit⟩ := k
  cases on with
  | false => exact rwake_off H _ n cell i hit
  | true =>
    by_cases hc : 0 ≤ cellP n 2 i
    · have hR := cellP_right hc
      have hi : 0 ≤ i ∧ i < 64 := ⟨hR.2.2.1, by omega⟩
      unfold wakeA
      cases hit with
      | true =>
        cases hb : (giveA L n i).2.1 with
        | true =>
          simp only [hb, if_true]
          unfold nextA
          by_cases he : n ≤ i + 1
          · simp only [he, if_true]; exact rwake_hit_end H n cell i hc hi hb he
          · simp only [he, if_false]; exact rwake_hit_next H n cell i hc hi hb he
        | false => simp only [hb, if_true, Bool.false_eq_true, if_false]; exact rwake_hit_no H n cell i hc hb
      | false =>
        cases hb : (doA L ⟨1, cellP n 2 i, 0, 0, 0⟩).2.1 with
        | true =>
          have hL : (doA L ⟨1, cellP n 2 i, 0, 0, 0⟩).2.2 = L := doA_load _ _ _ _ _
          by_cases hq : (doA L ⟨1, cellP n 2 i, 0, 0, 0⟩).1.old = (cell + 1) % 4294967296
          · have := rwake_look_is H n cell i hc hb hq
            rw [hL] at this
            simp only [hb, hq, if_true, Bool.false_eq_true, if_false]; exact this
          · simp only [hb, hq, if_true, Bool.false_eq_true, if_false]
            unfold nextA
            by_cases he : n ≤ i + 1
            · have := rwake_look_end H n cell i hc hi hb hq he
              rw [hL] at this
              simp only [he, if_true]; exact this
            · have := rwake_look_next H n cell i hc hi hb hq he
              rw [hL] at this
              simp only [he, if_false]; exact this
        | false => simp only [hb, if_true, Bool.false_eq_true, if_false]; exact rwake_look_no H n cell i hc hb
    · have h3 : cellP n 3 i < 0 := by
        rcases Int.lt_or_le (cellP n 3 i) 0 with h | h
        · exact h
        · have := cellP_right h
          exfalso
          apply hc
          unfold cellP
          rw [if_pos this]
          omega
      have e : wakeA L n ⟨true, cell, i, hit⟩ = (Wk.zero, Acc.zero, L) := by
        unfold wakeA
        cases hit with
        | true =>
          have : (giveA L n i).2.1 = false := by
            unfold giveA
            rw [acc_out (by omega)]
          simp only [this, if_true, Bool.false_eq_true, if_false]
        | false =>
          have : (doA L ⟨1, cellP n 2 i, 0, 0, 0⟩).2.1 = false := by rw [acc_out (by omega)]
          simp only [this, if_true, Bool.false_eq_true, if_false]
      rw [e]
      exact rwake_neg H n cell i hit (by omega)

/-- The example's words, and its wake-up, behind so many steps. -/
def awL (j : Nat) : List Int := if j < 3 then [0, 0, 0, 0, 0, 0, 0, 0, 0, 0, 0, 0, 0, 1, 0, 0] else [0, 0, 0, 0, 0, 0, 0, 0, 0, 0, 0, 0, 0, 1, 0, 1]
def awK (j : Nat) : Wk := match j with | 0 => ⟨true, 0, 0, false⟩ | 1 => ⟨true, 0, 1, false⟩ | 2 => ⟨true, 0, 1, true⟩ | _ => ⟨false, 0, 0, false⟩
theorem aw_step (j : Nat) (h : j < 3) : ∃ x, wakeA (awL j) 2 (awK j) = (awK (j + 1), x, awL (j + 1)) := by
  match j, h with
  | 0, _ => exact ⟨_, rfl⟩
  | 1, _ => exact ⟨_, rfl⟩
  | 2, _ => exact ⟨_, rfl⟩

set_option maxHeartbeats 1600000 in
theorem awake08 (w : World) : Calls Try.prog 37 #[] w fun e w' => e = .returned (.bool true) ∧ Touch [] w w' := by
  go_enter Try.func37, Try.ntmps37
  go_wp2_with fail
  refine (first4 2 0 _ (by decide) (by decide)).mono ?_
  rintro e w1 h1
  obtain ⟨p, g, cap, rfl, H1⟩ := has_newwords (Has.start [] w) h1
  clear h1
  have hz : own4 0 ++ List.replicate ((8 + 4 * (2 : Int)).toNat - 2) 0 = [0, 0, 0, 0, 0, 0, 0, 0, 0, 0, 0, 0, 0, 0, 0, 0] := rfl
  rw [hz] at H1 ⊢
  clear hz
  obtain ⟨rfl, hc1, hc2, ha, _, _⟩ := H1.row.at_cell 13 0 (by decide) (by decide) rfl
  have hc1 : w1.cell? ⟨g, 13, none⟩ = some (.int .u32 0) := hc1
  have hc2 : w1.frozen? ⟨g, 13, none⟩ = false := hc2
  go_wp2_with fail
  refine (fromRow_has (H1.rowSet 13 (by decide) 1 (by decide)) rfl).mono ?_
  rintro e w2 ⟨m, a, rfl, H2⟩
  clear H1 hc1 hc2 ha
  go_wp2_with fail
  refine (begin_any 2 0 _).mono ?_
  rintro e w3 ⟨rfl, t3⟩
  have H3 := (H2.al1 (c0 := #[.int .i64 2]) (t0 := 38)).grow t3
  clear H2 t3
  simp only [beginA, if_true, Wk.cells]
  go_wp2_with fail
  have H4 := H3.al1 (c0 := (awK 0).cells) (t0 := 65)
  generalize w2.heap.size = bp at H4 ⊢
  generalize w3.heap.size = bw at H4 ⊢
  clear H3
  go_loopw [7] (fun n wr => ∃ j : Nat, j ≤ 3 ∧ n = .int .i64 j ∧ Has [] w wr (.mem m a (awL j) :: .blk bw (awK j).cells :: .blk bp #[.int .i64 2] :: .row (some ⟨g, 0, none⟩) g cap ([0, 0, 0, 0, 0, 0, 0, 0, 0, 0, 0, 0, 0, 0, 0, 0].set 13 1) :: [])) (fun n _ => 3 - (intOf n).toNat)
  case atStart => exact ⟨0, Nat.zero_le _, rfl, H4⟩
  case round =>
    obtain ⟨j, hj, rfl, HR⟩ := hrel
    clear H4
    obtain ⟨k0, k1, k2⟩ := HR.blk1.own
    obtain ⟨q0, q1, q2⟩ := HR.blk2.own
    by_cases hlt : j < 3
    · have hon : (awK j).on = true := by match j, hlt with | 0, _ => rfl | 1, _ => rfl | 2, _ => rfl
      obtain ⟨x, hx⟩ := aw_step j hlt
      have hw := fun W rs (H : Has [] w W (.mem m a (awL j) :: rs)) => wake_any H 2 (by unfold I64; decide) (awK j)
      rw [hx] at hw
      generalize awK j = kk at *
      generalize hk2 : awK (j + 1) = k2' at *
      obtain ⟨on, cell, i, hit⟩ := kk
      obtain ⟨on', cell', i', hit'⟩ := k2'
      obtain ⟨xk, xc, xx, xy, xo⟩ := x
      simp only [Wk.cells, Acc.cells] at *
      subst hon
      have HW := Lib.hid hw
      have HX := Lib.hid hk2
      clear hw hk2 hx
      have j9 : (j : Int) < 9 := by omega
      go_wp2_with fail
      refine (HW.out _ _ HR).mono ?_
      rintro e w5 ⟨rfl, H5⟩
      clear k0 k1 k2
      obtain ⟨k0, k1, k2⟩ := H5.blk1.own
      go_wp2_with fail
      exact ⟨⟨j + 1, by omega, by go_num, by rw [HX.out]; exact ((((H5.set1 0 _).set1 1 _).set1 2 _).set1 3 _)⟩, by simp [intOf]; omega⟩
    · obtain rfl : j = 3 := by omega
      simp only [awK, Wk.cells] at k1
      have hl1 : ldA (awL 3) 15 = 1 := rfl
      have hl2 : ldA (awL 3) 14 = 0 := rfl
      have hc1 := fun W rs (H : Has [] w W (.mem m a (awL 3) :: rs)) => load_has H 15
      have hc2 := fun W rs (H : Has [] w W (.mem m a (awL 3) :: rs)) => load_has H 14
      rw [hl1] at hc1
      rw [hl2] at hc2
      clear hl1 hl2
      have HC1 := Lib.hid hc1
      have HC2 := Lib.hid hc2
      clear hc1 hc2
      go_wp2_with fail
      refine (HC1.out _ _ HR).mono ?_
      rintro e w5 ⟨rfl, H5⟩
      go_wp2_with fail
      refine (HC2.out _ _ H5).mono ?_
      rintro e w6 ⟨rfl, H6⟩
      go_wp2_with fail
      go_ret
      exact ⟨by simp, H6.touch⟩

end Go.Proofs.Ytghiggaldkojpaa.Z
