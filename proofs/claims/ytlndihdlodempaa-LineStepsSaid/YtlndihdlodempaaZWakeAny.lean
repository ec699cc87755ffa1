/- A step of the document's wake-up, whatever it is. -/
import Derived.Test.YtlndihdlodempaaZWakeRef
import Derived.Test.YtlndihdlodempaaZHas3
set_option linter.unusedVariables false
set_option linter.unusedSimpArgs false
namespace Go.Proofs.Ytlndihdlodempaa.Z
open Go.RowKit

theorem cellP_right {n row i : Int} (h : 0 ≤ cellP n row i) : 1 ≤ n ∧ n ≤ 64 ∧ 0 ≤ i ∧ i < n := by
  unfold cellP at h
  split at h
  · assumption
  · omega

/-- WHATEVER THE WAKE-UP: the document's step of it. -/
theorem rwake_any {S0 : List Nat} {w0 w : World} {p : Option Addr} {g cap : Nat} {L : List Int} {rs : List Res} (H : Has S0 w0 w (.row p g cap L :: rs)) (n : Int) (k : Wk) :
    Calls Try.prog 62 #[.slice p L.length cap, .int .i64 n, .agg k.cells] w
      fun e w' => e = .returned (.tuple #[.agg (wakeA L n k).1.cells, .agg (wakeA L n k).2.1.cells]) ∧ Has S0 w0 w' (.row p g cap (wakeA L n k).2.2 :: rs) := by
  obtain ⟨on, cell, i, hit⟩ := k
  cases on with
  | false => exact rwake_off H _ n cell i hit
  | true =>
    by_cases hc : 0 ≤ cellP n 2 i
    · have hR := cellP_right hc
      have hi : 0 ≤ i ∧ i < 64 := ⟨hR.2.2.1, by omega⟩
      unfold wakeA
      cases hit with
      | true =>
        cases hb : (giveA L n i).2.1 with
        | true =>
          simp only [hb, if_true]
          unfold nextA
          by_cases he : n ≤ i + 1
          · simp only [he, if_true]; exact rwake_hit_end H n cell i hc hi hb he
          · simp only [he, if_false]; exact rwake_hit_next H n cell i hc hi hb he
        | false => simp only [hb, if_true, Bool.false_eq_true, if_false]; exact rwake_hit_no H n cell i hc hb
      | false =>
        cases hb : (doA L ⟨1, cellP n 2 i, 0, 0, 0⟩).2.1 with
        | true =>
          have hL : (doA L ⟨1, cellP n 2 i, 0, 0, 0⟩).2.2 = L := doA_load _ _ _ _ _
          by_cases hq : (doA L ⟨1, cellP n 2 i, 0, 0, 0⟩).1.old = (cell + 1) % 4294967296
          · have := rwake_look_is H n cell i hc hb hq
            rw [hL] at this
            simp only [hb, hq, if_true, Bool.false_eq_true, if_false]; exact this
          · simp only [hb, hq, if_true, Bool.false_eq_true, if_false]
            unfold nextA
            by_cases he : n ≤ i + 1
            · have := rwake_look_end H n cell i hc hi hb hq he
              rw [hL] at this
              simp only [he, if_true]; exact this
            · have := rwake_look_next H n cell i hc hi hb hq he
              rw [hL] at this
              simp only [he, if_false]; exact this
        | false => simp only [hb, if_true, Bool.false_eq_true, if_false]; exact rwake_look_no H n cell i hc hb
    · have h3 : cellP n 3 i < 0 := by
        rcases Int.lt_or_le (cellP n 3 i) 0 with h | h
        · exact h
        · have := cellP_right h
          exfalso
          apply hc
          unfold cellP
          rw [if_pos this]
          omega
      have e : wakeA L n ⟨true, cell, i, hit⟩ = (Wk.zero, Acc.zero, L) := by
        unfold wakeA
        cases hit with
        | true =>
          have : (giveA L n i).2.1 = false := by
            unfold giveA
            rw [acc_out (by omega)]
          simp only [this, if_true, Bool.false_eq_true, if_false]
        | false =>
          have : (doA L ⟨1, cellP n 2 i, 0, 0, 0⟩).2.1 = false := by rw [acc_out (by omega)]
          simp only [this, if_true, Bool.false_eq_true, if_false]
      rw [e]
      exact rwake_neg H n cell i hit (by omega)

end Go.Proofs.Ytlndihdlodempaa.Z
