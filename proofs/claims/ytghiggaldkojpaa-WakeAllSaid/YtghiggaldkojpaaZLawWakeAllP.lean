/- The statement WakeAll: its plain law. No program is in sight. -/
import Derived.Test.YtghiggaldkojpaaZWake
set_option linter.unusedVariables false
set_option linter.unusedSimpArgs false
namespace Go.Proofs.Ytghiggaldkojpaa.Z
open Go.RowKit

/-- The words with i watches laid. -/
def wa1 (n : Nat) (ws : List Int) (i : Nat) : List Int := List.replicate (8 + 2 * n) 0 ++ ((ws.take i ++ List.replicate (n - i) 0) ++ List.replicate n 0)
/-- The words, of the first j tasks those that watch with their permits. -/
def waL (n : Nat) (ws : List Int) (c : Int) (j : Nat) : List Int := List.replicate (8 + 2 * n) 0 ++ (ws ++ (List.range n).map (fun i => if i < j ∧ ws.getD i 0 = c + 1 then (1 : Int) else 0))

theorem wa1_zero (n : Nat) (ws : List Int) : wa1 n ws 0 = List.replicate (8 + 4 * n) 0 := by
  unfold wa1
  simp only [List.take_zero, List.nil_append, Nat.sub_zero, List.replicate_append_replicate]
  congr 1
  omega

theorem wa1_set (n : Nat) (ws : List Int) (i : Nat) (hi : i < n) (hl : ws.length = n) : (wa1 n ws i).set (8 + 2 * n + i) (ws.getD i 0) = wa1 n ws (i + 1) := by
  unfold wa1
  rw [List.set_append_right _ _ (by simp)]
  congr 1
  have e : 8 + 2 * n + i - (List.replicate (8 + 2 * n) (0 : Int)).length = i := by simp
  rw [e, List.set_append_left _ _ (by simp; omega)]
  congr 1
  rw [List.set_append_right _ _ (by simp; omega)]
  have e2 : i - (ws.take i).length = 0 := by simp; omega
  rw [e2]
  obtain ⟨m, hm⟩ : ∃ m, n - i = m + 1 := ⟨n - i - 1, by omega⟩
  have hm2 : n - (i + 1) = m := by omega
  have ht := List.take_succ_eq_append_getElem (l := ws) (i := i) (by omega)
  have : ws.getD i 0 = ws[i] := by simp [List.getD, hl, hi]
  rw [hm, hm2, List.replicate_succ, List.set_cons_zero, this, ht, List.append_assoc]
  rfl

theorem wa1_full (n : Nat) (ws : List Int) (c : Int) (hl : ws.length = n) : wa1 n ws n = waL n ws c 0 := by
  unfold wa1 waL
  congr 1
  have e : (List.range n).map (fun i => if i < 0 ∧ ws.getD i 0 = c + 1 then (1 : Int) else 0) = List.replicate n 0 := by
    rw [List.eq_replicate_iff]
    refine ⟨by simp, fun b hb => ?_⟩
    obtain ⟨i, _, rfl⟩ := List.mem_map.1 hb
    simp
  rw [e, ← hl, List.take_length, Nat.sub_self]
  simp

theorem waL_length (n : Nat) (ws : List Int) (c : Int) (j : Nat) (hl : ws.length = n) : (waL n ws c j).length = 8 + 4 * n := by
  unfold waL
  simp [hl]
  omega

theorem waL_watch (n : Nat) (ws : List Int) (c : Int) (j i : Nat) (hl : ws.length = n) (hi : i < n) : (waL n ws c j).getD (8 + 2 * n + i) 0 = ws.getD i 0 := by
  unfold waL
  simp only [List.getD]
  rw [List.getElem?_append_right (by simp), List.getElem?_append_left (by simp; omega)]
  congr 2
  simp

theorem waL_permit (n : Nat) (ws : List Int) (c : Int) (j : Nat) (hl : ws.length = n) (hj : j < n) (hw : ws.getD j 0 = c + 1) : (waL n ws c j).set (8 + 3 * n + j) 1 = waL n ws c (j + 1) := by
  unfold waL
  rw [List.set_append_right _ _ (by simp; omega)]
  congr 1
  have e : 8 + 3 * n + j - (List.replicate (8 + 2 * n) (0 : Int)).length = n + j := by simp; omega
  rw [e, List.set_append_right _ _ (by omega)]
  congr 1
  rw [hl, Nat.add_sub_cancel_left]
  refine List.ext_getElem (by simp) fun i h1 h2 => ?_
  simp only [List.length_set, List.length_map, List.length_range] at h1
  rw [List.getElem_set]
  split
  · rename_i h
    subst h
    have hc : ws.getD j 0 = c + 1 := hw
    simp only [List.getElem_map, List.getElem_range, hc, and_true]
    rw [if_pos (by omega)]
  · rename_i h
    simp only [List.getElem_map, List.getElem_range]
    have : (i < j ∧ ws.getD i 0 = c + 1) ↔ (i < j + 1 ∧ ws.getD i 0 = c + 1) := by
      constructor
      · rintro ⟨a, b⟩; exact ⟨by omega, b⟩
      · rintro ⟨a, b⟩; exact ⟨by omega, b⟩
    simp only [this]

theorem waL_skip (n : Nat) (ws : List Int) (c : Int) (j : Nat) (hw : ws.getD j 0 ≠ c + 1) : waL n ws c (j + 1) = waL n ws c j := by
  unfold waL
  congr 2
  refine List.map_congr_left fun i _ => ?_
  have : (i < j + 1 ∧ ws.getD i 0 = c + 1) ↔ (i < j ∧ ws.getD i 0 = c + 1) := by
    constructor
    · rintro ⟨a, b⟩
      refine ⟨?_, b⟩
      by_cases h : i = j
      · subst h; exact absurd b hw
      · omega
    · rintro ⟨a, b⟩; exact ⟨by omega, b⟩
  simp only [this]

/-- How far the wake-up is, behind s steps. -/
def WAState (n : Nat) (ws : List Int) (c : Int) (j s : Nat) (k : Wk) : Prop :=
  (k = ⟨true, c, j, false⟩ ∧ j < n ∧ j ≤ s ∧ s ≤ 2 * j) ∨ (k = ⟨true, c, j, true⟩ ∧ j < n ∧ ws.getD j 0 = c + 1 ∧ j + 1 ≤ s ∧ s ≤ 2 * j + 1) ∨ (k = Wk.zero ∧ j = n ∧ n ≤ s ∧ s ≤ 2 * n)

theorem cell_of (n : Nat) (row : Int) (j : Nat) (hn : 1 ≤ n ∧ n ≤ 64) (hj : j < n) : cellP n row j = 8 + row * n + j := if_pos (by omega)

theorem wa_step (n : Nat) (ws : List Int) (c : Int) (j s : Nat) (k : Wk) (hn : 1 ≤ n ∧ n ≤ 64) (hl : ws.length = n) (hc : 0 ≤ c ∧ c < 256) (h : WAState n ws c j s k) (hon : k.on = true) :
    ∃ j', WAState n ws c j' (s + 1) (wakeA (waL n ws c j) n k).1 ∧ (wakeA (waL n ws c j) n k).2.2 = waL n ws c j' ∧ (wakeA (waL n ws c j) n k).2.1.kind ≠ 0 ∧ s < 2 * n := by
  have hlen := waL_length n ws c j hl
  rcases h with ⟨rfl, hj, h1, h2⟩ | ⟨rfl, hj, hw, h1, h2⟩ | ⟨rfl, _⟩
  · have hcell := cell_of n 2 j hn hj
    have hd : doA (waL n ws c j) ⟨1, cellP n 2 j, 0, 0, 0⟩ = (⟨1, cellP n 2 j, 0, 0, ws.getD j 0⟩, true, waL n ws c j) := by
      rw [acc_load (by rw [hlen, hcell]; omega), hcell]
      have : (8 + 2 * (n : Int) + j).toNat = 8 + 2 * n + j := by omega
      rw [this, waL_watch n ws c j j hl hj]
    unfold wakeA
    simp only [hd, if_true, Bool.false_eq_true, if_false]
    by_cases hw : ws.getD j 0 = c + 1
    · rw [if_pos (by rw [hw]; omega)]
      exact ⟨j, Or.inr (Or.inl ⟨rfl, hj, hw, by omega, by omega⟩), rfl, by decide, by omega⟩
    · rw [if_neg (by omega)]
      refine ⟨j + 1, ?_, (waL_skip n ws c j hw).symm, by simp, by omega⟩
      unfold nextA
      by_cases he : (n : Int) ≤ j + 1
      · rw [if_pos he]
        exact Or.inr (Or.inr ⟨rfl, by omega, by omega, by omega⟩)
      · rw [if_neg he]
        exact Or.inl ⟨by simp, by omega, by omega, by omega⟩
  · have hcell := cell_of n 3 j hn hj
    have hd : giveA (waL n ws c j) n j = (⟨2, cellP n 3 j, 1, 0, (waL n ws c j).getD (cellP n 3 j).toNat 0⟩, true, waL n ws c (j + 1)) := by
      unfold giveA
      rw [acc_store (by rw [hlen, hcell]; omega)]
      have : (cellP n 3 j).toNat = 8 + 3 * n + j := by rw [hcell]; omega
      rw [this, waL_permit n ws c j hl hj hw]
    unfold wakeA
    simp only [hd, if_true]
    refine ⟨j + 1, ?_, rfl, by simp, by omega⟩
    unfold nextA
    by_cases he : (n : Int) ≤ j + 1
    · simp only [he, if_true]
      exact Or.inr (Or.inr ⟨rfl, by omega, by omega, by omega⟩)
    · simp only [he, if_false]
      exact Or.inl ⟨by simp, by omega, by omega, by omega⟩
  · cases hon

end Go.Proofs.Ytghiggaldkojpaa.Z
