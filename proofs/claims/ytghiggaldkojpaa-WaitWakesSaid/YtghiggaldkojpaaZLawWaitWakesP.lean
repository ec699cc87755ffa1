/- The statement WaitWakes: its plain law. -/
import Derived.Test.YtghiggaldkojpaaZUntil
set_option linter.unusedVariables false
set_option linter.unusedSimpArgs false
namespace Go.Proofs.Ytghiggaldkojpaa.Z
open Go.RowKit

/-- The words of one task: the cell waited for, the watch, the permit. -/
def wwL (v wt pm : Int) : List Int := [v, 0, 0, 0, 0, 0, 0, 0, 0, 0, wt, pm]

/-- What holds between the deeds. -/
def WWInv (p : Int → Bool) (v wt pm st : Int) : Prop :=
  (0 ≤ v ∧ v < 4294967296) ∧ (pm = 0 ∨ pm = 1) ∧ ((st = 0 ∨ st = 1) ∧ wt = 0 ∨ (st = 2 ∨ st = 3 ∨ st = 4) ∧ wt = 1) ∧ (st = 3 → p v = true → pm = 1)

theorem ww_cell2 : cellP 1 2 0 = 10 := by decide
theorem ww_cell3 : cellP 1 3 0 = 11 := by decide

theorem ww_stuck (v wt pm st : Int) (h : pm = 0 ∨ pm = 1) : thereA (wwL v wt pm) 1 0 = decide (pm = 1) := by
  unfold thereA
  rw [ww_cell3]
  unfold ldA
  rw [if_pos (by simp [wwL])]
  rcases h with rfl | rfl <;> rfl

/-- A step of waiting. -/
theorem ww_step (p : Int → Bool) (v wt pm st : Int) (h : WWInv p v wt pm st) :
    ∃ (wt' pm' : Int) (acc : Acc) (seen : Bool), (st = 0 ∧ p v = true ∧ waitA (wwL v wt pm) 1 2 0 st 0 p = ⟨0, acc, seen, true, wwL v 0 pm'⟩) ∨
      (st = 4 ∧ waitA (wwL v wt pm) 1 2 0 st 0 p = ⟨0, acc, seen, true, wwL v 0 pm'⟩) ∨
      (∃ st', waitA (wwL v wt pm) 1 2 0 st 0 p = ⟨st', acc, seen, false, wwL v wt' pm'⟩ ∧ WWInv p v wt' pm' st' ∧
        (st = 0 ∧ st' = 1 ∧ p v = false ∨ st = 1 ∧ st' = 2 ∨ st = 2 ∧ st' = 4 ∨ st = 2 ∧ st' = 3 ∧ p v = false ∨ st = 3 ∧ st' = 2 ∨ st = 3 ∧ st' = 3 ∧ pm = 0)) := by
  obtain ⟨hv, hpm, hst, h3⟩ := h
  rcases hst with ⟨rfl | rfl, rfl⟩ | ⟨rfl | rfl | rfl, rfl⟩
  · rw [waitA0 rfl]
    have hd : doA (wwL v 0 pm) ⟨1, 0, 0, 0, 0⟩ = (⟨1, 0, 0, 0, v⟩, true, wwL v 0 pm) := acc_load (by simp [wwL])
    rw [hd]
    cases hp : p v with
    | true => exact ⟨0, pm, ⟨1, 0, 0, 0, v⟩, true, Or.inl ⟨rfl, rfl, by simp only [hp, if_true]⟩⟩
    | false => exact ⟨0, pm, ⟨1, 0, 0, 0, v⟩, false, Or.inr (Or.inr ⟨1, by simp only [hp, if_true, Bool.false_eq_true, if_false], ⟨hv, hpm, Or.inl ⟨Or.inr rfl, rfl⟩, by intro h; cases h⟩, Or.inl ⟨rfl, rfl, rfl⟩⟩)⟩
  · rw [waitA1 rfl, ww_cell2]
    have hd : doA (wwL v 0 pm) ⟨2, 10, (0 + 1) % 4294967296, 0, 0⟩ = (⟨2, 10, 1, 0, 0⟩, true, wwL v 1 pm) := acc_store (by simp [wwL])
    rw [hd]
    exact ⟨1, pm, _, _, Or.inr (Or.inr ⟨2, rfl, ⟨hv, hpm, Or.inr ⟨Or.inl rfl, rfl⟩, by intro h; cases h⟩, Or.inr (Or.inl ⟨rfl, rfl⟩)⟩)⟩
  · rw [waitA2 rfl]
    have hd : doA (wwL v 1 pm) ⟨1, 0, 0, 0, 0⟩ = (⟨1, 0, 0, 0, v⟩, true, wwL v 1 pm) := acc_load (by simp [wwL])
    rw [hd]
    cases hp : p v with
    | true => exact ⟨1, pm, ⟨1, 0, 0, 0, v⟩, true, Or.inr (Or.inr ⟨4, by simp only [hp, if_true], ⟨hv, hpm, Or.inr ⟨Or.inr (Or.inr rfl), rfl⟩, by intro h; cases h⟩, Or.inr (Or.inr (Or.inl ⟨rfl, rfl⟩))⟩)⟩
    | false => exact ⟨1, pm, ⟨1, 0, 0, 0, v⟩, false, Or.inr (Or.inr ⟨3, by simp only [hp, Bool.false_eq_true, if_false], ⟨hv, hpm, Or.inr ⟨Or.inr (Or.inl rfl), rfl⟩, by intro _ h; rw [hp] at h; cases h⟩, Or.inr (Or.inr (Or.inr (Or.inl ⟨rfl, rfl, rfl⟩)))⟩)⟩
  · rw [waitA3 rfl]
    unfold takeA
    rw [ww_stuck v 1 pm 3 hpm, ww_cell3]
    rcases hpm with rfl | rfl
    · rw [show decide ((0 : Int) = 1) = false from rfl, if_neg Bool.false_ne_true]
      exact ⟨1, 0, _, _, Or.inr (Or.inr ⟨3, rfl, ⟨hv, Or.inl rfl, Or.inr ⟨Or.inr (Or.inl rfl), rfl⟩, h3⟩, Or.inr (Or.inr (Or.inr (Or.inr (Or.inr ⟨rfl, rfl, rfl⟩))))⟩)⟩
    · have hd : doA (wwL v 1 1) ⟨4, 11, 0, 0, 0⟩ = (⟨4, 11, 0, 0, 1⟩, true, wwL v 1 0) := acc_swap (by simp [wwL])
      rw [show decide ((1 : Int) = 1) = true from rfl, if_pos rfl, hd]
      exact ⟨1, 0, _, _, Or.inr (Or.inr ⟨2, rfl, ⟨hv, Or.inl rfl, Or.inr ⟨Or.inl rfl, rfl⟩, by intro h; cases h⟩, Or.inr (Or.inr (Or.inr (Or.inr (Or.inl ⟨rfl, rfl⟩))))⟩)⟩
  · rw [waitA4 rfl, ww_cell2]
    have hd : doA (wwL v 1 pm) ⟨2, 10, 0, 0, 0⟩ = (⟨2, 10, 0, 0, 1⟩, true, wwL v 0 pm) := acc_store (by simp [wwL])
    rw [hd]
    exact ⟨0, pm, _, _, Or.inr (Or.inl ⟨rfl, rfl⟩)⟩

theorem ww_give (v wt pm : Int) (h : pm = 0 ∨ pm = 1) : (giveA (wwL v wt pm) 1 0).2.2 = wwL v wt 1 := by
  unfold giveA
  rw [ww_cell3, acc_store (by simp [wwL])]
  rfl

/-- A permit is given. -/
theorem ww_given {p : Int → Bool} {v wt pm st : Int} (h : WWInv p v wt pm st) : WWInv p v wt 1 st := ⟨h.1, Or.inr rfl, h.2.2.1, fun _ _ => rfl⟩

/-- A word is stored while nobody watches. -/
theorem ww_stored {p : Int → Bool} {v wt pm st x : Int} (h : WWInv p v wt pm st) (hx : 0 ≤ x ∧ x < 4294967296) (hw : wt ≠ 1) : WWInv p x wt pm st :=
  ⟨hx, h.2.1, h.2.2.1, fun h3 => by rcases h.2.2.1 with ⟨h4, _⟩ | ⟨_, h4⟩ <;> omega⟩

end Go.Proofs.Ytghiggaldkojpaa.Z
