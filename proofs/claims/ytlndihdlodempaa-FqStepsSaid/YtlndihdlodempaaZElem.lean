/- Elements of slices of structs, by their cells. No program is in sight. -/
import Derived.Test.YtlndihdlodempaaZOpen
import Derived.Test.YtlndihdlodempaaZOwn
set_option linter.unusedVariables false
set_option linter.unusedSimpArgs false
namespace Go.Proofs.Ytlndihdlodempaa.Z
open Go.RowKit

theorem elem_head {α : Type} {dec : α → List Value} {size : Nat} {w : World} {B : Option Addr} {m i : Nat} {l : List α} (hs : 0 < size) (hlen : ∀ a, (dec a).length = size) (h : Rd w size B m (l.flatMap dec)) (hi : i < m) :
    ∃ b off x, B = some ⟨b, off, none⟩ ∧ b < w.heap.size ∧ l[i]? = some x ∧ x ∈ l := by
  obtain ⟨b, off, hB, hb, hc⟩ := h.lit (by omega) hs
  have hl : l.length = m := by
    have := h.1
    rw [flatMap_length hlen] at this
    exact Nat.eq_of_mul_eq_mul_right hs this
  exact ⟨b, off, l[i], hB, hb, List.getElem?_eq_getElem (by omega), List.getElem_mem _⟩

theorem elem_cells {α : Type} {dec : α → List Value} {size : Nat} {w : World} {b off m i : Nat} {x : α} {l : List α} (hs : 0 < size) (hlen : ∀ a, (dec a).length = size) (h : Rd w size (some ⟨b, off, none⟩) m (l.flatMap dec)) (hi : i < m) (hx : l[i]? = some x) :
    b < w.heap.size ∧ ∀ j u, (dec x)[j]? = some u → w.cell? ⟨b, off + i * size + j, none⟩ = some u := by
  obtain ⟨b', off', hB, hb, hc⟩ := h.lit (by omega) hs
  simp only [Option.some.injEq, Addr.mk.injEq] at hB
  obtain ⟨rfl, rfl, _⟩ := hB
  obtain ⟨hil, rfl⟩ := List.getElem?_eq_some_iff.1 hx
  refine ⟨hb, fun j u hu => ?_⟩
  have hj : j < size := by have := (List.getElem?_eq_some_iff.1 hu).1; rwa [hlen] at this
  rw [Nat.add_assoc]
  exact hc _ _ ((flatMap_at hs hlen l i j hil hj).trans hu)

end Go.Proofs.Ytlndihdlodempaa.Z
