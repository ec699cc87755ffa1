/- Accesses on words, kind by kind. No program is in sight. -/
import Derived.Test.YtlndihdlodempaaZDo
set_option linter.unusedVariables false
set_option linter.unusedSimpArgs false
namespace Go.Proofs.Ytlndihdlodempaa.Z

theorem acc_out {L : List Int} {k c x y o : Int} (h : ¬ (0 ≤ c ∧ c < L.length)) : doA L ⟨k, c, x, y, o⟩ = (Acc.zero, false, L) := if_neg h
theorem acc_load {L : List Int} {c x y o : Int} (h : 0 ≤ c ∧ c < L.length) : doA L ⟨1, c, x, y, o⟩ = (⟨1, c, x, y, L.getD c.toNat 0⟩, true, L) := by
  unfold doA; rw [if_pos h]; rfl
theorem acc_store {L : List Int} {c x y o : Int} (h : 0 ≤ c ∧ c < L.length) : doA L ⟨2, c, x, y, o⟩ = (⟨2, c, x, y, L.getD c.toNat 0⟩, true, L.set c.toNat x) := by
  unfold doA; rw [if_pos h]; rfl
theorem acc_add {L : List Int} {c x y o : Int} (h : 0 ≤ c ∧ c < L.length) : doA L ⟨3, c, x, y, o⟩ = (⟨3, c, x, y, L.getD c.toNat 0⟩, true, L.set c.toNat ((L.getD c.toNat 0 + x) % 4294967296)) := by
  unfold doA; rw [if_pos h]; rfl
theorem acc_swap {L : List Int} {c x y o : Int} (h : 0 ≤ c ∧ c < L.length) : doA L ⟨4, c, x, y, o⟩ = (⟨4, c, x, y, L.getD c.toNat 0⟩, true, L.set c.toNat x) := by
  unfold doA; rw [if_pos h]; rfl
theorem acc_cas {L : List Int} {c x y o : Int} (h : 0 ≤ c ∧ c < L.length) : doA L ⟨5, c, x, y, o⟩ = (⟨5, c, x, y, L.getD c.toNat 0⟩, true, if L.getD c.toNat 0 = x then L.set c.toNat y else L) := by
  unfold doA; rw [if_pos h]; rfl

end Go.Proofs.Ytlndihdlodempaa.Z
