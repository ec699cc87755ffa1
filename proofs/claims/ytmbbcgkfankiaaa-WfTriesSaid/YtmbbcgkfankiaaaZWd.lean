/- One word, and nothing besides: what accesses do to it. No lock in sight. -/
import Derived.Test.YtmbbcgkfankiaaaZAlone
set_option linter.unusedVariables false
set_option linter.unusedSimpArgs false
namespace Go.Proofs.Ytmbbcgkfankiaaa.Z
open Go.RowKit

/-- The word, and nothing besides. -/
def Wd (N : Nat) (x : Int) : List Int := x :: List.replicate N 0
theorem wd_len (N : Nat) (x : Int) : (Wd N x).length = N + 1 := by simp [Wd]
theorem wd_load (N : Nat) (x : Int) : doA (Wd N x) ⟨1, 0, 0, 0, 0⟩ = (⟨1, 0, 0, 0, x⟩, true, Wd N x) := by
  unfold doA
  rw [if_pos (by rw [wd_len]; simp)]
  simp [Wd]
theorem wd_add (N : Nat) (x y : Int) : doA (Wd N x) ⟨3, 0, y, 0, 0⟩ = (⟨3, 0, y, 0, x⟩, true, Wd N ((x + y) % 4294967296)) := by
  unfold doA
  rw [if_pos (by rw [wd_len]; simp)]
  simp [Wd]
theorem wd_cas (N : Nat) (x u v : Int) : doA (Wd N x) ⟨5, 0, u, v, 0⟩ = (⟨5, 0, u, v, x⟩, true, if x = u then Wd N v else Wd N x) := by
  unfold doA
  rw [if_pos (by rw [wd_len]; simp)]
  by_cases h : x = u
  · simp [Wd, h]
  · simp [Wd, h]
theorem wd_casB (N : Nat) (x u v : Int) : casB (Wd N x) 0 u v = (x == u) := by
  unfold casB
  rw [wd_cas]
  simp
theorem wd_nowatch (n : Int) (h1 : 1 ≤ n) (h2 : n ≤ 64) (x : Int) : NoWatch n 0 (Wd ((8 + 4 * n).toNat - 1) x) := by
  intro i h0 hi
  have hc : cellP n 2 i = 8 + 2 * n + i := by unfold cellP; rw [if_pos (by omega)]
  have hlt : 0 ≤ 8 + 2 * n + i ∧ 8 + 2 * n + i < ((Wd ((8 + 4 * n).toNat - 1) x).length : Int) := by rw [wd_len]; omega
  obtain ⟨j, hj⟩ : ∃ j : Nat, (8 + 2 * n + i).toNat = j + 1 := ⟨(8 + 2 * n + i).toNat - 1, by omega⟩
  have hg : (Wd ((8 + 4 * n).toNat - 1) x).getD (8 + 2 * n + i).toNat 0 = 0 := by
    rw [hj]
    show (List.replicate _ (0 : Int)).getD j 0 = 0
    rw [List.getD_eq_getElem?_getD, List.getElem?_replicate]
    split <;> rfl
  rw [hc]
  unfold doA
  rw [if_pos hlt]
  refine ⟨by simp, ?_⟩
  simp only [if_true]
  rw [hg]
  decide

/-- A step that ends an operation with true, and begins a wake-up: behind the wake-up the operation is over. -/
theorem alone_ends (g : Rn → Rn) (s0 s1 : Rn) (most : Nat) (hs : stepR g s0 = s1) (hr : s1.f.ret = 2) (hk : s1.f.wk = beginA s1.mode 0) (h1 : 1 ≤ s1.n) (hc : NoWatch s1.n 0 s1.L) (hm : s1.n.toNat + 1 ≤ most) :
    ∃ s, aloneA g most s0 = (2, s) ∧ s.L = s1.L := by
  obtain ⟨most, rfl⟩ : ∃ j, most = j + 1 := ⟨most - 1, by omega⟩
  have hgo : aloneA g (most + 1) s0 = if s1.over then (s1.f.ret, s1) else aloneA g most s1 := by rw [← hs]; rfl
  by_cases h2 : s1.mode = 2
  · have hk2 : s1.f.wk = ⟨true, 0, 0, false⟩ := by rw [hk]; unfold beginA; rw [if_pos h2]
    obtain ⟨s', _, _, k3, _, k5, _⟩ := alone_wakes g 0 s1.n.toNat s1 0 most hk2 (Int.le_refl _) (by omega) (by omega) hc (by omega)
    refine ⟨s', ?_, k3⟩
    rw [hgo, if_neg (by unfold Rn.over; rw [hk2]; simp), k5 (by rw [hr]; decide), hr]
  · have hk2 : s1.f.wk = Wk.zero := by rw [hk]; unfold beginA; rw [if_neg h2]
    refine ⟨s1, ?_, rfl⟩
    rw [hgo, if_pos (by unfold Rn.over; rw [hk2, hr]; rfl), hr]

end Go.Proofs.Ytmbbcgkfankiaaa.Z
