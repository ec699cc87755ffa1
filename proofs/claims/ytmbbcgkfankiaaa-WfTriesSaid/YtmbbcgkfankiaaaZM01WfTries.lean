/- 6 texts of this claim, joined: what each shows stands at its own head. -/
import Derived.Test.YtmbbcgkfankiaaaZWfFine
import Derived.Test.YtmbbcgkfankiaaaZWfSame
import Derived.Test.YtmbbcgkfankiaaaZWd
import Derived.Test.YtmbbcgkfankiaaaZM00WfTries
import Derived.Test.YtmbbcgkfankiaaaZAlone
import Derived.Test.YtmbbcgkfankiaaaZHas3
import Derived.Test.YtmbbcgkfankiaaaZRead
import Derived.ProofKit
import Derived.OpenShut
import Derived.ChangeOld
import Derived.SizedLaws
import Derived.Deep.Slices
/- The lock in which writers go first: its operations, each whole. No program is in sight. -/
set_option linter.unusedVariables false
set_option linter.unusedSimpArgs false
namespace Go.Proofs.Ytmbbcgkfankiaaa.Z
open Go.RowKit

theorem wfv_add1 {v : Int} (h : 0 ≤ v ∧ v < 4294967296) (hr : wfR v < 255) : (0 ≤ (v + 1) % 4294967296 ∧ (v + 1) % 4294967296 < 4294967296) ∧ wfR ((v + 1) % 4294967296) = wfR v + 1 ∧ wfT ((v + 1) % 4294967296) = wfT v ∧ wfG ((v + 1) % 4294967296) = wfG v := by
  unfold wfR wfT wfG at *; omega
theorem wfv_sub1 {v : Int} (h : 0 ≤ v ∧ v < 4294967296) (hr : 1 ≤ wfR v) : (0 ≤ (v + 4294967295) % 4294967296 ∧ (v + 4294967295) % 4294967296 < 4294967296) ∧ wfR ((v + 4294967295) % 4294967296) = wfR v - 1 ∧ wfT ((v + 4294967295) % 4294967296) = wfT v ∧ wfG ((v + 4294967295) % 4294967296) = wfG v := by
  unfold wfR wfT wfG at *; omega
theorem wfv_ticket {v : Int} (h : 0 ≤ v ∧ v < 4294967296) : (0 ≤ (v + 65536) % 4294967296 ∧ (v + 65536) % 4294967296 < 4294967296) ∧ wfR ((v + 65536) % 4294967296) = wfR v ∧ wfT ((v + 65536) % 4294967296) = wfT v ∧ wfG ((v + 65536) % 4294967296) = (wfG v + 1) % 256 := by
  unfold wfR wfT wfG at *; omega
theorem wfv_up {v : Int} (h : 0 ≤ v ∧ v < 4294967296) (hr : 1 ≤ wfR v) : (0 ≤ (v + 65535) % 4294967296 ∧ (v + 65535) % 4294967296 < 4294967296) ∧ wfR ((v + 65535) % 4294967296) = wfR v - 1 ∧ wfT ((v + 65535) % 4294967296) = wfT v ∧ wfG ((v + 65535) % 4294967296) = (wfG v + 1) % 256 := by
  unfold wfR wfT wfG at *; omega
theorem wfv_next {v : Int} (h : 0 ≤ v ∧ v < 4294967296) : (0 ≤ (v + bump8 v) % 4294967296 ∧ (v + bump8 v) % 4294967296 < 4294967296) ∧ wfR ((v + bump8 v) % 4294967296) = wfR v ∧ wfT ((v + bump8 v) % 4294967296) = (wfT v + 1) % 256 ∧ wfG ((v + bump8 v) % 4294967296) = wfG v := by
  have e : (v + bump8 v) % 4294967296 = v - v / 256 % 256 * 256 + (v / 256 % 256 + 1) % 256 * 256 := by unfold bump8; omega
  rw [e]
  unfold wfR wfT wfG at *
  refine ⟨⟨by omega, by omega⟩, by omega, by omega, by omega⟩
theorem wfv_next1 {v : Int} (h : 0 ≤ v ∧ v < 4294967296) (hr : wfR v = 0) : (0 ≤ (v + (bump8 v + 1) % 4294967296) % 4294967296 ∧ (v + (bump8 v + 1) % 4294967296) % 4294967296 < 4294967296) ∧ wfR ((v + (bump8 v + 1) % 4294967296) % 4294967296) = 1 ∧ wfT ((v + (bump8 v + 1) % 4294967296) % 4294967296) = (wfT v + 1) % 256 ∧ wfG ((v + (bump8 v + 1) % 4294967296) % 4294967296) = wfG v := by
  have h1 := wfv_next h
  have e : (v + (bump8 v + 1) % 4294967296) % 4294967296 = ((v + bump8 v) % 4294967296 + 1) % 4294967296 := by omega
  rw [e]
  obtain ⟨h2, h3, h4, h5⟩ := h1
  have := wfv_add1 h2 (by omega)
  rw [h3, h4, h5] at this
  refine ⟨this.1, by omega, this.2.2.1, this.2.2.2⟩

/-- So many read, no writer has a ticket. -/
def WfReads (N : Nat) (j : Nat) (L : List Int) : Prop := ∃ v : Int, L = Wd N v ∧ (0 ≤ v ∧ v < 4294967296) ∧ wfR v = j ∧ wfT v = wfG v
/-- One writes. -/
def WfWrites (N : Nat) (L : List Int) : Prop := ∃ v : Int, L = Wd N v ∧ (0 ≤ v ∧ v < 4294967296) ∧ wfR v = 0 ∧ (wfT v + 1) % 256 = wfG v

theorem wf_not_calm {v : Int} (h : (wfT v + 1) % 256 = wfG v) : wfCalm v = false := by
  have : ¬ wfT v = wfG v := by unfold wfT at *; omega
  simpa [wfCalm] using this
theorem wf_is_calm {v : Int} (h : wfT v = wfG v) : wfCalm v = true := by simpa [wfCalm] using h

theorem wf_ops (k : Nat) (d : Int) (h1 : 1 ≤ k) (h2 : k ≤ 64) : Ops wfA k d (WfReads ((8 + 4 * (k : Int)).toNat - 1)) (WfWrites ((8 + 4 * (k : Int)).toNat - 1)) := by
  have hnw : ∀ x, NoWatch k 0 (Wd ((8 + 4 * (k : Int)).toNat - 1) x) := fun x => wd_nowatch k (by omega) (by omega) x
  generalize (8 + 4 * (k : Int)).toNat - 1 = N at hnw
  refine ⟨wf_step_same, ?_, ?_, ?_, ?_, ?_, ?_, ?_, ?_, ?_, ?_⟩
  · rintro i j op hi hj hop L ⟨v, rfl, hv, hr, ht⟩
    have hc := wf_is_calm ht
    obtain ⟨a1, a2, a3, a4⟩ := wfv_add1 hv (by omega)
    rcases hop with rfl | rfl
    · have k1 : AtT k d i (wfA (RnT k d i 1 0 0 0 (Wd N v))) 1 1 v 0 (Wd N v) := by simp [AtT, RnT, wfA, wf10, wf11, Rn.fresh, Rn.did, Rn.setA, Rn.note, Rn.goto, Rn.fin, Rn.wake, Rn.waited, Rn.wends, Rn.noted, Rn.wchosen, Rn.wswapped, wfCalmly, wd_load, wd_cas, wd_casB, wd_add, Wk.zero, hc]
      refine ⟨2, _, by omega, (startT_at _ _ _ _ _).go k1 (by decide) (k1.fin ?_ ?_), ?_, ?_, ?_⟩
      · simp [AtT, RnT, wfA, wf10, wf11, Rn.fresh, Rn.did, Rn.setA, Rn.note, Rn.goto, Rn.fin, Rn.wake, Rn.waited, Rn.wends, Rn.noted, Rn.wchosen, Rn.wswapped, wfCalmly, wd_load, wd_cas, wd_casB, wd_add, Wk.zero, hc]
      · simp [AtT, RnT, wfA, wf10, wf11, Rn.fresh, Rn.did, Rn.setA, Rn.note, Rn.goto, Rn.fin, Rn.wake, Rn.waited, Rn.wends, Rn.noted, Rn.wchosen, Rn.wswapped, wfCalmly, wd_load, wd_cas, wd_casB, wd_add, Wk.zero, hc]
      · simp [AtT, RnT, wfA, wf10, wf11, Rn.fresh, Rn.did, Rn.setA, Rn.note, Rn.goto, Rn.fin, Rn.wake, Rn.waited, Rn.wends, Rn.noted, Rn.wchosen, Rn.wswapped, wfCalmly, wd_load, wd_cas, wd_casB, wd_add, Wk.zero, hc]
      · simp [AtT, RnT, wfA, wf10, wf11, Rn.fresh, Rn.did, Rn.setA, Rn.note, Rn.goto, Rn.fin, Rn.wake, Rn.waited, Rn.wends, Rn.noted, Rn.wchosen, Rn.wswapped, wfCalmly, wd_load, wd_cas, wd_casB, wd_add, Wk.zero, hc]
      · refine ⟨_, ?_, a1, by omega, by omega⟩
        simp [AtT, RnT, wfA, wf10, wf11, Rn.fresh, Rn.did, Rn.setA, Rn.note, Rn.goto, Rn.fin, Rn.wake, Rn.waited, Rn.wends, Rn.noted, Rn.wchosen, Rn.wswapped, wfCalmly, wd_load, wd_cas, wd_casB, wd_add, Wk.zero, hc]
    · have k1 : AtT k d i (wfA (RnT k d i 5 0 0 0 (Wd N v))) 5 1 v 0 (Wd N v) := by simp [AtT, RnT, wfA, wf50, wf51, Rn.fresh, Rn.did, Rn.setA, Rn.note, Rn.goto, Rn.fin, Rn.wake, Rn.waited, Rn.wends, Rn.noted, Rn.wchosen, Rn.wswapped, wfCalmly, wd_load, wd_cas, wd_casB, wd_add, Wk.zero, hc]
      refine ⟨2, _, by omega, (startT_at _ _ _ _ _).go k1 (by decide) (k1.fin ?_ ?_), ?_, ?_, ?_⟩
      · simp [AtT, RnT, wfA, wf50, wf51, Rn.fresh, Rn.did, Rn.setA, Rn.note, Rn.goto, Rn.fin, Rn.wake, Rn.waited, Rn.wends, Rn.noted, Rn.wchosen, Rn.wswapped, wfCalmly, wd_load, wd_cas, wd_casB, wd_add, Wk.zero, hc]
      · simp [AtT, RnT, wfA, wf50, wf51, Rn.fresh, Rn.did, Rn.setA, Rn.note, Rn.goto, Rn.fin, Rn.wake, Rn.waited, Rn.wends, Rn.noted, Rn.wchosen, Rn.wswapped, wfCalmly, wd_load, wd_cas, wd_casB, wd_add, Wk.zero, hc]
      · simp [AtT, RnT, wfA, wf50, wf51, Rn.fresh, Rn.did, Rn.setA, Rn.note, Rn.goto, Rn.fin, Rn.wake, Rn.waited, Rn.wends, Rn.noted, Rn.wchosen, Rn.wswapped, wfCalmly, wd_load, wd_cas, wd_casB, wd_add, Wk.zero, hc]
      · simp [AtT, RnT, wfA, wf50, wf51, Rn.fresh, Rn.did, Rn.setA, Rn.note, Rn.goto, Rn.fin, Rn.wake, Rn.waited, Rn.wends, Rn.noted, Rn.wchosen, Rn.wswapped, wfCalmly, wd_load, wd_cas, wd_casB, wd_add, Wk.zero, hc]
      · refine ⟨_, ?_, a1, by omega, by omega⟩
        simp [AtT, RnT, wfA, wf50, wf51, Rn.fresh, Rn.did, Rn.setA, Rn.note, Rn.goto, Rn.fin, Rn.wake, Rn.waited, Rn.wends, Rn.noted, Rn.wchosen, Rn.wswapped, wfCalmly, wd_load, wd_cas, wd_casB, wd_add, Wk.zero, hc]
  · rintro i j hi hj L ⟨v, rfl, hv, hr, ht⟩
    obtain ⟨a1, a2, a3, a4⟩ := wfv_sub1 hv (by omega)
    obtain ⟨s1, e1⟩ : ∃ s1, wfA (RnT k d i 2 0 0 0 (Wd N v)) = s1 := ⟨_, rfl⟩
    have e2 := e1
    simp [AtT, RnT, wfA, wf20, Rn.fresh, Rn.did, Rn.setA, Rn.note, Rn.goto, Rn.fin, Rn.wake, Rn.waited, Rn.wends, Rn.noted, Rn.wchosen, Rn.wswapped, wfCalmly, wd_load, wd_cas, wd_casB, wd_add, Wk.zero, wfR] at e2
    subst e2
    obtain ⟨n, s', h3, h4, h5, h6, h7⟩ := AtT.ends (g := wfA) (startT_at k d i 2 (Wd N v)) 0 e1 (by simp) (by simp) rfl (by simp; omega) (hnw _)
    exact ⟨n, s', by simp at h3; omega, h4, h6, h7, _, h5, a1, by omega, by omega⟩
  · rintro i hi L ⟨v, rfl, hv, hr, ht⟩
    obtain ⟨a1, a2, a3, a4⟩ := wfv_ticket hv
    have hw : (wfT ((v + 65536) % 4294967296) == wfG v && wfR ((v + 65536) % 4294967296) == 0) = true := by rw [a2, a3, hr, ht]; simp
    have k1 : AtT k d i (wfA (RnT k d i 3 0 0 0 (Wd N v))) 3 1 v 0 (Wd N ((v + 65536) % 4294967296)) := by simp [AtT, RnT, wfA, wf30, Rn.fresh, Rn.did, Rn.setA, Rn.note, Rn.goto, Rn.fin, Rn.wake, Rn.waited, Rn.wends, Rn.noted, Rn.wchosen, Rn.wswapped, wfCalmly, wd_load, wd_cas, wd_casB, wd_add, Wk.zero, wfR]
    have hwt : waitA (Wd N ((v + 65536) % 4294967296)) k d i 0 0 (fun x => wfT x == wfG v && wfR x == 0) = ⟨0, ⟨1, 0, 0, 0, (v + 65536) % 4294967296⟩, true, true, Wd N ((v + 65536) % 4294967296)⟩ := by
      rw [wait_hit (by rw [wd_load]; exact hw), wd_load]
    have e1 : wfA (RnT k d i 3 1 v 0 (Wd N ((v + 65536) % 4294967296))) = (((RnT k d i 3 1 v 0 (Wd N ((v + 65536) % 4294967296))).waited ⟨0, ⟨1, 0, 0, 0, (v + 65536) % 4294967296⟩, true, true, Wd N ((v + 65536) % 4294967296)⟩).note 4 0).fin true := by
      simp only [RnT, wfA, wf31]
      simp [hwt]
    refine ⟨2, _, by omega, (startT_at _ _ _ _ _).go k1 (by decide) (k1.fin ?_ ?_), ?_, ?_, ?_⟩
    · rw [e1]; simp [Rn.fin]
    · rw [e1]; rfl
    · rw [e1]; simp [Rn.fin]
    · rw [e1]; rfl
    · rw [e1]
      exact ⟨_, rfl, a1, by omega, by omega⟩
  · rintro i hi L ⟨v, rfl, hv, hr, ht⟩
    obtain ⟨a1, a2, a3, a4⟩ := wfv_next hv
    have k1 : AtT k d i (wfA (RnT k d i 4 0 0 0 (Wd N v))) 4 1 v 0 (Wd N v) := by simp [AtT, RnT, wfA, wf40, Rn.fresh, Rn.did, Rn.setA, Rn.note, Rn.goto, Rn.fin, Rn.wake, Rn.waited, Rn.wends, Rn.noted, Rn.wchosen, Rn.wswapped, wfCalmly, wd_load, wd_cas, wd_casB, wd_add, Wk.zero, wfR]
    obtain ⟨s1, e1⟩ : ∃ s1, wfA (RnT k d i 4 1 v 0 (Wd N v)) = s1 := ⟨_, rfl⟩
    have e2 := e1
    simp [AtT, RnT, wfA, wf41, Rn.fresh, Rn.did, Rn.setA, Rn.note, Rn.goto, Rn.fin, Rn.wake, Rn.waited, Rn.wends, Rn.noted, Rn.wchosen, Rn.wswapped, wfCalmly, wd_load, wd_cas, wd_casB, wd_add, Wk.zero, wfR] at e2
    subst e2
    obtain ⟨n, s', h3, h4, h5, h6, h7⟩ := AtT.ends (g := wfA) k1 0 e1 (by simp) (by simp) rfl (by simp; omega) (hnw _)
    exact ⟨n + 1, s', by simp at h3; omega, (startT_at _ _ _ _ _).go k1 (by decide) h4, h6, h7, _, h5, a1, by simp; omega, by omega⟩
  · rintro i hi L ⟨v, rfl, hv, hr, ht⟩
    have hc := wf_is_calm ht
    have hr0 : wfR v = 0 := hr
    obtain ⟨a1, a2, a3, a4⟩ := wfv_ticket hv
    have k1 : AtT k d i (wfA (RnT k d i 6 0 0 0 (Wd N v))) 6 1 v 0 (Wd N v) := by simp [AtT, RnT, wfA, wf60, wf61, Rn.fresh, Rn.did, Rn.setA, Rn.note, Rn.goto, Rn.fin, Rn.wake, Rn.waited, Rn.wends, Rn.noted, Rn.wchosen, Rn.wswapped, wfCalmly, wd_load, wd_cas, wd_casB, wd_add, Wk.zero, hc, hr0]
    refine ⟨2, _, by omega, (startT_at _ _ _ _ _).go k1 (by decide) (k1.fin ?_ ?_), ?_, ?_, ?_⟩
    · simp [AtT, RnT, wfA, wf60, wf61, Rn.fresh, Rn.did, Rn.setA, Rn.note, Rn.goto, Rn.fin, Rn.wake, Rn.waited, Rn.wends, Rn.noted, Rn.wchosen, Rn.wswapped, wfCalmly, wd_load, wd_cas, wd_casB, wd_add, Wk.zero, hc, hr0]
    · simp [AtT, RnT, wfA, wf60, wf61, Rn.fresh, Rn.did, Rn.setA, Rn.note, Rn.goto, Rn.fin, Rn.wake, Rn.waited, Rn.wends, Rn.noted, Rn.wchosen, Rn.wswapped, wfCalmly, wd_load, wd_cas, wd_casB, wd_add, Wk.zero, hc, hr0]
    · simp [AtT, RnT, wfA, wf60, wf61, Rn.fresh, Rn.did, Rn.setA, Rn.note, Rn.goto, Rn.fin, Rn.wake, Rn.waited, Rn.wends, Rn.noted, Rn.wchosen, Rn.wswapped, wfCalmly, wd_load, wd_cas, wd_casB, wd_add, Wk.zero, hc, hr0]
    · simp [AtT, RnT, wfA, wf60, wf61, Rn.fresh, Rn.did, Rn.setA, Rn.note, Rn.goto, Rn.fin, Rn.wake, Rn.waited, Rn.wends, Rn.noted, Rn.wchosen, Rn.wswapped, wfCalmly, wd_load, wd_cas, wd_casB, wd_add, Wk.zero, hc, hr0]
    · refine ⟨_, ?_, a1, by omega, by omega⟩
      simp [AtT, RnT, wfA, wf60, wf61, Rn.fresh, Rn.did, Rn.setA, Rn.note, Rn.goto, Rn.fin, Rn.wake, Rn.waited, Rn.wends, Rn.noted, Rn.wchosen, Rn.wswapped, wfCalmly, wd_load, wd_cas, wd_casB, wd_add, Wk.zero, hc, hr0]
  · rintro i j hi hj L ⟨v, rfl, hv, hr, ht⟩
    have hc := wf_is_calm ht
    have hne : (wfR v == 0) = false := by have : ¬ wfR v = 0 := by omega
                                          simpa using this
    refine ⟨1, _, by omega, (startT_at _ _ _ _ _).fin ?_ ?_, ?_, ?_, v, ?_, hv, hr, ht⟩ <;> simp [AtT, RnT, wfA, wf60, Rn.fresh, Rn.did, Rn.setA, Rn.note, Rn.goto, Rn.fin, Rn.wake, Rn.waited, Rn.wends, Rn.noted, Rn.wchosen, Rn.wswapped, wfCalmly, wd_load, wd_cas, wd_casB, wd_add, Wk.zero, hc, hne]
  · rintro i hi L ⟨v, rfl, hv, hr, ht⟩
    have hc := wf_not_calm ht
    refine ⟨1, _, by omega, (startT_at _ _ _ _ _).fin ?_ ?_, ?_, ?_, v, ?_, hv, hr, ht⟩ <;> simp [AtT, RnT, wfA, wf60, Rn.fresh, Rn.did, Rn.setA, Rn.note, Rn.goto, Rn.fin, Rn.wake, Rn.waited, Rn.wends, Rn.noted, Rn.wchosen, Rn.wswapped, wfCalmly, wd_load, wd_cas, wd_casB, wd_add, Wk.zero, hc]
  · rintro i hi L ⟨v, rfl, hv, hr, ht⟩
    have hc := wf_not_calm ht
    refine ⟨1, _, by omega, (startT_at _ _ _ _ _).fin ?_ ?_, ?_, ?_, v, ?_, hv, hr, ht⟩ <;> simp [AtT, RnT, wfA, wf50, Rn.fresh, Rn.did, Rn.setA, Rn.note, Rn.goto, Rn.fin, Rn.wake, Rn.waited, Rn.wends, Rn.noted, Rn.wchosen, Rn.wswapped, wfCalmly, wd_load, wd_cas, wd_casB, wd_add, Wk.zero, hc]
  · rintro i hi L ⟨v, rfl, hv, hr, ht⟩
    obtain ⟨a1, a2, a3, a4⟩ := wfv_next1 hv hr
    rw [show (v + (bump8 v + 1) % 4294967296) % 4294967296 = (v + (bump8 v + 1)) % 4294967296 from by omega] at a1 a2 a3 a4
    have k1 : AtT k d i (wfA (RnT k d i 8 0 0 0 (Wd N v))) 8 1 v 0 (Wd N v) := by simp [AtT, RnT, wfA, wf80, Rn.fresh, Rn.did, Rn.setA, Rn.note, Rn.goto, Rn.fin, Rn.wake, Rn.waited, Rn.wends, Rn.noted, Rn.wchosen, Rn.wswapped, wfCalmly, wd_load, wd_cas, wd_casB, wd_add, Wk.zero, wfR]
    obtain ⟨s1, e1⟩ : ∃ s1, wfA (RnT k d i 8 1 v 0 (Wd N v)) = s1 := ⟨_, rfl⟩
    have e2 := e1
    simp [AtT, RnT, wfA, wf81, Rn.fresh, Rn.did, Rn.setA, Rn.note, Rn.goto, Rn.fin, Rn.wake, Rn.waited, Rn.wends, Rn.noted, Rn.wchosen, Rn.wswapped, wfCalmly, wd_load, wd_cas, wd_casB, wd_add, Wk.zero, wfR] at e2
    subst e2
    obtain ⟨n, s', h3, h4, h5, h6, h7⟩ := AtT.ends (g := wfA) k1 0 e1 (by simp) (by simp) rfl (by simp; omega) (hnw _)
    exact ⟨n + 1, s', by simp at h3; omega, (startT_at _ _ _ _ _).go k1 (by decide) h4, h6, h7, _, h5, a1, by simp; omega, by omega⟩
  · rintro i hi L ⟨v, rfl, hv, hr, ht⟩
    have hc := wf_is_calm ht
    have hr1 : wfR v = 1 := hr
    obtain ⟨a1, a2, a3, a4⟩ := wfv_up hv (by omega)
    have k1 : AtT k d i (wfA (RnT k d i 7 0 0 0 (Wd N v))) 7 1 v 0 (Wd N v) := by simp [AtT, RnT, wfA, wf70, wf71, Rn.fresh, Rn.did, Rn.setA, Rn.note, Rn.goto, Rn.fin, Rn.wake, Rn.waited, Rn.wends, Rn.noted, Rn.wchosen, Rn.wswapped, wfCalmly, wd_load, wd_cas, wd_casB, wd_add, Wk.zero, hc, hr1]
    refine ⟨2, _, by omega, (startT_at _ _ _ _ _).go k1 (by decide) (k1.fin ?_ ?_), ?_, ?_, ?_⟩
    · simp [AtT, RnT, wfA, wf70, wf71, Rn.fresh, Rn.did, Rn.setA, Rn.note, Rn.goto, Rn.fin, Rn.wake, Rn.waited, Rn.wends, Rn.noted, Rn.wchosen, Rn.wswapped, wfCalmly, wd_load, wd_cas, wd_casB, wd_add, Wk.zero, hc, hr1]
    · simp [AtT, RnT, wfA, wf70, wf71, Rn.fresh, Rn.did, Rn.setA, Rn.note, Rn.goto, Rn.fin, Rn.wake, Rn.waited, Rn.wends, Rn.noted, Rn.wchosen, Rn.wswapped, wfCalmly, wd_load, wd_cas, wd_casB, wd_add, Wk.zero, hc, hr1]
    · simp [AtT, RnT, wfA, wf70, wf71, Rn.fresh, Rn.did, Rn.setA, Rn.note, Rn.goto, Rn.fin, Rn.wake, Rn.waited, Rn.wends, Rn.noted, Rn.wchosen, Rn.wswapped, wfCalmly, wd_load, wd_cas, wd_casB, wd_add, Wk.zero, hc, hr1]
    · simp [AtT, RnT, wfA, wf70, wf71, Rn.fresh, Rn.did, Rn.setA, Rn.note, Rn.goto, Rn.fin, Rn.wake, Rn.waited, Rn.wends, Rn.noted, Rn.wchosen, Rn.wswapped, wfCalmly, wd_load, wd_cas, wd_casB, wd_add, Wk.zero, hc, hr1]
    · refine ⟨_, ?_, a1, by omega, by omega⟩
      simp [AtT, RnT, wfA, wf70, wf71, Rn.fresh, Rn.did, Rn.setA, Rn.note, Rn.goto, Rn.fin, Rn.wake, Rn.waited, Rn.wends, Rn.noted, Rn.wchosen, Rn.wswapped, wfCalmly, wd_load, wd_cas, wd_casB, wd_add, Wk.zero, hc, hr1]

def wfLists : List (List Int) := [[1, 2], [3, 4], [5, 2], [6, 4], [3, 8, 2], [1, 7, 4], [6, 8, 7, 4]]
def wfTry : List (Int × Int × Int × Int) := [(3, 5, 1, 4), (3, 6, 1, 4), (1, 6, 1, 2), (1, 5, 2, 2)]
/-- Nobody is inside, no writer has a ticket. -/
def wfEnd (base : Int) (E : List Int) : Prop := (0 ≤ ldA E 0 ∧ ldA E 0 < 4294967296) ∧ ldA E 0 % 256 = 0 ∧ ldA E 0 / 256 % 256 = ldA E 0 / 65536 % 256
theorem wf_first (k : Nat) (base : Int) (h1 : 1 ≤ k) (h2 : k ≤ 64) (hb : 0 ≤ base ∧ base < 4294967296) : WfReads ((8 + 4 * (k : Int)).toNat - 1) 0 (own6 base ++ List.replicate ((8 + 4 * (k : Int)).toNat - 1) 0) :=
by
  refine ⟨base % 256 * 65792, rfl, by omega, by unfold wfR; omega, ?_⟩
  unfold wfT wfG
  have h3 : 0 ≤ base % 256 ∧ base % 256 < 256 := by omega
  generalize base % 256 = b at h3 ⊢
  have e1 : b * 65792 / 256 = b * 257 := by omega
  have e2 : b * 65792 / 65536 = b := by omega
  rw [e1, e2]
  omega
theorem wf_runs (n d base : Int) (most : Nat) (h1 : 1 ≤ n) (h2 : n ≤ 64) (hb : 0 ≤ base ∧ base < 4294967296) (hm : 40 + 8 * n ≤ most) :
    ∀ l, l ∈ wfLists → ∃ E, Runs wfA n d most l (own6 base ++ List.replicate ((8 + 4 * n).toNat - 1) 0) E ∧ wfEnd base E := by
  obtain ⟨k, rfl⟩ : ∃ k : Nat, n = k := ⟨n.toNat, by omega⟩
  refine (wf_ops k d (by omega) (by omega)).runs (by omega) (by omega) ?_ (wf_first k base (by omega) (by omega) hb)
  rintro L ⟨v, rfl, hv, hr, ht⟩
  have e : ldA (Wd ((8 + 4 * (k : Int)).toNat - 1) v) 0 = v := by simp [ldA, Wd]
  unfold wfEnd
  rw [e]
  exact ⟨hv, hr, ht⟩
theorem wf_tries (n d base : Int) (most : Nat) (h1 : 1 ≤ n) (h2 : n ≤ 64) (hb : 0 ≤ base ∧ base < 4294967296) (hm : 40 + 8 * n ≤ most) : ∀ x0 x1 x2 x3, (x0, x1, x2, x3) ∈ wfTry → ∃ s1 s2 s3, aloneA wfA most (start n d x0 (own6 base ++ List.replicate ((8 + 4 * n).toNat - 1) 0)) = (2, s1) ∧ aloneA wfA most (start n d x1 s1.L) = (x2, s2) ∧
    aloneA wfA most (start n d x3 s2.L) = (2, s3) ∧ (x2 = 1 → ∃ s4, aloneA wfA most (start n d 6 s3.L) = (2, s4)) := by
  obtain ⟨k, rfl⟩ : ∃ k : Nat, n = k := ⟨n.toNat, by omega⟩
  exact (wf_ops k d (by omega) (by omega)).tries (by omega) (by omega) (wf_first k base (by omega) (by omega) hb)
theorem wf_together (k : Nat) (d op : Int) (h1 : 2 ≤ k) (h2 : k ≤ 16) (hop : op = 1 ∨ op = 5) : Together wfA k d op (WfReads ((8 + 4 * (k : Int)).toNat - 1)) :=
  (wf_ops k d (by omega) (by omega)).together h1 h2 hop

end Go.Proofs.Ytmbbcgkfankiaaa.Z

/- Law 16: a step; an operation by itself. Written by genlaw.py. -/
set_option linter.unusedVariables false
set_option linter.unusedSimpArgs false
namespace Go.Proofs.Ytmbbcgkfankiaaa.Z
open Go.RowKit

theorem wf_stepR {S0 : List Nat} {w0 w : World} {m a r : Nat} {rs : List Res} {s : Rn} (H : RunHas S0 w0 m a r rs s w) (hok : s.ok) :
    Calls Try.prog 18 #[.pointer (some ⟨r, 0, none⟩), .func (.func 19) #[] #[]] w fun e w' => e = .returned (.bool (stepR wfA s).over) ∧ RunHas S0 w0 m a r rs (stepR wfA s) w' := by
  cases hw : s.f.wk.on with
  | true =>
    have e : stepR wfA s = s.woke := by unfold stepR; rw [hw]; rfl
    rw [e]
    exact run_step_wake H hw hok.1 _
  | false =>
    have e : stepR wfA s = wfA s.fresh := by unfold stepR; rw [hw]; rfl
    rw [e]
    exact run_step_lines H hw 19 #[] #[] (enters_of Try.func19 (by kernel_rfl) rfl) (fun W HW => wf_lines HW hok.1 hok.2.1 (by simp [Rn.fresh]))

theorem wf_stepok {s : Rn} (hw : Words s.L) (h : s.ok) : (stepR wfA s).ok ∧ (stepR wfA s).notes.length ≤ 10 := by
  unfold stepR
  split
  · exact ⟨woke_ok h, by simp [Rn.woke]⟩
  · have := wfA_fine s.fresh hw (fresh_ok h)
    exact ⟨this.1, by simpa [Rn.fresh] using this.2⟩

set_option maxHeartbeats 3200000 in
set_option maxRecDepth 100000 in
theorem wf_alone {S0 : List Nat} {w0 w : World} {m a : Nat} {L : List Int} {rs : List Res} (H : Has S0 w0 w (.mem m a L :: rs)) (n mode op : Int) (hn : I64 n) (most : Nat) (hm : most ≤ 2000) :
    Calls Try.prog 14 #[.pointer (some ⟨m, 0, none⟩), .int .i64 n, .int .i64 mode, .int .i64 op, .int .i64 most] w
      (AloneEnd S0 w0 m a rs (aloneA wfA most (start n mode op L))) := by
  have hnew := RunHas.fresh_ (rs := .own 115 4 (.slice none 0 0) 0 [] :: rs) (start n mode op L) (H.ownNil 115 4).swap rfl 52
  obtain ⟨i0, hi0, hz0, hz1, hz2⟩ := info_parts note_info
  have HI := Lib.hid (show _ ∧ _ ∧ _ ∧ _ from ⟨hi0, hz0, hz1, hz2⟩)
  have hok0 := start_ok hn mode op L
  generalize hR : aloneA wfA most (start n mode op L) = R
  have HN := Lib.hid hnew
  have HR := Lib.hid hR
  have HOK := Lib.hid hok0
  clear H hnew hi0 hz0 hz1 hz2 hR hok0 hn
  go_enter Try.func14, Try.ntmps14
  go_wp2_with fail
  refine wp_from (Facts := fun W => RunHas S0 w0 m a w.heap.size (.own 115 4 (.slice none 0 0) 0 [] :: rs) (start n mode op L) W) ?_ HN.out
  intro W HW
  clear HN
  generalize w.heap.size = B at HW ⊢
  have HV := Lib.hid HW
  clear HW
  go_loopw [13, 14] (fun nt i wr => ∃ (k : Nat) (s : Rn) (nn : Nat) (xs : List Value), k ≤ most ∧ i = .int .i64 k ∧ RunHas S0 w0 m a B (.own 115 4 nt nn xs :: rs) s wr ∧ s.ok ∧ nn ≤ 10 * k ∧ aloneA wfA (most - k) s = R) (fun _ i _ => most - (intOf i).toNat)
  case atStart => exact ⟨0, _, 0, [], Nat.zero_le _, rfl, HV.out, HOK.out, by simp, HR.out⟩
  case round =>
    obtain ⟨k, s, nn, xs, hk, rfl, hH, hok, hnn, hal⟩ := hrel
    clear HV HR HOK
    by_cases hlt : k < most
    · obtain ⟨q, hq⟩ : ∃ q, most - k = q + 1 := ⟨most - k - 1, by omega⟩
      rw [hq] at hal
      have hal2 : (if (stepR wfA s).over then ((stepR wfA s).f.ret, stepR wfA s) else aloneA wfA q (stepR wfA s)) = R := hal
      have hso := wf_stepok hH.words hok
      have hst := wf_stepR hH hok
      cases hov : (stepR wfA s).over with
      | true =>
        rw [hov] at hst hal2
        simp only [if_true] at hal2
        subst hal2
        generalize stepR wfA s = s2 at hst hso
        have HST := Lib.hid hst
        have HSO := Lib.hid hso
        have HNN := Lib.hid hnn
        clear hst hso hH hok hnn hal hov
        have hi : (k : Int) < (most : Int) := by omega
        go_wp2_with fail
        refine HST.out.mono ?_
        rintro e w1 ⟨rfl, nv, H3⟩
        obtain ⟨pn, cn, rfl⟩ := owns_slice H3.own3
        have c19 : w1.cell? ⟨B, 19, none⟩ = some (.slice pn s2.notes.length cn) := H3.blk1.cell 19
        go_wp2_with (at_builtin; refine wpList_append_rd (P := Try.prog) _ rfl (.tmp 31) (.tmp 35) _ rfl 0 115 i0 _ 4 32 Try.underlying32 HI.out.1 HI.out.2.1 HI.out.2.2.1 HI.out.2.2.2 rfl (by omega) _ nn xs rfl (Has.ownAt H3 3 rfl) pn s2.notes.length cn (nts s2.notes) rfl (Rd.own H3.own3) (nts_one _) (by have h1 := HSO.out.2; have h2 := HNN.out; simp only [maxLen]; omega) (by have h1 := HSO.out.2; have h2 := HNN.out; omega) (by omega) ?_; intro v' w' hown hg hat; have H4 := H3.grown4 hown hg hat; clear H3 hown hg hat c19; have c13 : w'.cell? ⟨B, 13, none⟩ = some (.int .i64 s2.f.ret) := H4.blk1.cell 13)
        go_wp2
        go_ret2
        exact ⟨_, rfl, H4.cut3⟩
      | false =>
        rw [hov] at hst hal2
        simp only [Bool.false_eq_true, if_false] at hal2
        generalize stepR wfA s = s2 at hst hso hal2
        have HST := Lib.hid hst
        have HSO := Lib.hid hso
        have HNN := Lib.hid hnn
        have HAL := Lib.hid hal2
        clear hst hso hH hok hnn hal hov hal2
        have hi : (k : Int) < (most : Int) := by omega
        go_wp2_with fail
        refine HST.out.mono ?_
        rintro e w1 ⟨rfl, nv, H3⟩
        obtain ⟨pn, cn, rfl⟩ := owns_slice H3.own3
        have c19 : w1.cell? ⟨B, 19, none⟩ = some (.slice pn s2.notes.length cn) := H3.blk1.cell 19
        go_wp2_with (at_builtin; refine wpList_append_rd (P := Try.prog) _ rfl (.tmp 31) (.tmp 35) _ rfl 0 115 i0 _ 4 32 Try.underlying32 HI.out.1 HI.out.2.1 HI.out.2.2.1 HI.out.2.2.2 rfl (by omega) _ nn xs rfl (Has.ownAt H3 3 rfl) pn s2.notes.length cn (nts s2.notes) rfl (Rd.own H3.own3) (nts_one _) (by have h1 := HSO.out.2; have h2 := HNN.out; simp only [maxLen]; omega) (by have h1 := HSO.out.2; have h2 := HNN.out; omega) (by omega) ?_; intro v' w' hown hg hat; have H4 := H3.grown4 hown hg hat; clear H3 hown hg hat c19)
        go_wp2
        go_roundw
        case rel => exact ⟨k + 1, s2, nn + s2.notes.length, xs ++ nts s2.notes, by omega, by go_num, ⟨_, H4⟩, HSO.out.1, by have h1 := HSO.out.2; have h2 := HNN.out; omega, by rw [show most - (k + 1) = q from by omega]; exact HAL.out⟩
        case measure => simp [intOf]; omega
    · have hkm : k = most := by omega
      subst hkm
      rw [Nat.sub_self] at hal
      have hal2 : ((0 : Int), s) = R := hal
      subst hal2
      have HH := Lib.hid hH
      clear hH hok hnn hal hk hlt
      have hi : (k : Int) ≤ (k : Int) := Int.le_refl _
      go_wp2_with fail
      go_ret2
      obtain ⟨nv, H4⟩ := HH.out
      exact ⟨_, rfl, H4.cut3⟩

end Go.Proofs.Ytmbbcgkfankiaaa.Z

/- Law 16: the document's example. Written by genlaw.py. -/
set_option linter.unusedVariables false
set_option linter.unusedSimpArgs false
namespace Go.Proofs.Ytmbbcgkfankiaaa.Z
open Go.RowKit

theorem wf_awake_pure : (aloneA wfA 2 (start 1 1 3 (own6 255 ++ List.replicate ((8 + 4 * (1 : Int)).toNat - 1) 0))).1 = 2 ∧ ldA (aloneA wfA 2 (start 1 1 3 (own6 255 ++ List.replicate ((8 + 4 * (1 : Int)).toNat - 1) 0))).2.L 0 = 16842496 := by
  decide +kernel

set_option maxHeartbeats 1600000 in
theorem wf_awake (w : World) : Calls Try.prog 16 #[] w fun e w' => e = .returned (.bool true) ∧ Touch [] w w' := by
  have hp := wf_awake_pure
  have hf := fun W => first6 1 255 W (by decide) (by decide)
  generalize hL : own6 255 ++ List.replicate ((8 + 4 * (1 : Int)).toNat - 1) 0 = L at hf hp
  have HF := Lib.hid hf
  clear hf hL
  go_enter Try.func16, Try.ntmps16
  go_wp2_with fail
  refine (HF.out _).mono ?_
  rintro e w1 h1
  obtain ⟨p, g, cap, rfl, H1⟩ := has_newwords (Has.start [] w) h1
  clear h1
  go_wp2_with fail
  refine (fromRow_has H1 rfl).mono ?_
  rintro e w2 ⟨m, a, rfl, H2⟩
  clear H1
  go_wp2_with fail
  refine (wf_alone H2 1 1 3 (by unfold I64; decide) 2 (by decide)).mono ?_
  rintro e w3 ⟨v, he, H3⟩
  generalize aloneA wfA 2 (start 1 1 3 L) = R at hp he H3
  obtain ⟨r1, s3⟩ := R
  obtain ⟨rfl, hp2⟩ := hp
  simp only at he H3 hp2
  subst he
  clear H2
  have hld := fun W (H : Has [] w W (.mem m a s3.L :: .row p g cap L :: [])) => load_has H 0
  rw [hp2] at hld
  have HLD := Lib.hid hld
  clear hld hp2
  go_wp2_with fail
  refine (HLD.out _ H3).mono ?_
  rintro e w4 ⟨rfl, H4⟩
  go_wp2_with fail
  go_ret
  exact ⟨by simp, H4.touch⟩

end Go.Proofs.Ytmbbcgkfankiaaa.Z

/- Law 16: the statement WfAlone: its walk. Written by genlaw.py. -/
set_option linter.unusedVariables false
set_option linter.unusedSimpArgs false
namespace Go.Proofs.Ytmbbcgkfankiaaa.Z
open Go.RowKit

theorem wf_aloneI {S0 : List Nat} {w0 w : World} {m a : Nat} {L : List Int} {rs : List Res} (H : Has S0 w0 w (.mem m a L :: rs)) (n mode op M : Int) (hn : I64 n) (hM : 0 ≤ M ∧ M ≤ 2000) {R : Int × Rn} (hR : aloneA wfA M.toNat (start n mode op L) = R) :
    Calls Try.prog 14 #[.pointer (some ⟨m, 0, none⟩), .int .i64 n, .int .i64 mode, .int .i64 op, .int .i64 M] w (AloneEnd S0 w0 m a rs R) := by
  subst hR
  have := wf_alone H n mode op hn M.toNat (by omega)
  rw [show ((M.toNat : Nat) : Int) = M from by omega] at this
  exact this

theorem runs_drop {g : Rn → Rn} {n mode : Int} {most : Nat} {l : List Int} {L Z : List Int} {j : Nat} (hj : j < l.length) (h : Runs g n mode most (l.drop j) L Z) : ∃ s, aloneA g most (start n mode (l.getD j 0) L) = (2, s) ∧ Runs g n mode most (l.drop (j + 1)) s.L Z := by
  rw [List.drop_eq_getElem_cons hj] at h
  have e : l.getD j 0 = l[j] := by simp [List.getD, hj]
  rw [e]
  exact h

def wfBlks (B : Nat) : List Res :=
  [.blk (B + 7) #[.slice (some ⟨B + 0, 0, none⟩) 2 2, .slice (some ⟨B + 1, 0, none⟩) 2 2, .slice (some ⟨B + 2, 0, none⟩) 2 2, .slice (some ⟨B + 3, 0, none⟩) 2 2, .slice (some ⟨B + 4, 0, none⟩) 3 3, .slice (some ⟨B + 5, 0, none⟩) 3 3, .slice (some ⟨B + 6, 0, none⟩) 4 4], .blk (B + 6) #[.int .i64 6, .int .i64 8, .int .i64 7, .int .i64 4], .blk (B + 5) #[.int .i64 1, .int .i64 7, .int .i64 4], .blk (B + 4) #[.int .i64 3, .int .i64 8, .int .i64 2], .blk (B + 3) #[.int .i64 6, .int .i64 4], .blk (B + 2) #[.int .i64 5, .int .i64 2], .blk (B + 1) #[.int .i64 3, .int .i64 4], .blk (B + 0) #[.int .i64 1, .int .i64 2]]
theorem wf_elem (B : Nat) (k : Nat) (hk : k < 7) : ∃ (q : Nat) (l : List Int) (i : Nat), (wfBlks B)[i]? = some (.blk (B + q) (i64s l).toArray) ∧ (#[.slice (some ⟨B + 0, 0, none⟩) 2 2, .slice (some ⟨B + 1, 0, none⟩) 2 2, .slice (some ⟨B + 2, 0, none⟩) 2 2, .slice (some ⟨B + 3, 0, none⟩) 2 2, .slice (some ⟨B + 4, 0, none⟩) 3 3, .slice (some ⟨B + 5, 0, none⟩) 3 3, .slice (some ⟨B + 6, 0, none⟩) 4 4] : Array Value)[k]? = some (.slice (some ⟨B + q, 0, none⟩) l.length l.length) ∧ l ∈ wfLists ∧ l.length ≤ 4 := by
  match k, hk with
  | 0, _ => exact ⟨0, [1, 2], 7, rfl, rfl, by simp [wfLists], by simp⟩
  | 1, _ => exact ⟨1, [3, 4], 6, rfl, rfl, by simp [wfLists], by simp⟩
  | 2, _ => exact ⟨2, [5, 2], 5, rfl, rfl, by simp [wfLists], by simp⟩
  | 3, _ => exact ⟨3, [6, 4], 4, rfl, rfl, by simp [wfLists], by simp⟩
  | 4, _ => exact ⟨4, [3, 8, 2], 3, rfl, rfl, by simp [wfLists], by simp⟩
  | 5, _ => exact ⟨5, [1, 7, 4], 2, rfl, rfl, by simp [wfLists], by simp⟩
  | 6, _ => exact ⟨6, [6, 8, 7, 4], 1, rfl, rfl, by simp [wfLists], by simp⟩

set_option maxHeartbeats 3200000 in
set_option maxRecDepth 100000 in
theorem wfAlone_any (base n mode : Int) (w : World) (hb : 0 ≤ base ∧ base < 4294967296) (hn : 0 ≤ n ∧ n < 256) :
    Calls Try.prog 3 #[.int .u32 base, .int .u8 n, .int .i64 mode] w fun e w' => e = .returned (.bool true) ∧ Touch [] w w' := by
  have hk : ∃ k : Int, 1 + n % 64 = k ∧ 1 ≤ k ∧ k ≤ 64 := ⟨_, rfl, by omega, by omega⟩
  obtain ⟨k, hk, hk1, hk2⟩ := hk
  have hruns : ∀ l, l ∈ wfLists → ∃ E, Runs wfA k mode (40 + 8 * k).toNat l (own6 base ++ List.replicate ((8 + 4 * k).toNat - 1) 0) E ∧ wfEnd base E := wf_runs k mode base (40 + 8 * k).toNat hk1 hk2 hb (by omega)
  have hf := fun W => first6 k base W ⟨hk1, hk2⟩ hb
  have hZ : own6 base ++ List.replicate ((8 + 4 * k).toNat - 1) 0 = own6 base ++ List.replicate ((8 + 4 * k).toNat - 1) 0 := rfl
  rw [hZ] at hf
  generalize own6 base ++ List.replicate ((8 + 4 * k).toNat - 1) 0 = Z at hf hruns
  have HF := Lib.hid hf
  have HRUNS := Lib.hid hruns
  have HHK := Lib.hid hk
  clear hf hruns hZ hk
  go_enter Try.func3, Try.ntmps3
  go_wp2_with fail
  rw [HHK.out]
  refine wp_from (Facts := fun W => Has [] w W (wfBlks w.heap.size)) ?_ ((Has.start [] w).new8)
  intro W HW
  have hTB : w.heap.size + 1 + 1 + 1 + 1 + 1 + 1 + 1 = w.heap.size + 7 := rfl
  rw [hTB]
  clear hTB
  generalize w.heap.size = B at HW ⊢
  generalize n % 64 = n64
  have HV := Lib.hid HW
  clear HW HHK
  go_loopw [31] (fun i wr => ∃ q : Nat, q ≤ 7 ∧ i = .int .i64 q ∧ Has [] w wr (wfBlks B)) (fun i _ => 7 - (intOf i).toNat)
  case atStart => exact ⟨0, Nat.zero_le _, rfl, HV.out⟩
  case round =>
    obtain ⟨q, hq, rfl, hH⟩ := hrel
    clear HV
    by_cases hlt : q < 7
    · obtain ⟨d, l, i, hi, hs, hl, hl4⟩ := wf_elem B q hlt
      have hcell : wr.cell? ⟨B + 7, q, none⟩ = some (.slice (some ⟨B + d, 0, none⟩) l.length l.length) := ((hH.at_ 0 rfl).cell q).trans hs
      obtain ⟨E, hrn, hend⟩ := HRUNS.out l hl
      have HRN := Lib.hid hrn
      have HEND := Lib.hid hend
      have HI := Lib.hid hi
      have HH := Lib.hid hH
      clear hs hl hrn hi hH hend
      generalize hBT : B + 7 = TB at hcell ⊢
      generalize hBD : B + d = BD at hcell ⊢
      have HBD := Lib.hid hBD
      clear hBT hBD
      have hi1 : (0 : Int) ≤ (q : Int) := Int.natCast_nonneg _
      have hi2 : (q : Int) < 7 := by omega
      go_wp2_with fail
      refine (HF.out _).mono ?_
      rintro e w1 h1
      obtain ⟨p, g, cap, rfl, H1⟩ := has_newwords HH.out h1
      clear h1 hcell
      go_wp2_with fail
      refine (fromRow_has H1 rfl).mono ?_
      rintro e w2 ⟨m, a, rfl, H2⟩
      clear H1
      go_wp2_with fail
      have HS2 := Lib.hid H2
      clear H2
      go_loopw [14] (fun i wr => ∃ (j : Nat) (L : List Int), j ≤ l.length ∧ i = .int .i64 j ∧ Has [] w wr (.mem m a L :: .row p g cap Z :: wfBlks B) ∧ Runs wfA k mode (40 + 8 * k).toNat (l.drop j) L E) (fun i _ => l.length - (intOf i).toNat)
      case atStart => exact ⟨0, Z, Nat.zero_le _, rfl, HS2.out, HRN.out⟩
      case round =>
        obtain ⟨j, L, hj, rfl, hH, hru⟩ := hrel
        clear HS2 HRN
        by_cases hjl : j < l.length
        · obtain ⟨s, hal, hru2⟩ := runs_drop hjl hru
          have hB : Blk wr BD (i64s l).toArray := by have := hH.at_ (i + 2) (by simpa using HI.out); rw [HBD.out] at this; exact this
          obtain ⟨b, off, hb1, hbl, hcell⟩ := i64s_at (rd_blk hB) hjl
          simp only [Option.some.injEq, Addr.mk.injEq] at hb1
          obtain ⟨rfl, rfl, _⟩ := hb1
          rw [Nat.zero_add] at hcell
          generalize l.getD j 0 = o at hal hcell
          have HAL := Lib.hid hal
          have HRU := Lib.hid hru2
          have HH2 := Lib.hid hH
          clear hal hru2 hH hru hB hbl
          have hj1 : (0 : Int) ≤ (j : Int) := Int.natCast_nonneg _
          have hj2 : (j : Int) < (l.length : Int) := by omega
          go_wp2_with fail
          refine (wf_aloneI HH2.out k mode o (40 + 8 * k) (by unfold I64; omega) (by omega) HAL.out).mono ?_
          rintro e w3 ⟨v, rfl, H3⟩
          go_wp2
          go_roundw
          case rel => exact ⟨j + 1, s.L, by omega, by go_num, H3, HRU.out⟩
          case measure => simp [intOf]; omega
        · have hjl2 : j = l.length := by omega
          subst hjl2
          rw [List.drop_length] at hru
          have hLZ : L = E := hru
          subst hLZ
          have HH2 := Lib.hid hH
          clear hH hru hjl hj
          have hj2 : (l.length : Int) ≤ (l.length : Int) := Int.le_refl _
          obtain ⟨he0, he1, he2⟩ := HEND.out
          have hld := fun W (H : Has [] w W (.mem m a L :: .row p g cap Z :: wfBlks B)) => load_has H 0
          generalize ldA L 0 = v at hld he0 he1 he2
          have hn1 : (v % 256 != 0) = false := by simpa using he1
          have hn2 : (v / 256 % 256 != v / 65536 % 256) = false := by simpa using he2
          have HLD := Lib.hid hld
          clear hld he1 he2
          go_wp2_with fail
          refine (HLD.out _ HH2.out).mono ?_
          rintro e w4 ⟨rfl, H9⟩
          go_wp2
          go_roundw
          case rel => exact ⟨q + 1, by omega, by go_num, H9.tail.tail⟩
          case measure => simp [intOf]; omega
    · have hq2 : q = 7 := by omega
      subst hq2
      have HH := Lib.hid hH
      clear hH hq hlt
      go_wp2_with fail
      refine (wf_awake _).mono ?_
      rintro e w1 ⟨rfl, t1⟩
      go_wp2_with fail
      go_ret
      exact ⟨rfl, (HH.out.grow t1).touch⟩

end Go.Proofs.Ytmbbcgkfankiaaa.Z

/- Law 16: the statement WfTries: its walk. Written by genlaw.py. -/
set_option linter.unusedVariables false
set_option linter.unusedSimpArgs false
namespace Go.Proofs.Ytmbbcgkfankiaaa.Z
open Go.RowKit

def wfTBlks (B : Nat) : List Res := [.blk B #[.int .i64 3, .int .i64 5, .int .i64 1, .int .i64 4, .int .i64 3, .int .i64 6, .int .i64 1, .int .i64 4, .int .i64 1, .int .i64 6, .int .i64 1, .int .i64 2, .int .i64 1, .int .i64 5, .int .i64 2, .int .i64 2]]
theorem wf_tel (B : Nat) (k : Nat) (hk : k < 4) : ∃ x0 x1 x2 x3 : Int, (x0, x1, x2, x3) ∈ wfTry ∧ (x2 = 1 ∨ x2 = 2) ∧ ∀ wr : World, Blk wr B #[.int .i64 3, .int .i64 5, .int .i64 1, .int .i64 4, .int .i64 3, .int .i64 6, .int .i64 1, .int .i64 4, .int .i64 1, .int .i64 6, .int .i64 1, .int .i64 2, .int .i64 1, .int .i64 5, .int .i64 2, .int .i64 2] → wr.cell? ⟨B, k * 4, none⟩ = some (.int .i64 x0) ∧ wr.cell? ⟨B, k * 4 + 1, none⟩ = some (.int .i64 x1) ∧ wr.cell? ⟨B, k * 4 + 2, none⟩ = some (.int .i64 x2) ∧ wr.cell? ⟨B, k * 4 + 3, none⟩ = some (.int .i64 x3) := by
  match k, hk with
  | 0, _ => exact ⟨3, 5, 1, 4, by simp [wfTry], by decide, fun wr h => ⟨h.cell _, h.cell _, h.cell _, h.cell _⟩⟩
  | 1, _ => exact ⟨3, 6, 1, 4, by simp [wfTry], by decide, fun wr h => ⟨h.cell _, h.cell _, h.cell _, h.cell _⟩⟩
  | 2, _ => exact ⟨1, 6, 1, 2, by simp [wfTry], by decide, fun wr h => ⟨h.cell _, h.cell _, h.cell _, h.cell _⟩⟩
  | 3, _ => exact ⟨1, 5, 2, 2, by simp [wfTry], by decide, fun wr h => ⟨h.cell _, h.cell _, h.cell _, h.cell _⟩⟩

set_option maxHeartbeats 3200000 in
set_option maxRecDepth 100000 in
theorem wfTries_any (base n mode : Int) (w : World) (hb : 0 ≤ base ∧ base < 4294967296) (hn : 0 ≤ n ∧ n < 256) :
    Calls Try.prog 4 #[.int .u32 base, .int .u8 n, .int .i64 mode] w fun e w' => e = .returned (.bool true) ∧ Touch [] w w' := by
  have hk : ∃ k : Int, 1 + n % 64 = k ∧ 1 ≤ k ∧ k ≤ 64 := ⟨_, rfl, by omega, by omega⟩
  obtain ⟨k, hk, hk1, hk2⟩ := hk
  have hruns := wf_tries k mode base (40 + 8 * k).toNat hk1 hk2 hb (by omega)
  have hf := fun W => first6 k base W ⟨hk1, hk2⟩ hb
  have hZ : own6 base ++ List.replicate ((8 + 4 * k).toNat - 1) 0 = own6 base ++ List.replicate ((8 + 4 * k).toNat - 1) 0 := rfl
  rw [hZ] at hf
  generalize own6 base ++ List.replicate ((8 + 4 * k).toNat - 1) 0 = Z at hf hruns
  have HF := Lib.hid hf
  have HRUNS := Lib.hid hruns
  have HHK := Lib.hid hk
  clear hf hruns hZ hk
  go_enter Try.func4, Try.ntmps4
  go_wp2_with fail
  rw [HHK.out]
  refine wp_from (Facts := fun W => Has [] w W (wfTBlks w.heap.size)) ?_ ((Has.start [] w).new1)
  intro W HW
  generalize w.heap.size = B at HW ⊢
  generalize n % 64 = n64
  have HV := Lib.hid HW
  clear HW HHK
  go_loopw [32] (fun i wr => ∃ q : Nat, q ≤ 4 ∧ i = .int .i64 q ∧ Has [] w wr (wfTBlks B)) (fun i _ => 4 - (intOf i).toNat)
  case atStart => exact ⟨0, Nat.zero_le _, rfl, HV.out⟩
  case round =>
    obtain ⟨q, hq, rfl, hH⟩ := hrel
    clear HV
    by_cases hlt : q < 4
    · obtain ⟨x0, x1, x2, x3, hx, hx2, hcells⟩ := wf_tel B q hlt
      obtain ⟨c0, c1, c2, c3⟩ := hcells wr (hH.at_ 0 rfl)
      obtain ⟨s1, s2, s3, r1, r2, r3, r4⟩ := HRUNS.out x0 x1 x2 x3 hx
      have HR1 := Lib.hid r1
      have HR2 := Lib.hid r2
      have HR3 := Lib.hid r3
      have HR4 := Lib.hid r4
      have HH := Lib.hid hH
      clear r1 r2 r3 r4 hx hcells hH
      have hi1 : (0 : Int) ≤ (q : Int) := Int.natCast_nonneg _
      have hi2 : (q : Int) < 4 := by omega
      rcases hx2 with rfl | rfl
      · go_wp2_with fail
        refine (HF.out _).mono ?_
        rintro e w1 h1
        obtain ⟨p, g, cap, rfl, H1⟩ := has_newwords (HH.out.new1) h1
        clear h1 c0 c1 c2 c3
        go_wp2_with fail
        refine (fromRow_has H1 rfl).mono ?_
        rintro e w2 ⟨m, a, rfl, H2⟩
        clear H1
        obtain ⟨u0, u1, u2⟩ := (H2.at_ 2 rfl).own
        generalize wr.heap.size = X at H2 u0 u1 u2 ⊢
        go_wp2_with fail
        refine (wf_aloneI H2 k mode x0 (40 + 8 * k) (by unfold I64; omega) (by omega) HR1.out).mono ?_
        rintro e w3 ⟨v3, rfl, H3⟩
        clear u0 u1 u2
        obtain ⟨u0, u1, u2⟩ := (H3.at_ 2 rfl).own
        go_wp2_with fail
        refine (wf_aloneI H3 k mode x1 (40 + 8 * k) (by unfold I64; omega) (by omega) HR2.out).mono ?_
        rintro e w4 ⟨v4, rfl, H4⟩
        clear u0 u1 u2
        obtain ⟨u0, u1, u2⟩ := (H4.at_ 2 rfl).own
        go_wp2_with fail
        refine (wf_aloneI H4 k mode x3 (40 + 8 * k) (by unfold I64; omega) (by omega) HR3.out).mono ?_
        rintro e w5 ⟨v5, rfl, H5⟩
        clear u0 u1 u2
        obtain ⟨u0, u1, u2⟩ := (H5.at_ 2 rfl).own
        obtain ⟨s4, r4⟩ : ∃ s4, aloneA wfA (40 + 8 * k).toNat (start k mode 6 s3.L) = (2, s4) := by have := HR4.out; simpa using this
        go_wp2_with fail
        refine (wf_aloneI H5 k mode 6 (40 + 8 * k) (by unfold I64; omega) (by omega) r4).mono ?_
        rintro e w6 ⟨v6, rfl, H6⟩
        go_wp2
        go_roundw
        case rel => exact ⟨q + 1, by omega, by go_num, H6.tail.tail.tail⟩
        case measure => simp [intOf]; omega
      · go_wp2_with fail
        refine (HF.out _).mono ?_
        rintro e w1 h1
        obtain ⟨p, g, cap, rfl, H1⟩ := has_newwords (HH.out.new1) h1
        clear h1 c0 c1 c2 c3
        go_wp2_with fail
        refine (fromRow_has H1 rfl).mono ?_
        rintro e w2 ⟨m, a, rfl, H2⟩
        clear H1
        obtain ⟨u0, u1, u2⟩ := (H2.at_ 2 rfl).own
        generalize wr.heap.size = X at H2 u0 u1 u2 ⊢
        go_wp2_with fail
        refine (wf_aloneI H2 k mode x0 (40 + 8 * k) (by unfold I64; omega) (by omega) HR1.out).mono ?_
        rintro e w3 ⟨v3, rfl, H3⟩
        clear u0 u1 u2
        obtain ⟨u0, u1, u2⟩ := (H3.at_ 2 rfl).own
        go_wp2_with fail
        refine (wf_aloneI H3 k mode x1 (40 + 8 * k) (by unfold I64; omega) (by omega) HR2.out).mono ?_
        rintro e w4 ⟨v4, rfl, H4⟩
        clear u0 u1 u2
        obtain ⟨u0, u1, u2⟩ := (H4.at_ 2 rfl).own
        go_wp2_with fail
        refine (wf_aloneI H4 k mode x3 (40 + 8 * k) (by unfold I64; omega) (by omega) HR3.out).mono ?_
        rintro e w5 ⟨v5, rfl, H5⟩
        clear u0 u1 u2
        obtain ⟨u0, u1, u2⟩ := (H5.at_ 2 rfl).own
        go_wp2
        go_roundw
        case rel => exact ⟨q + 1, by omega, by go_num, H5.tail.tail.tail⟩
        case measure => simp [intOf]; omega
    · have hq2 : q = 4 := by omega
      subst hq2
      have HH := Lib.hid hH
      clear hH hq hlt
      go_wp2_with fail
      refine (wf_awake _).mono ?_
      rintro e w1 ⟨rfl, t1⟩
      go_wp2_with fail
      go_ret
      exact ⟨rfl, (HH.out.grow t1).touch⟩

end Go.Proofs.Ytmbbcgkfankiaaa.Z

/- Arguments opened: whole numbers, structs of whole numbers, slices of these. No statement is in sight. -/
set_option linter.unusedVariables false
set_option linter.unusedSimpArgs false
namespace Go.Proofs.Ytmbbcgkfankiaaa.Z
open Go.RowKit Go.ChangeShapes Go.WideShapes Go.ChangeAt Go.Deep

/-- Whatever reads as a value of type t has cells of this form. -/
def Flat (P : Program) (t : TypeId) (ok : List Value → Prop) : Prop :=
  ∀ (H : Type) (enc : TypeId × Value → H) (w : World) (base : Nat) (spare : Nat → Bool) (held : Bool) (fuel : Nat) (cs : List Value) (x : DataW H × List MemPlace),
    DataW.trod enc P w base spare held fuel t cs = some x → ok cs

theorem flat_int {P : Program} {t : TypeId} {k : IntKind} (ht : P.underlying t = some (.int k)) : Flat P t (fun cs => ∃ n, cs = [.int k n] ∧ (Lit.int k n).wf = true) := by
  intro H enc w base spare held fuel cs x h
  obtain ⟨n, h1, _, h2⟩ := DataW.trod_int ht h
  exact ⟨n, h1, h2⟩

theorem flat_bool {P : Program} {t : TypeId} (ht : P.underlying t = some .bool) : Flat P t (fun cs => ∃ b, cs = [.bool b]) := by
  intro H enc w base spare held fuel cs x h
  obtain ⟨n, h1, _⟩ := DataW.trod_bool ht h
  exact ⟨n, h1⟩

theorem flat_mono {P : Program} {t : TypeId} {ok ok' : List Value → Prop} (h : Flat P t ok) (hm : ∀ cs, ok cs → ok' cs) : Flat P t ok' :=
  fun H enc w base spare held fuel cs x hx => hm _ (h H enc w base spare held fuel cs x hx)

/-- A struct: each field's cells are of that field's form. -/
theorem flat_struct {P : Program} {t : TypeId} {fs : Array Field} (ht : P.underlying t = some (.struct fs)) :
    Flat P t (fun cs => cs.length = P.cellsOf t ∧ ∀ (i : Nat) (f : Field) (ok : List Value → Prop), fs[i]? = some f → Flat P f.type ok → ok ((cs.drop f.offset).take (P.cellsOf f.type))) := by
  intro H enc w base spare held fuel cs x h
  obtain ⟨xs, n, _, _, hl, hxl, hf⟩ := DataW.trod_struct ht h
  refine ⟨hl, fun i f ok hi hok => ?_⟩
  have hil : i < fs.size := (Array.getElem?_eq_some_iff.1 hi).1
  have := hf i f hi
  rw [List.getElem?_eq_getElem (by omega)] at this
  exact hok H enc w base spare held n _ _ this

theorem wf_u32 {n : Int} (h : (Lit.int .u32 n).wf = true) : 0 ≤ n ∧ n < 4294967296 := by
  simp [Lit.wf, IntKind.min, IntKind.max, IntKind.signed, IntKind.bits] at h; omega
theorem wf_u8 {n : Int} (h : (Lit.int .u8 n).wf = true) : 0 ≤ n ∧ n < 256 := by
  simp [Lit.wf, IntKind.min, IntKind.max, IntKind.signed, IntKind.bits] at h; omega
theorem wf_i64 {n : Int} (h : (Lit.int .i64 n).wf = true) : -9223372036854775808 ≤ n ∧ n ≤ 9223372036854775807 := by
  simp [Lit.wf, IntKind.min, IntKind.max, IntKind.signed, IntKind.bits] at h; omega
theorem wf_i32 {n : Int} (h : (Lit.int .i32 n).wf = true) : -2147483648 ≤ n ∧ n < 2147483648 := by
  simp [Lit.wf, IntKind.min, IntKind.max, IntKind.signed, IntKind.bits] at h; omega

theorem flatMap_at {α : Type} {dec : α → List Value} {size : Nat} (hs : 0 < size) (hlen : ∀ a, (dec a).length = size) : ∀ (l : List α) (i j : Nat) (h : i < l.length), j < size → (l.flatMap dec)[i * size + j]? = (dec l[i])[j]? := by
  intro l
  induction l with
  | nil => intro i j h; simp at h
  | cons a l ih =>
    intro i j h hj
    rw [List.flatMap_cons]
    cases i with
    | zero =>
      rw [List.getElem?_append_left (by rw [hlen]; omega)]
      simp
    | succ i =>
      rw [List.getElem?_append_right (by rw [hlen, Nat.succ_mul]; omega), hlen, show (i + 1) * size + j - size = i * size + j by rw [Nat.succ_mul]; omega, ih i j (by simpa using h) hj]
      rfl

theorem flatMap_length {α : Type} {dec : α → List Value} {size : Nat} (hlen : ∀ a, (dec a).length = size) (l : List α) : (l.flatMap dec).length = l.length * size := by
  induction l with
  | nil => simp
  | cons a l ih => rw [List.flatMap_cons, List.length_append, ih, hlen, List.length_cons, Nat.succ_mul]; omega

/-- A slice of flat elements, as a list. -/
theorem open_list {P : Program} {H : Type} {enc : TypeId × Value → H} {w : World} {t e : TypeId} {α : Type} {dec : α → List Value} {ok : α → Prop} {size : Nat} {A : Option Addr} {n c : Nat} {d : DataW H} {p : List MemPlace}
    (ht : P.underlying t = some (.slice e)) (hF : Flat P e (fun cs => ∃ a, ok a ∧ cs = dec a)) (hC : P.cellsOf e = size) (hs : 0 < size) (hlen : ∀ a, (dec a).length = size)
    (h : DataW.Trod enc P w 0 (fun _ => true) true t (.slice A n c) d p) (lt : ∀ x ∈ p, x.block < w.heap.size) :
    ∃ l : List α, l.length = n ∧ (∀ a, a ∈ l → ok a) ∧ Rd w size A n (l.flatMap dec) ∧ n ≤ c ∧ c ≤ 9223372036854775807 := by
  obtain ⟨fuel, hf⟩ := h
  rcases open_slice ht hf with ⟨hcs, _⟩ | ⟨a, len, cap, m, n', D, Pl, hcs, hb, hl, hm, hmm, hx, hi⟩
  · simp [Value.cells] at hcs
    obtain ⟨rfl, rfl, rfl⟩ := hcs
    exact ⟨[], rfl, by simp, Rd.nil _ _ _, Nat.le_refl _, by decide⟩
  · simp [Value.cells] at hcs
    obtain ⟨rfl, rfl, rfl⟩ := hcs
    simp at hmm
    subst hmm
    have hE : ∀ i, i < n → ∃ y : α, ok y ∧ ∀ j, j < size → w.cell? (a.add (i * size + j)) = (dec y)[j]? := by
      intro i hin
      obtain ⟨cs', hc, htr⟩ := hi i (by omega)
      obtain ⟨y, hy, rfl⟩ := hF H enc w 0 _ true n' cs' _ htr
      rw [hC] at hc
      obtain ⟨_, hcl, hat⟩ := World.cells?_some hc
      exact ⟨y, hy, fun j hj => by rw [← Go.Deep.add_add]; exact hat j hj⟩
    have hL : ∀ n0, n0 ≤ n → ∃ l : List α, l.length = n0 ∧ ∀ i (h : i < l.length), ok l[i] ∧ ∀ j, j < size → w.cell? (a.add (i * size + j)) = (dec l[i])[j]? := by
      intro n0
      induction n0 with
      | zero => intro _; exact ⟨[], rfl, fun i h => by simp at h⟩
      | succ k ih =>
        intro hk
        obtain ⟨l, hl, hlp⟩ := ih (by omega)
        obtain ⟨y, hy, hyc⟩ := hE k (by omega)
        refine ⟨l ++ [y], by simp [hl], fun i h => ?_⟩
        by_cases hik : i < l.length
        · rw [List.getElem_append_left hik]; exact hlp i hik
        · have : i = k := by simp at h; omega
          subst this
          rw [List.getElem_append_right (by omega)]
          simp [hl]
          exact ⟨hy, hyc⟩
    obtain ⟨l, hll, hlp⟩ := hL n (Nat.le_refl _)
    refine ⟨l, hll, fun y hy => ?_, ⟨by rw [flatMap_length hlen, hll], fun h0 => ⟨a, rfl, ?_, fun j u hu => ?_⟩⟩, hl, hm⟩
    · obtain ⟨i, hi, rfl⟩ := List.getElem_of_mem hy
      exact (hlp i hi).1
    · have := (hlp 0 (by omega)).2 0 hs
      have h1 : (dec l[0])[0]? = some ((dec l[0])[0]'(by rw [hlen]; exact hs)) := List.getElem?_eq_getElem _
      rw [h1] at this
      have := World.block_lt_of_cell? w _ this
      rw [addr_block] at this
      exact this
    · have hj : j < l.length * size := by
        have := (List.getElem?_eq_some_iff.1 hu).1
        rwa [flatMap_length hlen] at this
      have e := Nat.div_add_mod j size
      have hd : j / size < l.length := Nat.div_lt_of_lt_mul (by rw [Nat.mul_comm]; exact hj)
      have hm := Nat.mod_lt j hs
      rw [Nat.mul_comm] at e
      have := (hlp _ hd).2 _ hm
      rw [e] at this
      rw [this, ← flatMap_at hs hlen l _ _ hd hm, e, hu]

/-- A struct by value, as its cells. -/
theorem open_flat {P : Program} {H : Type} {enc : TypeId × Value → H} {w : World} {t : TypeId} {fs : Array Field} {α : Type} {dec : α → List Value} {ok : α → Prop} {v : Value} {d : DataW H} {p : List MemPlace} {r : Reach} {base : Nat}
    (ht : P.underlying t = some (.struct fs)) (hF : Flat P t (fun cs => ∃ a, ok a ∧ cs = dec a)) (hv : Value.okWide P w r base t v) (h : DataW.Trod enc P w 0 (fun _ => true) true t v d p) :
    ∃ a, ok a ∧ v = .agg (dec a).toArray := by
  obtain ⟨cs, rfl, _⟩ := okWide_struct ht hv
  obtain ⟨fuel, hf⟩ := h
  obtain ⟨a, ha, hc⟩ := hF H enc w 0 _ true fuel _ _ hf
  refine ⟨a, ha, ?_⟩
  rw [← hc]
  simp [Value.cells]

/-- A number's value, its data left as they are. -/
theorem open_num {P : Program} {H : Type} {enc : TypeId × Value → H} {w : World} {t : TypeId} {k : IntKind} {v : Value} {d : DataW H} {p : List MemPlace} {r : Reach} {base : Nat}
    (ht : P.underlying t = some (.int k)) (hv : Value.okWide P w r base t v) (h : DataW.Trod enc P w 0 (fun _ => true) true t v d p) : ∃ n, v = .int k n ∧ (Lit.int k n).wf = true := by
  obtain ⟨n, h1, _, _, h2⟩ := open_int ht hv h
  exact ⟨n, h1, h2⟩

theorem open_truth {P : Program} {H : Type} {enc : TypeId × Value → H} {w : World} {t : TypeId} {v : Value} {d : DataW H} {p : List MemPlace} {r : Reach} {base : Nat}
    (ht : P.underlying t = some .bool) (hv : Value.okWide P w r base t v) (h : DataW.Trod enc P w 0 (fun _ => true) true t v d p) : ∃ b, v = .bool b := by
  obtain ⟨n, h1, _⟩ := open_bool ht hv h
  exact ⟨n, h1⟩

end Go.Proofs.Ytmbbcgkfankiaaa.Z
