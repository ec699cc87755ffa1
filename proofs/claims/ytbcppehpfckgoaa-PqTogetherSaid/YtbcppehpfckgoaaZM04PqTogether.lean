/- 3 texts of this claim, joined: what each shows stands at its own head. -/
import Derived.Test.YtbcppehpfckgoaaZM02PqTogether
import Derived.Test.YtbcppehpfckgoaaZM03PqTogether
import Derived.Test.YtbcppehpfckgoaaZRead
import Derived.ProofKit
import Derived.OpenShut
import Derived.ChangeOld
import Derived.SizedLaws
import Derived.Deep.Slices
/- The phase-fair lock with a queue: its operations, each whole. No program is in sight. Written by genpqops.py. -/
set_option linter.unusedVariables false
set_option linter.unusedSimpArgs false
namespace Go.Proofs.Ytbcppehpfckgoaa.Z
open Go.RowKit

section
variable {L : List Int} {c : Nat} {x y : Int}
theorem eq_ld (h : c < L.length) : doA L ⟨1, (c : Int), 0, 0, 0⟩ = (⟨1, c, 0, 0, L.getD c 0⟩, true, L) := by
  unfold doA
  rw [if_pos (by dsimp only; omega)]
  simp
theorem eq_st (h : c < L.length) : (doA L ⟨2, (c : Int), x, 0, 0⟩).2.2 = L.set c x := by
  unfold doA
  rw [if_pos (by dsimp only; omega)]
  simp
theorem eq_add (h : c < L.length) : (doA L ⟨3, (c : Int), x, 0, 0⟩).2.2 = L.set c ((L.getD c 0 + x) % 4294967296) ∧ (doA L ⟨3, (c : Int), x, 0, 0⟩).1.old = L.getD c 0 := by
  unfold doA
  rw [if_pos (by dsimp only; omega)]
  simp
theorem eq_sw (h : c < L.length) : (doA L ⟨4, (c : Int), x, 0, 0⟩).2.2 = L.set c x ∧ (doA L ⟨4, (c : Int), x, 0, 0⟩).1.old = L.getD c 0 := by
  unfold doA
  rw [if_pos (by dsimp only; omega)]
  simp
theorem eq_cas (h : c < L.length) : (doA L ⟨5, (c : Int), x, y, 0⟩).2.2 = (if L.getD c 0 = x then L.set c y else L) ∧ casB L c x y = (L.getD c 0 == x) := by
  unfold casB doA
  rw [if_pos (by dsimp only; omega)]
  by_cases h : L[c]?.getD 0 = x
  · simp [h]
  · simp [h]
end
theorem qcell_next {k i : Nat} (h2 : k ≤ 64) (hi : i < k) : cellP k 0 i = ((8 + i : Nat) : Int) := by unfold cellP; rw [if_pos (by omega)]; omega
theorem qcell_blocked {k i : Nat} (h2 : k ≤ 64) (hi : i < k) : cellP k 1 i = ((8 + k + i : Nat) : Int) := by unfold cellP; rw [if_pos (by omega)]; omega

/-- The lock's words: who came, who went, where the queue's end is, the phase; nobody is watched for. -/
def PqAt (k : Nat) (x q t p : Int) (L : List Int) : Prop := L.length = 8 + 4 * k ∧ (L.getD 0 0 = x ∧ L.getD 1 0 = q ∧ L.getD 2 0 = t ∧ L.getD 3 0 = p) ∧ ∀ i, i < k → L.getD (8 + 2 * k + i) 0 = 0
theorem getD_setq {L : List Int} {i j : Nat} {v : Int} : (L.set i v).getD j 0 = if i = j ∧ i < L.length then v else L.getD j 0 := by
  simp only [List.getD_eq_getElem?_getD, List.getElem?_set]
  by_cases h : i = j
  · subst h
    by_cases h2 : i < L.length
    · simp [h2]
    · simp [h2]
  · simp [h]
/-- Those whose link is nothing: it stays so. -/
def Nx (i : Nat) (L L' : List Int) : Prop := ∀ j : Nat, L.getD (8 + j) 0 = 0 → L'.getD (8 + j) 0 = 0
section
variable {k i : Nat} {x q t p : Int} {L : List Int}
theorem PqAt.set (h : PqAt k x q t p L) {c : Nat} {v : Int} (h0 : 8 ≤ c) (h1 : c < 8 + 2 * k) : PqAt k x q t p (L.set c v) := by
  obtain ⟨a1, ⟨a2, a3, a5, a6⟩, a4⟩ := h
  refine ⟨by simpa using a1, ⟨?_, ?_, ?_, ?_⟩, fun i hi => ?_⟩
  · rw [getD_setq, if_neg (by omega)]; exact a2
  · rw [getD_setq, if_neg (by omega)]; exact a3
  · rw [getD_setq, if_neg (by omega)]; exact a5
  · rw [getD_setq, if_neg (by omega)]; exact a6
  · rw [getD_setq, if_neg (by omega)]; exact a4 i hi
theorem PqAt.set0 (h : PqAt k x q t p L) (v : Int) : PqAt k v q t p (L.set 0 v) := by
  obtain ⟨a1, ⟨a2, a3, a5, a6⟩, a4⟩ := h
  refine ⟨by simpa using a1, ⟨?_, ?_, ?_, ?_⟩, fun i hi => ?_⟩
  · rw [getD_setq, if_pos (by omega)]
  · rw [getD_setq, if_neg (by omega)]; exact a3
  · rw [getD_setq, if_neg (by omega)]; exact a5
  · rw [getD_setq, if_neg (by omega)]; exact a6
  · rw [getD_setq, if_neg (by omega)]; exact a4 i hi
theorem PqAt.ld0 (h : PqAt k x q t p L) : doA L ⟨1, 0, 0, 0, 0⟩ = (⟨1, 0, 0, 0, x⟩, true, L) := by
  have hl := h.1
  have e := eq_ld (L := L) (c := 0) (by omega)
  rw [show L.getD 0 0 = x from h.2.1.1] at e
  exact e
theorem PqAt.add0 (h : PqAt k x q t p L) (v : Int) : ∃ L', (doA L ⟨3, 0, v, 0, 0⟩).2.2 = L' ∧ (doA L ⟨3, 0, v, 0, 0⟩).1.old = x ∧ PqAt k ((x + v) % 4294967296) q t p L' ∧ Nx i L L' := by
  have hl := h.1
  have e := eq_add (L := L) (c := 0) (x := v) (by omega)
  have hv : L.getD 0 0 = x := h.2.1.1
  rw [hv] at e
  refine ⟨_, e.1, e.2, h.set0 _, fun j hj => ?_⟩
  rw [getD_setq, if_neg (by omega)]; exact hj
theorem PqAt.cas0 (h : PqAt k x q t p L) {y : Int} (hy : x = y) (v : Int) : ∃ L', (doA L ⟨5, 0, y, v, 0⟩).2.2 = L' ∧ casB L 0 y v = true ∧ PqAt k v q t p L' ∧ Nx i L L' := by
  have hl := h.1
  have e := eq_cas (L := L) (c := 0) (x := y) (y := v) (by omega)
  have ht : L.getD 0 0 = x := h.2.1.1
  rw [if_pos (ht.trans hy)] at e
  refine ⟨_, e.1, e.2.trans (by rw [ht, hy]; simp), h.set0 v, fun j hj => ?_⟩
  rw [getD_setq, if_neg (by omega)]; exact hj
theorem PqAt.ldA0 (h : PqAt k x q t p L) : ldA L 0 = x := by
  have hl := h.1
  unfold ldA
  rw [if_pos (by omega)]
  exact h.2.1.1
theorem PqAt.set1 (h : PqAt k x q t p L) (v : Int) : PqAt k x v t p (L.set 1 v) := by
  obtain ⟨a1, ⟨a2, a3, a5, a6⟩, a4⟩ := h
  refine ⟨by simpa using a1, ⟨?_, ?_, ?_, ?_⟩, fun i hi => ?_⟩
  · rw [getD_setq, if_neg (by omega)]; exact a2
  · rw [getD_setq, if_pos (by omega)]
  · rw [getD_setq, if_neg (by omega)]; exact a5
  · rw [getD_setq, if_neg (by omega)]; exact a6
  · rw [getD_setq, if_neg (by omega)]; exact a4 i hi
theorem PqAt.ld1 (h : PqAt k x q t p L) : doA L ⟨1, 1, 0, 0, 0⟩ = (⟨1, 1, 0, 0, q⟩, true, L) := by
  have hl := h.1
  have e := eq_ld (L := L) (c := 1) (by omega)
  rw [show L.getD 1 0 = q from h.2.1.2.1] at e
  exact e
theorem PqAt.add1 (h : PqAt k x q t p L) (v : Int) : ∃ L', (doA L ⟨3, 1, v, 0, 0⟩).2.2 = L' ∧ (doA L ⟨3, 1, v, 0, 0⟩).1.old = q ∧ PqAt k x ((q + v) % 4294967296) t p L' ∧ Nx i L L' := by
  have hl := h.1
  have e := eq_add (L := L) (c := 1) (x := v) (by omega)
  have hv : L.getD 1 0 = q := h.2.1.2.1
  rw [hv] at e
  refine ⟨_, e.1, e.2, h.set1 _, fun j hj => ?_⟩
  rw [getD_setq, if_neg (by omega)]; exact hj
theorem PqAt.cas1 (h : PqAt k x q t p L) {y : Int} (hy : q = y) (v : Int) : ∃ L', (doA L ⟨5, 1, y, v, 0⟩).2.2 = L' ∧ casB L 1 y v = true ∧ PqAt k x v t p L' ∧ Nx i L L' := by
  have hl := h.1
  have e := eq_cas (L := L) (c := 1) (x := y) (y := v) (by omega)
  have ht : L.getD 1 0 = q := h.2.1.2.1
  rw [if_pos (ht.trans hy)] at e
  refine ⟨_, e.1, e.2.trans (by rw [ht, hy]; simp), h.set1 v, fun j hj => ?_⟩
  rw [getD_setq, if_neg (by omega)]; exact hj
theorem PqAt.ldA1 (h : PqAt k x q t p L) : ldA L 1 = q := by
  have hl := h.1
  unfold ldA
  rw [if_pos (by omega)]
  exact h.2.1.2.1
theorem PqAt.set2 (h : PqAt k x q t p L) (v : Int) : PqAt k x q v p (L.set 2 v) := by
  obtain ⟨a1, ⟨a2, a3, a5, a6⟩, a4⟩ := h
  refine ⟨by simpa using a1, ⟨?_, ?_, ?_, ?_⟩, fun i hi => ?_⟩
  · rw [getD_setq, if_neg (by omega)]; exact a2
  · rw [getD_setq, if_neg (by omega)]; exact a3
  · rw [getD_setq, if_pos (by omega)]
  · rw [getD_setq, if_neg (by omega)]; exact a6
  · rw [getD_setq, if_neg (by omega)]; exact a4 i hi
theorem PqAt.ld2 (h : PqAt k x q t p L) : doA L ⟨1, 2, 0, 0, 0⟩ = (⟨1, 2, 0, 0, t⟩, true, L) := by
  have hl := h.1
  have e := eq_ld (L := L) (c := 2) (by omega)
  rw [show L.getD 2 0 = t from h.2.1.2.2.1] at e
  exact e
theorem PqAt.add2 (h : PqAt k x q t p L) (v : Int) : ∃ L', (doA L ⟨3, 2, v, 0, 0⟩).2.2 = L' ∧ (doA L ⟨3, 2, v, 0, 0⟩).1.old = t ∧ PqAt k x q ((t + v) % 4294967296) p L' ∧ Nx i L L' := by
  have hl := h.1
  have e := eq_add (L := L) (c := 2) (x := v) (by omega)
  have hv : L.getD 2 0 = t := h.2.1.2.2.1
  rw [hv] at e
  refine ⟨_, e.1, e.2, h.set2 _, fun j hj => ?_⟩
  rw [getD_setq, if_neg (by omega)]; exact hj
theorem PqAt.cas2 (h : PqAt k x q t p L) {y : Int} (hy : t = y) (v : Int) : ∃ L', (doA L ⟨5, 2, y, v, 0⟩).2.2 = L' ∧ casB L 2 y v = true ∧ PqAt k x q v p L' ∧ Nx i L L' := by
  have hl := h.1
  have e := eq_cas (L := L) (c := 2) (x := y) (y := v) (by omega)
  have ht : L.getD 2 0 = t := h.2.1.2.2.1
  rw [if_pos (ht.trans hy)] at e
  refine ⟨_, e.1, e.2.trans (by rw [ht, hy]; simp), h.set2 v, fun j hj => ?_⟩
  rw [getD_setq, if_neg (by omega)]; exact hj
theorem PqAt.ldA2 (h : PqAt k x q t p L) : ldA L 2 = t := by
  have hl := h.1
  unfold ldA
  rw [if_pos (by omega)]
  exact h.2.1.2.2.1
theorem PqAt.set3 (h : PqAt k x q t p L) (v : Int) : PqAt k x q t v (L.set 3 v) := by
  obtain ⟨a1, ⟨a2, a3, a5, a6⟩, a4⟩ := h
  refine ⟨by simpa using a1, ⟨?_, ?_, ?_, ?_⟩, fun i hi => ?_⟩
  · rw [getD_setq, if_neg (by omega)]; exact a2
  · rw [getD_setq, if_neg (by omega)]; exact a3
  · rw [getD_setq, if_neg (by omega)]; exact a5
  · rw [getD_setq, if_pos (by omega)]
  · rw [getD_setq, if_neg (by omega)]; exact a4 i hi
theorem PqAt.ld3 (h : PqAt k x q t p L) : doA L ⟨1, 3, 0, 0, 0⟩ = (⟨1, 3, 0, 0, p⟩, true, L) := by
  have hl := h.1
  have e := eq_ld (L := L) (c := 3) (by omega)
  rw [show L.getD 3 0 = p from h.2.1.2.2.2] at e
  exact e
theorem PqAt.add3 (h : PqAt k x q t p L) (v : Int) : ∃ L', (doA L ⟨3, 3, v, 0, 0⟩).2.2 = L' ∧ (doA L ⟨3, 3, v, 0, 0⟩).1.old = p ∧ PqAt k x q t ((p + v) % 4294967296) L' ∧ Nx i L L' := by
  have hl := h.1
  have e := eq_add (L := L) (c := 3) (x := v) (by omega)
  have hv : L.getD 3 0 = p := h.2.1.2.2.2
  rw [hv] at e
  refine ⟨_, e.1, e.2, h.set3 _, fun j hj => ?_⟩
  rw [getD_setq, if_neg (by omega)]; exact hj
theorem PqAt.cas3 (h : PqAt k x q t p L) {y : Int} (hy : p = y) (v : Int) : ∃ L', (doA L ⟨5, 3, y, v, 0⟩).2.2 = L' ∧ casB L 3 y v = true ∧ PqAt k x q t v L' ∧ Nx i L L' := by
  have hl := h.1
  have e := eq_cas (L := L) (c := 3) (x := y) (y := v) (by omega)
  have ht : L.getD 3 0 = p := h.2.1.2.2.2
  rw [if_pos (ht.trans hy)] at e
  refine ⟨_, e.1, e.2.trans (by rw [ht, hy]; simp), h.set3 v, fun j hj => ?_⟩
  rw [getD_setq, if_neg (by omega)]; exact hj
theorem PqAt.ldA3 (h : PqAt k x q t p L) : ldA L 3 = p := by
  have hl := h.1
  unfold ldA
  rw [if_pos (by omega)]
  exact h.2.1.2.2.2
theorem PqAt.casno (h : PqAt k x q t p L) {y : Int} (hy : ¬ t = y) (v : Int) : (doA L ⟨5, 2, y, v, 0⟩).2.2 = L ∧ casB L 2 y v = false := by
  have hl := h.1
  have e := eq_cas (L := L) (c := 2) (x := y) (y := v) (by omega)
  have ht : L.getD 2 0 = t := h.2.1.2.2.1
  rw [if_neg (by rw [ht]; exact hy)] at e
  exact ⟨e.1, e.2.trans (by rw [ht]; simpa using hy)⟩
theorem PqAt.sw (h : PqAt k x q t p L) (v : Int) : ∃ L', (doA L ⟨4, 2, v, 0, 0⟩).2.2 = L' ∧ (doA L ⟨4, 2, v, 0, 0⟩).1.old = t ∧ PqAt k x q v p L' ∧ Nx i L L' := by
  have hl := h.1
  have e := eq_sw (L := L) (c := 2) (x := v) (by omega)
  refine ⟨_, e.1, e.2.trans h.2.1.2.2.1, h.set2 v, fun j hj => ?_⟩
  rw [getD_setq, if_neg (by omega)]; exact hj
theorem PqAt.st3 (h : PqAt k x q t p L) (v : Int) : ∃ L', (doA L ⟨2, 3, v, 0, 0⟩).2.2 = L' ∧ PqAt k x q t v L' ∧ Nx i L L' := by
  have hl := h.1
  refine ⟨_, eq_st (c := 3) (by omega), h.set3 v, fun j hj => ?_⟩
  rw [getD_setq, if_neg (by omega)]; exact hj
theorem PqAt.nowatch (h : PqAt k x q t p L) (h2 : k ≤ 64) (h1 : 1 ≤ k) (cc : Int) (hc : 0 ≤ cc ∧ cc ≤ 4) : NoWatch k cc L := by
  intro i h0 hi
  obtain ⟨a1, a2, a4⟩ := h
  have hcl : cellP k 2 i = 8 + 2 * k + i := by unfold cellP; rw [if_pos (by omega)]
  have hlt : 0 ≤ 8 + 2 * (k : Int) + i ∧ 8 + 2 * (k : Int) + i < (L.length : Int) := by omega
  have hg : L.getD (8 + 2 * (k : Int) + i).toNat 0 = 0 := by
    have := a4 i.toNat (by omega)
    rw [show (8 + 2 * (k : Int) + i).toNat = 8 + 2 * k + i.toNat from by omega]
    exact this
  rw [hcl]
  unfold doA
  rw [if_pos hlt]
  refine ⟨by simp, ?_⟩
  simp only [if_true]
  rw [hg]
  omega
theorem PqAt.st_next (h : PqAt k x q t p L) (h2 : k ≤ 64) (hi : i < k) : ∃ L', (doA L ⟨2, cellP k 0 i, 0, 0, 0⟩).2.2 = L' ∧ PqAt k x q t p L' ∧ L'.getD (8 + i) 0 = 0 ∧ Nx i L L' := by
  have hl := h.1
  rw [qcell_next h2 hi]
  refine ⟨_, eq_st (by omega), h.set (by omega) (by omega), ?_, fun j hj => ?_⟩
  · rw [getD_setq, if_pos (by omega)]
  · rw [getD_setq]; split; rfl; exact hj
theorem PqAt.st_blocked (h : PqAt k x q t p L) (h2 : k ≤ 64) (hi : i < k) : ∃ L', (doA L ⟨2, cellP k 1 i, 1, 0, 0⟩).2.2 = L' ∧ PqAt k x q t p L' ∧ (∀ j, j < k → L.getD (8 + j) 0 = 0 → L'.getD (8 + j) 0 = 0) := by
  have hl := h.1
  rw [qcell_blocked h2 hi]
  refine ⟨_, eq_st (by omega), h.set (by omega) (by omega), fun j hj hz => ?_⟩
  rw [getD_setq, if_neg (by omega)]; exact hz
theorem PqAt.ld_next (h : PqAt k x q t p L) (h2 : k ≤ 64) (hi : i < k) (hz : L.getD (8 + i) 0 = 0) : (doA L ⟨1, cellP k 0 i, 0, 0, 0⟩).2.2 = L ∧ (doA L ⟨1, cellP k 0 i, 0, 0, 0⟩).1.old = 0 := by
  have hl := h.1
  rw [qcell_next h2 hi, eq_ld (by omega)]
  exact ⟨rfl, hz⟩
theorem PqAt.wait (h : PqAt k x q t p L) (n mode task : Int) (pr : Int → Bool) (hp : pr q = true) : waitA L n mode task 0 1 pr = ⟨0, ⟨1, 1, 0, 0, q⟩, true, true, L⟩ := by
  rw [wait_hit (by rw [h.ld1]; exact hp), h.ld1]
end
def PqW (q p : Int) : Prop := (0 ≤ q ∧ q < 4294967296) ∧ q % 256 = 0 ∧ (0 ≤ p ∧ p < 4294967296)
/-- So many read; one writes. -/
def PqReads (k j : Nat) (L : List Int) : Prop := ∃ q p : Int, PqAt k ((q + 256 * j) % 4294967296) q 0 p L ∧ PqW q p
def PqWrites (k t : Nat) (L : List Int) : Prop := ∃ q p : Int, (PqAt k ((q + pfP p) % 4294967296) q (t + 1) p L ∧ PqW q p) ∧ L.getD (8 + t) 0 = 0
theorem pfP_is (p : Int) : pfP p = 2 ∨ pfP p = 3 := by unfold pfP; omega

set_option maxHeartbeats 1600000 in
theorem pq_ops (k : Nat) (d : Int) (h1 : 1 ≤ k) (h2 : k ≤ 64) : OpsT pqA k d (PqReads k) (PqWrites k) := by
  refine ⟨pq_step_same, ?_, ?_, ?_, ?_, ?_, ?_, ?_, ?_, ?_, ?_⟩
  · rintro i j op hi hj hop L ⟨q, p, hL, hq, hq4, hp⟩
    have hown : ((i : Int) + 1) % 4294967296 = i + 1 := by omega
    have hne : ¬ ((i : Int) + 1 = 0) := by omega
    rcases hop with rfl | rfl
    · have hm : ((q + 256 * (j : Int)) % 4294967296) % 4 = 0 := by omega
      have hb : (((q + 256 * (j : Int)) % 4294967296) + 256) % 4294967296 = (q + 256 * ((j + 1 : Nat) : Int)) % 4294967296 := by omega
      generalize hx : (q + 256 * (j : Int)) % 4294967296 = x at hL hm hb
      obtain ⟨L1, hs, ho, hF, hn⟩ := PqAt.add0 (i := i) hL 256
      rw [hb] at hF
      obtain ⟨s1, e1⟩ : ∃ s1, pqA (RnT k d i 1 0 0 0 L) = s1 := ⟨_, rfl⟩
      have e2 := e1
      simp [AtT, RnT, pqA, pfR10, pfR20, pfR50, pfR51, pqLock, pqEnter, pqLeave, pqTry, pqDecide, pqGive, pqIn6, pqIn7, pqLast6, pqLast7, mxEnter, mxE0, mxE1, mxE2, mxGive, mxG0, mxG1, mxTry, mxOwn, wrap64, Rn.fresh, Rn.rests, Rn.did, Rn.setA, Rn.setB, Rn.note, Rn.noted, Rn.goto, Rn.fin, Rn.wake, Rn.waited, Wk.zero, hown, hs, ho, hm] at e2
      subst e2
      refine ⟨1, _, by omega, ((startT_at k d i 1 L).fin (by rw [e1]; simp) (by rw [e1]; rfl)), by rw [e1], by rw [e1], ?_⟩
      rw [e1]
      exact ⟨q, p, hF, hq, hq4, hp⟩
    · have hm : ((q + 256 * (j : Int)) % 4294967296) % 4 = 0 := by omega
      have hb : (((q + 256 * (j : Int)) % 4294967296) + 256) % 4294967296 = (q + 256 * ((j + 1 : Nat) : Int)) % 4294967296 := by omega
      generalize hx : (q + 256 * (j : Int)) % 4294967296 = x at hL hm hb
      generalize hy : (q + 256 * ((j + 1 : Nat) : Int)) % 4294967296 = y at hb
      have hl := hL.ld0
      obtain ⟨L1, hs, ho, hF, hn⟩ := PqAt.cas0 (i := i) hL rfl ((x + 256) % 4294967296)
      have k0 : AtT k d i (pqA (RnT k d i 5 0 0 0 L)) 5 1 x 0 L := by simp [AtT, RnT, pqA, pfR10, pfR20, pfR50, pfR51, pqLock, pqEnter, pqLeave, pqTry, pqDecide, pqGive, pqIn6, pqIn7, pqLast6, pqLast7, mxEnter, mxE0, mxE1, mxE2, mxGive, mxG0, mxG1, mxTry, mxOwn, wrap64, Rn.fresh, Rn.rests, Rn.did, Rn.setA, Rn.setB, Rn.note, Rn.noted, Rn.goto, Rn.fin, Rn.wake, Rn.waited, Wk.zero, hown, hl, hm]
      rw [hb] at hF hs ho
      obtain ⟨s1, e1⟩ : ∃ s1, pqA (RnT k d i 5 1 x 0 L) = s1 := ⟨_, rfl⟩
      have e2 := e1
      simp [AtT, RnT, pqA, pfR10, pfR20, pfR50, pfR51, pqLock, pqEnter, pqLeave, pqTry, pqDecide, pqGive, pqIn6, pqIn7, pqLast6, pqLast7, mxEnter, mxE0, mxE1, mxE2, mxGive, mxG0, mxG1, mxTry, mxOwn, wrap64, Rn.fresh, Rn.rests, Rn.did, Rn.setA, Rn.setB, Rn.note, Rn.noted, Rn.goto, Rn.fin, Rn.wake, Rn.waited, Wk.zero, hown, hs, ho, hb] at e2
      subst e2
      refine ⟨2, _, by omega, ((startT_at k d i 5 L).go k0 (by decide) (k0.fin (by rw [e1]; simp) (by rw [e1]; rfl))), by rw [e1], by rw [e1], ?_⟩
      rw [e1]
      exact ⟨q, p, by rw [hy]; exact hF, hq, hq4, hp⟩
  · rintro i j hi hj L ⟨q, p, hL, hq, hq4, hp⟩
    have hown : ((i : Int) + 1) % 4294967296 = i + 1 := by omega
    have hne : ¬ ((i : Int) + 1 = 0) := by omega
    have hb : (q + 256 * ((j + 1 : Nat) : Int)) % 4294967296 = ((q + 256) % 4294967296 + 256 * (j : Int)) % 4294967296 := by omega
    rw [hb] at hL
    obtain ⟨L1, hs, ho, hF, hn⟩ := PqAt.add1 (i := i) hL 256
    obtain ⟨s1, e1⟩ : ∃ s1, pqA (RnT k d i 2 0 0 0 L) = s1 := ⟨_, rfl⟩
    have e2 := e1
    simp [AtT, RnT, pqA, pfR10, pfR20, pfR50, pfR51, pqLock, pqEnter, pqLeave, pqTry, pqDecide, pqGive, pqIn6, pqIn7, pqLast6, pqLast7, mxEnter, mxE0, mxE1, mxE2, mxGive, mxG0, mxG1, mxTry, mxOwn, wrap64, Rn.fresh, Rn.rests, Rn.did, Rn.setA, Rn.setB, Rn.note, Rn.noted, Rn.goto, Rn.fin, Rn.wake, Rn.waited, Wk.zero, hown, hs, ho] at e2
    subst e2
    obtain ⟨n, s', h3, h4, h5, h6, h7⟩ := AtT.ends (g := pqA) (startT_at k d i 2 L) 1 e1 (by simp) (by simp) rfl (by simp; omega) (hF.nowatch h2 h1 1 (by omega))
    refine ⟨_, s', by simp at h3; omega, h4, h6, h7, ?_⟩
    rw [h5]
    exact ⟨(q + 256) % 4294967296, p, hF, by omega, by omega, hp⟩
  · rintro i hi L ⟨q, p, hL, hq, hq4, hp⟩
    have hown : ((i : Int) + 1) % 4294967296 = i + 1 := by omega
    have hne : ¬ ((i : Int) + 1 = 0) := by omega
    have hx0 : (q + 256 * ((0 : Nat) : Int)) % 4294967296 = q := by omega
    rw [hx0] at hL
    obtain ⟨L1, hs1, hF1, hz1, hn1⟩ := PqAt.st_next hL h2 hi
    obtain ⟨L2, hs2, hF2, hn2⟩ := PqAt.st_blocked hF1 h2 hi
    have hz2 := hn2 i hi hz1
    obtain ⟨L3, hs3, ho3, hF3, hn3⟩ := PqAt.sw (i := i) hF2 (i + 1)
    have hz3 := hn3 i hz2
    have k0 : AtT k d i (pqA (RnT k d i 3 0 0 0 L)) 3 1 0 0 L1 := by simp [AtT, RnT, pqA, pfR10, pfR20, pfR50, pfR51, pqLock, pqEnter, pqLeave, pqTry, pqDecide, pqGive, pqIn6, pqIn7, pqLast6, pqLast7, mxEnter, mxE0, mxE1, mxE2, mxGive, mxG0, mxG1, mxTry, mxOwn, wrap64, Rn.fresh, Rn.rests, Rn.did, Rn.setA, Rn.setB, Rn.note, Rn.noted, Rn.goto, Rn.fin, Rn.wake, Rn.waited, Wk.zero, hown, hs1]
    have k1 : AtT k d i (pqA (RnT k d i 3 1 0 0 L1)) 3 2 0 0 L2 := by simp [AtT, RnT, pqA, pfR10, pfR20, pfR50, pfR51, pqLock, pqEnter, pqLeave, pqTry, pqDecide, pqGive, pqIn6, pqIn7, pqLast6, pqLast7, mxEnter, mxE0, mxE1, mxE2, mxGive, mxG0, mxG1, mxTry, mxOwn, wrap64, Rn.fresh, Rn.rests, Rn.did, Rn.setA, Rn.setB, Rn.note, Rn.noted, Rn.goto, Rn.fin, Rn.wake, Rn.waited, Wk.zero, hown, hs2]
    have k2 : AtT k d i (pqA (RnT k d i 3 2 0 0 L2)) 3 5 0 0 L3 := by simp [AtT, RnT, pqA, pfR10, pfR20, pfR50, pfR51, pqLock, pqEnter, pqLeave, pqTry, pqDecide, pqGive, pqIn6, pqIn7, pqLast6, pqLast7, mxEnter, mxE0, mxE1, mxE2, mxGive, mxG0, mxG1, mxTry, mxOwn, wrap64, Rn.fresh, Rn.rests, Rn.did, Rn.setA, Rn.setB, Rn.note, Rn.noted, Rn.goto, Rn.fin, Rn.wake, Rn.waited, Wk.zero, hown, hs3, ho3]
    have hl3 := hF3.ld3
    obtain ⟨L4, hs4, ho4, hF4, hn4⟩ := PqAt.add0 (i := i) hF3 (pfP p)
    have hw4 := hF4.wait k d i (fun v => v == q) (by simp)
    have k3 : AtT k d i (pqA (RnT k d i 3 5 0 0 L3)) 3 6 0 p L3 := by simp [AtT, RnT, pqA, pfR10, pfR20, pfR50, pfR51, pqLock, pqEnter, pqLeave, pqTry, pqDecide, pqGive, pqIn6, pqIn7, pqLast6, pqLast7, mxEnter, mxE0, mxE1, mxE2, mxGive, mxG0, mxG1, mxTry, mxOwn, wrap64, Rn.fresh, Rn.rests, Rn.did, Rn.setA, Rn.setB, Rn.note, Rn.noted, Rn.goto, Rn.fin, Rn.wake, Rn.waited, Wk.zero, hown, hl3]
    have k4 : AtT k d i (pqA (RnT k d i 3 6 0 p L3)) 3 7 q p L4 := by simp [AtT, RnT, pqA, pfR10, pfR20, pfR50, pfR51, pqLock, pqEnter, pqLeave, pqTry, pqDecide, pqGive, pqIn6, pqIn7, pqLast6, pqLast7, mxEnter, mxE0, mxE1, mxE2, mxGive, mxG0, mxG1, mxTry, mxOwn, wrap64, Rn.fresh, Rn.rests, Rn.did, Rn.setA, Rn.setB, Rn.note, Rn.noted, Rn.goto, Rn.fin, Rn.wake, Rn.waited, Wk.zero, hown, hs4, ho4]
    obtain ⟨s1, e1⟩ : ∃ s1, pqA (RnT k d i 3 7 q p L4) = s1 := ⟨_, rfl⟩
    have e2 := e1
    simp [AtT, RnT, pqA, pfR10, pfR20, pfR50, pfR51, pqLock, pqEnter, pqLeave, pqTry, pqDecide, pqGive, pqIn6, pqIn7, pqLast6, pqLast7, mxEnter, mxE0, mxE1, mxE2, mxGive, mxG0, mxG1, mxTry, mxOwn, wrap64, Rn.fresh, Rn.rests, Rn.did, Rn.setA, Rn.setB, Rn.note, Rn.noted, Rn.goto, Rn.fin, Rn.wake, Rn.waited, Wk.zero, hown, hw4] at e2
    subst e2
    refine ⟨6, _, by omega, ((startT_at k d i 3 L).go k0 (by decide) (k0.go k1 (by decide) (k1.go k2 (by decide) (k2.go k3 (by decide) (k3.go k4 (by decide) (k4.fin (by rw [e1]; simp) (by rw [e1]; rfl))))))), by rw [e1], by rw [e1], ?_⟩
    rw [e1]
    exact ⟨q, p, ⟨hF4, hq, hq4, hp⟩, hn4 i hz3⟩
  · rintro i hi L ⟨q, p, ⟨hL, hq, hq4, hp⟩, hz⟩
    have hown : ((i : Int) + 1) % 4294967296 = i + 1 := by omega
    have hne : ¬ ((i : Int) + 1 = 0) := by omega
    have hl0 := hL.ld3
    obtain ⟨L1, hs1, ho1, hF1, hn1⟩ := PqAt.add0 (i := i) hL (-pfP p % 4294967296)
    have hz1 := hn1 i hz
    have hb : ((q + pfP p) % 4294967296 + -pfP p % 4294967296) % 4294967296 = (q + 256 * ((0 : Nat) : Int)) % 4294967296 := by have := pfP_is p; omega
    rw [hb] at hF1
    have k0 : AtT k d i (pqA (RnT k d i 4 0 0 0 L)) 4 1 0 p L := by simp [AtT, RnT, pqA, pfR10, pfR20, pfR50, pfR51, pqLock, pqEnter, pqLeave, pqTry, pqDecide, pqGive, pqIn6, pqIn7, pqLast6, pqLast7, mxEnter, mxE0, mxE1, mxE2, mxGive, mxG0, mxG1, mxTry, mxOwn, wrap64, Rn.fresh, Rn.rests, Rn.did, Rn.setA, Rn.setB, Rn.note, Rn.noted, Rn.goto, Rn.fin, Rn.wake, Rn.waited, Wk.zero, hown, hl0]
    obtain ⟨s1, e1⟩ : ∃ s1, pqA (RnT k d i 4 1 0 p L) = s1 := ⟨_, rfl⟩
    have e2 := e1
    simp [AtT, RnT, pqA, pfR10, pfR20, pfR50, pfR51, pqLock, pqEnter, pqLeave, pqTry, pqDecide, pqGive, pqIn6, pqIn7, pqLast6, pqLast7, mxEnter, mxE0, mxE1, mxE2, mxGive, mxG0, mxG1, mxTry, mxOwn, wrap64, Rn.fresh, Rn.rests, Rn.did, Rn.setA, Rn.setB, Rn.note, Rn.noted, Rn.goto, Rn.fin, Rn.wake, Rn.waited, Wk.zero, hown, hs1, ho1] at e2
    obtain ⟨qm, s2, hqm, k1, hgo⟩ := AtT.mid (g := pqA) k0 (line' := 2) (a' := 0) (b' := p) (L' := L1) 0 e1 (by rw [← e2]; simp [Rn.rests, RnT, Wk.zero]) (by decide) (by rw [← e2]) (by omega) (hF1.nowatch h2 h1 0 (by omega))
    obtain ⟨L2, hs2, hF2, hn2⟩ := PqAt.st3 (i := i) hF1 ((p + 1) % 4294967296)
    have hz2 := hn2 i hz1
    obtain ⟨g1, g2⟩ := hF2.ld_next h2 hi hz2
    obtain ⟨L9, hs9, hb9, hF9, hn9⟩ := PqAt.cas2 (i := i) hF2 rfl 0
    have k2 : AtT k d i (pqA (RnT k d i 4 2 0 p L1)) 4 3 0 p L2 := by simp [AtT, RnT, pqA, pfR10, pfR20, pfR50, pfR51, pqLock, pqEnter, pqLeave, pqTry, pqDecide, pqGive, pqIn6, pqIn7, pqLast6, pqLast7, mxEnter, mxE0, mxE1, mxE2, mxGive, mxG0, mxG1, mxTry, mxOwn, wrap64, Rn.fresh, Rn.rests, Rn.did, Rn.setA, Rn.setB, Rn.note, Rn.noted, Rn.goto, Rn.fin, Rn.wake, Rn.waited, Wk.zero, hown, hs2]
    have k3 : AtT k d i (pqA (RnT k d i 4 3 0 p L2)) 4 4 0 p L2 := by simp [AtT, RnT, pqA, pfR10, pfR20, pfR50, pfR51, pqLock, pqEnter, pqLeave, pqTry, pqDecide, pqGive, pqIn6, pqIn7, pqLast6, pqLast7, mxEnter, mxE0, mxE1, mxE2, mxGive, mxG0, mxG1, mxTry, mxOwn, wrap64, Rn.fresh, Rn.rests, Rn.did, Rn.setA, Rn.setB, Rn.note, Rn.noted, Rn.goto, Rn.fin, Rn.wake, Rn.waited, Wk.zero, hown, g1, g2]
    obtain ⟨s3, e3⟩ : ∃ s3, pqA (RnT k d i 4 4 0 p L2) = s3 := ⟨_, rfl⟩
    have e4 := e3
    simp [AtT, RnT, pqA, pfR10, pfR20, pfR50, pfR51, pqLock, pqEnter, pqLeave, pqTry, pqDecide, pqGive, pqIn6, pqIn7, pqLast6, pqLast7, mxEnter, mxE0, mxE1, mxE2, mxGive, mxG0, mxG1, mxTry, mxOwn, wrap64, Rn.fresh, Rn.rests, Rn.did, Rn.setA, Rn.setB, Rn.note, Rn.noted, Rn.goto, Rn.fin, Rn.wake, Rn.waited, Wk.zero, hown, hs9, hb9] at e4
    subst e4
    refine ⟨_, _, ?_, (startT_at k d i 4 L).go k0 (by decide) (hgo _ _ (k1.go k2 (by decide) (k2.go k3 (by decide) (k3.fin (by rw [e3]; simp) (by rw [e3]; rfl))))), by rw [e3], by rw [e3], ?_⟩
    · omega
    rw [e3]
    exact ⟨q, _, hF9, hq, hq4, by omega⟩
  · rintro i hi L ⟨q, p, hL, hq, hq4, hp⟩
    have hown : ((i : Int) + 1) % 4294967296 = i + 1 := by omega
    have hne : ¬ ((i : Int) + 1 = 0) := by omega
    have hx0 : (q + 256 * ((0 : Nat) : Int)) % 4294967296 = q := by omega
    rw [hx0] at hL
    obtain ⟨L1, hs1, hF1, hz1, hn1⟩ := PqAt.st_next hL h2 hi
    obtain ⟨L3, hs3, hb3, hF3, hn3⟩ := PqAt.cas2 (i := i) hF1 rfl (i + 1)
    have hz3 := hn3 i hz1
    have hr0 := hF3.ld0
    have hr1 := hF3.ld1
    have hr3 := hF3.ld3
    have k0 : AtT k d i (pqA (RnT k d i 6 0 0 0 L)) 6 1 0 0 L1 := by simp [AtT, RnT, pqA, pfR10, pfR20, pfR50, pfR51, pqLock, pqEnter, pqLeave, pqTry, pqDecide, pqGive, pqIn6, pqIn7, pqLast6, pqLast7, mxEnter, mxE0, mxE1, mxE2, mxGive, mxG0, mxG1, mxTry, mxOwn, wrap64, Rn.fresh, Rn.rests, Rn.did, Rn.setA, Rn.setB, Rn.note, Rn.noted, Rn.goto, Rn.fin, Rn.wake, Rn.waited, Wk.zero, hown, hs1]
    have k1 : AtT k d i (pqA (RnT k d i 6 1 0 0 L1)) 6 2 0 0 L3 := by simp [AtT, RnT, pqA, pfR10, pfR20, pfR50, pfR51, pqLock, pqEnter, pqLeave, pqTry, pqDecide, pqGive, pqIn6, pqIn7, pqLast6, pqLast7, mxEnter, mxE0, mxE1, mxE2, mxGive, mxG0, mxG1, mxTry, mxOwn, wrap64, Rn.fresh, Rn.rests, Rn.did, Rn.setA, Rn.setB, Rn.note, Rn.noted, Rn.goto, Rn.fin, Rn.wake, Rn.waited, Wk.zero, hown, hs3, hb3]
    have k2 : AtT k d i (pqA (RnT k d i 6 2 0 0 L3)) 6 3 q 0 L3 := by simp [AtT, RnT, pqA, pfR10, pfR20, pfR50, pfR51, pqLock, pqEnter, pqLeave, pqTry, pqDecide, pqGive, pqIn6, pqIn7, pqLast6, pqLast7, mxEnter, mxE0, mxE1, mxE2, mxGive, mxG0, mxG1, mxTry, mxOwn, wrap64, Rn.fresh, Rn.rests, Rn.did, Rn.setA, Rn.setB, Rn.note, Rn.noted, Rn.goto, Rn.fin, Rn.wake, Rn.waited, Wk.zero, hown, hr0]
    have ha0 : ¬ 0 < aheadA q q := by unfold aheadA; omega
    obtain ⟨L4, hs4, ho4, hF4, hn4⟩ := PqAt.add0 (i := i) hF3 (pfP p)
    have hw4 := hF4.wait k d i (fun v => v == q) (by simp)
    have k3 : AtT k d i (pqA (RnT k d i 6 3 q 0 L3)) 6 4 q q L3 := by simp [AtT, RnT, pqA, pfR10, pfR20, pfR50, pfR51, pqLock, pqEnter, pqLeave, pqTry, pqDecide, pqGive, pqIn6, pqIn7, pqLast6, pqLast7, mxEnter, mxE0, mxE1, mxE2, mxGive, mxG0, mxG1, mxTry, mxOwn, wrap64, Rn.fresh, Rn.rests, Rn.did, Rn.setA, Rn.setB, Rn.note, Rn.noted, Rn.goto, Rn.fin, Rn.wake, Rn.waited, Wk.zero, hown, hr1, ha0]
    have k4 : AtT k d i (pqA (RnT k d i 6 4 q q L3)) 6 5 q p L3 := by simp [AtT, RnT, pqA, pfR10, pfR20, pfR50, pfR51, pqLock, pqEnter, pqLeave, pqTry, pqDecide, pqGive, pqIn6, pqIn7, pqLast6, pqLast7, mxEnter, mxE0, mxE1, mxE2, mxGive, mxG0, mxG1, mxTry, mxOwn, wrap64, Rn.fresh, Rn.rests, Rn.did, Rn.setA, Rn.setB, Rn.note, Rn.noted, Rn.goto, Rn.fin, Rn.wake, Rn.waited, Wk.zero, hown, hr3]
    have k5 : AtT k d i (pqA (RnT k d i 6 5 q p L3)) 6 6 q p L4 := by simp [AtT, RnT, pqA, pfR10, pfR20, pfR50, pfR51, pqLock, pqEnter, pqLeave, pqTry, pqDecide, pqGive, pqIn6, pqIn7, pqLast6, pqLast7, mxEnter, mxE0, mxE1, mxE2, mxGive, mxG0, mxG1, mxTry, mxOwn, wrap64, Rn.fresh, Rn.rests, Rn.did, Rn.setA, Rn.setB, Rn.note, Rn.noted, Rn.goto, Rn.fin, Rn.wake, Rn.waited, Wk.zero, hown, hs4, ho4]
    obtain ⟨s1, e1⟩ : ∃ s1, pqA (RnT k d i 6 6 q p L4) = s1 := ⟨_, rfl⟩
    have e2 := e1
    simp [AtT, RnT, pqA, pfR10, pfR20, pfR50, pfR51, pqLock, pqEnter, pqLeave, pqTry, pqDecide, pqGive, pqIn6, pqIn7, pqLast6, pqLast7, mxEnter, mxE0, mxE1, mxE2, mxGive, mxG0, mxG1, mxTry, mxOwn, wrap64, Rn.fresh, Rn.rests, Rn.did, Rn.setA, Rn.setB, Rn.note, Rn.noted, Rn.goto, Rn.fin, Rn.wake, Rn.waited, Wk.zero, hown, hw4] at e2
    subst e2
    refine ⟨7, _, by omega, ((startT_at k d i 6 L).go k0 (by decide) (k0.go k1 (by decide) (k1.go k2 (by decide) (k2.go k3 (by decide) (k3.go k4 (by decide) (k4.go k5 (by decide) (k5.fin (by rw [e1]; simp) (by rw [e1]; rfl)))))))), by rw [e1], by rw [e1], ?_⟩
    rw [e1]
    exact ⟨q, p, ⟨hF4, hq, hq4, hp⟩, hn4 i hz3⟩
  · rintro i j hi hj L ⟨q, p, hL, hq, hq4, hp⟩
    have hown : ((i : Int) + 1) % 4294967296 = i + 1 := by omega
    have hne : ¬ ((i : Int) + 1 = 0) := by omega
    have ha0 : 0 < aheadA ((q + 256 * ((j + 1 : Nat) : Int)) % 4294967296) q := by unfold aheadA; omega
    generalize hx : (q + 256 * ((j + 1 : Nat) : Int)) % 4294967296 = x at hL ha0
    obtain ⟨L1, hs1, hF1, hz1, hn1⟩ := PqAt.st_next hL h2 hi
    obtain ⟨L3, hs3, hb3, hF3, hn3⟩ := PqAt.cas2 (i := i) hF1 rfl (i + 1)
    have hz3 := hn3 i hz1
    have hr0 := hF3.ld0
    have hr1 := hF3.ld1
    have hr3 := hF3.ld3
    have k0 : AtT k d i (pqA (RnT k d i 6 0 0 0 L)) 6 1 0 0 L1 := by simp [AtT, RnT, pqA, pfR10, pfR20, pfR50, pfR51, pqLock, pqEnter, pqLeave, pqTry, pqDecide, pqGive, pqIn6, pqIn7, pqLast6, pqLast7, mxEnter, mxE0, mxE1, mxE2, mxGive, mxG0, mxG1, mxTry, mxOwn, wrap64, Rn.fresh, Rn.rests, Rn.did, Rn.setA, Rn.setB, Rn.note, Rn.noted, Rn.goto, Rn.fin, Rn.wake, Rn.waited, Wk.zero, hown, hs1]
    have k1 : AtT k d i (pqA (RnT k d i 6 1 0 0 L1)) 6 2 0 0 L3 := by simp [AtT, RnT, pqA, pfR10, pfR20, pfR50, pfR51, pqLock, pqEnter, pqLeave, pqTry, pqDecide, pqGive, pqIn6, pqIn7, pqLast6, pqLast7, mxEnter, mxE0, mxE1, mxE2, mxGive, mxG0, mxG1, mxTry, mxOwn, wrap64, Rn.fresh, Rn.rests, Rn.did, Rn.setA, Rn.setB, Rn.note, Rn.noted, Rn.goto, Rn.fin, Rn.wake, Rn.waited, Wk.zero, hown, hs3, hb3]
    have k2 : AtT k d i (pqA (RnT k d i 6 2 0 0 L3)) 6 3 x 0 L3 := by simp [AtT, RnT, pqA, pfR10, pfR20, pfR50, pfR51, pqLock, pqEnter, pqLeave, pqTry, pqDecide, pqGive, pqIn6, pqIn7, pqLast6, pqLast7, mxEnter, mxE0, mxE1, mxE2, mxGive, mxG0, mxG1, mxTry, mxOwn, wrap64, Rn.fresh, Rn.rests, Rn.did, Rn.setA, Rn.setB, Rn.note, Rn.noted, Rn.goto, Rn.fin, Rn.wake, Rn.waited, Wk.zero, hown, hr0]
    have k3 : AtT k d i (pqA (RnT k d i 6 3 x 0 L3)) 6 8 x q L3 := by simp [AtT, RnT, pqA, pfR10, pfR20, pfR50, pfR51, pqLock, pqEnter, pqLeave, pqTry, pqDecide, pqGive, pqIn6, pqIn7, pqLast6, pqLast7, mxEnter, mxE0, mxE1, mxE2, mxGive, mxG0, mxG1, mxTry, mxOwn, wrap64, Rn.fresh, Rn.rests, Rn.did, Rn.setA, Rn.setB, Rn.note, Rn.noted, Rn.goto, Rn.fin, Rn.wake, Rn.waited, Wk.zero, hown, hr1, ha0]
    obtain ⟨g1, g2⟩ := hF3.ld_next h2 hi hz3
    obtain ⟨L9, hs9, hb9, hF9, hn9⟩ := PqAt.cas2 (i := i) hF3 rfl 0
    have m0 : AtT k d i (pqA (RnT k d i 6 8 x q L3)) 6 9 0 q L3 := by simp [AtT, RnT, pqA, pfR10, pfR20, pfR50, pfR51, pqLock, pqEnter, pqLeave, pqTry, pqDecide, pqGive, pqIn6, pqIn7, pqLast6, pqLast7, mxEnter, mxE0, mxE1, mxE2, mxGive, mxG0, mxG1, mxTry, mxOwn, wrap64, Rn.fresh, Rn.rests, Rn.did, Rn.setA, Rn.setB, Rn.note, Rn.noted, Rn.goto, Rn.fin, Rn.wake, Rn.waited, Wk.zero, hown, g1, g2]
    obtain ⟨s1, e1⟩ : ∃ s1, pqA (RnT k d i 6 9 0 q L3) = s1 := ⟨_, rfl⟩
    have e2 := e1
    simp [AtT, RnT, pqA, pfR10, pfR20, pfR50, pfR51, pqLock, pqEnter, pqLeave, pqTry, pqDecide, pqGive, pqIn6, pqIn7, pqLast6, pqLast7, mxEnter, mxE0, mxE1, mxE2, mxGive, mxG0, mxG1, mxTry, mxOwn, wrap64, Rn.fresh, Rn.rests, Rn.did, Rn.setA, Rn.setB, Rn.note, Rn.noted, Rn.goto, Rn.fin, Rn.wake, Rn.waited, Wk.zero, hown, hs9, hb9] at e2
    subst e2
    refine ⟨6, _, by omega, ((startT_at k d i 6 L).go k0 (by decide) (k0.go k1 (by decide) (k1.go k2 (by decide) (k2.go k3 (by decide) (k3.go m0 (by decide) (m0.fin (by rw [e1]; simp) (by rw [e1]; rfl))))))), by rw [e1], by rw [e1], ?_⟩
    rw [e1]
    exact ⟨q, p, by rw [hx]; exact hF9, hq, hq4, hp⟩
  · rintro i z hi hz1 L ⟨q, p, ⟨hL, hq, hq4, hp⟩, hz⟩
    have hown : ((i : Int) + 1) % 4294967296 = i + 1 := by omega
    have hne : ¬ ((i : Int) + 1 = 0) := by omega
    obtain ⟨L1, hs1, hF1, hz2, hn1⟩ := PqAt.st_next hL h2 hi
    obtain ⟨g1, g2⟩ := hF1.casno (y := 0) (by omega) (i + 1)
    have k0 : AtT k d i (pqA (RnT k d i 6 0 0 0 L)) 6 1 0 0 L1 := by simp [AtT, RnT, pqA, pfR10, pfR20, pfR50, pfR51, pqLock, pqEnter, pqLeave, pqTry, pqDecide, pqGive, pqIn6, pqIn7, pqLast6, pqLast7, mxEnter, mxE0, mxE1, mxE2, mxGive, mxG0, mxG1, mxTry, mxOwn, wrap64, Rn.fresh, Rn.rests, Rn.did, Rn.setA, Rn.setB, Rn.note, Rn.noted, Rn.goto, Rn.fin, Rn.wake, Rn.waited, Wk.zero, hown, hs1]
    obtain ⟨s1, e1⟩ : ∃ s1, pqA (RnT k d i 6 1 0 0 L1) = s1 := ⟨_, rfl⟩
    have e2 := e1
    simp [AtT, RnT, pqA, pfR10, pfR20, pfR50, pfR51, pqLock, pqEnter, pqLeave, pqTry, pqDecide, pqGive, pqIn6, pqIn7, pqLast6, pqLast7, mxEnter, mxE0, mxE1, mxE2, mxGive, mxG0, mxG1, mxTry, mxOwn, wrap64, Rn.fresh, Rn.rests, Rn.did, Rn.setA, Rn.setB, Rn.note, Rn.noted, Rn.goto, Rn.fin, Rn.wake, Rn.waited, Wk.zero, hown, g1, g2] at e2
    subst e2
    refine ⟨2, _, by omega, ((startT_at k d i 6 L).go k0 (by decide) (k0.fin (by rw [e1]; simp) (by rw [e1]; rfl))), by rw [e1], by rw [e1], ?_⟩
    rw [e1]
    exact ⟨q, p, ⟨hF1, hq, hq4, hp⟩, hn1 z hz⟩
  · rintro i z hi hz1 L ⟨q, p, ⟨hL, hq, hq4, hp⟩, hz⟩
    have hown : ((i : Int) + 1) % 4294967296 = i + 1 := by omega
    have hne : ¬ ((i : Int) + 1 = 0) := by omega
    have hm : ¬ ((q + pfP p) % 4294967296) % 4 = 0 := by have := pfP_is p; omega
    generalize hx : (q + pfP p) % 4294967296 = x at hL hm
    have hl := hL.ld0
    obtain ⟨s1, e1⟩ : ∃ s1, pqA (RnT k d i 5 0 0 0 L) = s1 := ⟨_, rfl⟩
    have e2 := e1
    simp [AtT, RnT, pqA, pfR10, pfR20, pfR50, pfR51, pqLock, pqEnter, pqLeave, pqTry, pqDecide, pqGive, pqIn6, pqIn7, pqLast6, pqLast7, mxEnter, mxE0, mxE1, mxE2, mxGive, mxG0, mxG1, mxTry, mxOwn, wrap64, Rn.fresh, Rn.rests, Rn.did, Rn.setA, Rn.setB, Rn.note, Rn.noted, Rn.goto, Rn.fin, Rn.wake, Rn.waited, Wk.zero, hown, hl, hm] at e2
    subst e2
    refine ⟨1, _, by omega, ((startT_at k d i 5 L).fin (by rw [e1]; simp) (by rw [e1]; rfl)), by rw [e1], by rw [e1], ?_⟩
    rw [e1]
    exact ⟨q, p, ⟨by rw [hx]; exact hL, hq, hq4, hp⟩, hz⟩
  · rintro i hi L ⟨q, p, ⟨hL, hq, hq4, hp⟩, hz⟩
    have hown : ((i : Int) + 1) % 4294967296 = i + 1 := by omega
    have hne : ¬ ((i : Int) + 1 = 0) := by omega
    have hl0 := hL.ld3
    obtain ⟨L1, hs1, ho1, hF1, hn1⟩ := PqAt.add0 (i := i) hL ((256 - pfP p) % 4294967296)
    have hz1 := hn1 i hz
    have hb : ((q + pfP p) % 4294967296 + (256 - pfP p) % 4294967296) % 4294967296 = (q + 256 * ((1 : Nat) : Int)) % 4294967296 := by have := pfP_is p; omega
    rw [hb] at hF1
    have k0 : AtT k d i (pqA (RnT k d i 8 0 0 0 L)) 8 1 0 p L := by simp [AtT, RnT, pqA, pfR10, pfR20, pfR50, pfR51, pqLock, pqEnter, pqLeave, pqTry, pqDecide, pqGive, pqIn6, pqIn7, pqLast6, pqLast7, mxEnter, mxE0, mxE1, mxE2, mxGive, mxG0, mxG1, mxTry, mxOwn, wrap64, Rn.fresh, Rn.rests, Rn.did, Rn.setA, Rn.setB, Rn.note, Rn.noted, Rn.goto, Rn.fin, Rn.wake, Rn.waited, Wk.zero, hown, hl0]
    obtain ⟨s1, e1⟩ : ∃ s1, pqA (RnT k d i 8 1 0 p L) = s1 := ⟨_, rfl⟩
    have e2 := e1
    simp [AtT, RnT, pqA, pfR10, pfR20, pfR50, pfR51, pqLock, pqEnter, pqLeave, pqTry, pqDecide, pqGive, pqIn6, pqIn7, pqLast6, pqLast7, mxEnter, mxE0, mxE1, mxE2, mxGive, mxG0, mxG1, mxTry, mxOwn, wrap64, Rn.fresh, Rn.rests, Rn.did, Rn.setA, Rn.setB, Rn.note, Rn.noted, Rn.goto, Rn.fin, Rn.wake, Rn.waited, Wk.zero, hown, hs1, ho1] at e2
    obtain ⟨qm, s2, hqm, k1, hgo⟩ := AtT.mid (g := pqA) k0 (line' := 2) (a' := 0) (b' := p) (L' := L1) 0 e1 (by rw [← e2]; simp [Rn.rests, RnT, Wk.zero]) (by decide) (by rw [← e2]) (by omega) (hF1.nowatch h2 h1 0 (by omega))
    obtain ⟨L2, hs2, hF2, hn2⟩ := PqAt.st3 (i := i) hF1 ((p + 1) % 4294967296)
    have hz2 := hn2 i hz1
    obtain ⟨g1, g2⟩ := hF2.ld_next h2 hi hz2
    obtain ⟨L9, hs9, hb9, hF9, hn9⟩ := PqAt.cas2 (i := i) hF2 rfl 0
    have k2 : AtT k d i (pqA (RnT k d i 8 2 0 p L1)) 8 3 0 p L2 := by simp [AtT, RnT, pqA, pfR10, pfR20, pfR50, pfR51, pqLock, pqEnter, pqLeave, pqTry, pqDecide, pqGive, pqIn6, pqIn7, pqLast6, pqLast7, mxEnter, mxE0, mxE1, mxE2, mxGive, mxG0, mxG1, mxTry, mxOwn, wrap64, Rn.fresh, Rn.rests, Rn.did, Rn.setA, Rn.setB, Rn.note, Rn.noted, Rn.goto, Rn.fin, Rn.wake, Rn.waited, Wk.zero, hown, hs2]
    have k3 : AtT k d i (pqA (RnT k d i 8 3 0 p L2)) 8 4 0 p L2 := by simp [AtT, RnT, pqA, pfR10, pfR20, pfR50, pfR51, pqLock, pqEnter, pqLeave, pqTry, pqDecide, pqGive, pqIn6, pqIn7, pqLast6, pqLast7, mxEnter, mxE0, mxE1, mxE2, mxGive, mxG0, mxG1, mxTry, mxOwn, wrap64, Rn.fresh, Rn.rests, Rn.did, Rn.setA, Rn.setB, Rn.note, Rn.noted, Rn.goto, Rn.fin, Rn.wake, Rn.waited, Wk.zero, hown, g1, g2]
    obtain ⟨s3, e3⟩ : ∃ s3, pqA (RnT k d i 8 4 0 p L2) = s3 := ⟨_, rfl⟩
    have e4 := e3
    simp [AtT, RnT, pqA, pfR10, pfR20, pfR50, pfR51, pqLock, pqEnter, pqLeave, pqTry, pqDecide, pqGive, pqIn6, pqIn7, pqLast6, pqLast7, mxEnter, mxE0, mxE1, mxE2, mxGive, mxG0, mxG1, mxTry, mxOwn, wrap64, Rn.fresh, Rn.rests, Rn.did, Rn.setA, Rn.setB, Rn.note, Rn.noted, Rn.goto, Rn.fin, Rn.wake, Rn.waited, Wk.zero, hown, hs9, hb9] at e4
    subst e4
    refine ⟨_, _, ?_, (startT_at k d i 8 L).go k0 (by decide) (hgo _ _ (k1.go k2 (by decide) (k2.go k3 (by decide) (k3.fin (by rw [e3]; simp) (by rw [e3]; rfl))))), by rw [e3], by rw [e3], ?_⟩
    · omega
    rw [e3]
    exact ⟨q, _, hF9, hq, hq4, by omega⟩
  · rintro i hi L ⟨q, p, hL, hq, hq4, hp⟩
    have hown : ((i : Int) + 1) % 4294967296 = i + 1 := by omega
    have hne : ¬ ((i : Int) + 1 = 0) := by omega
    have ha0 : ¬ 256 < aheadA ((q + 256 * ((1 : Nat) : Int)) % 4294967296) q := by unfold aheadA; omega
    have hb : ((q + 256 * ((1 : Nat) : Int)) % 4294967296 - 256) % 4294967296 = q := by omega
    have hc : ((q + 256 * ((1 : Nat) : Int)) % 4294967296 + pfP p) % 4294967296 = ((q + 256) % 4294967296 + pfP p) % 4294967296 := by omega
    generalize hx : (q + 256 * ((1 : Nat) : Int)) % 4294967296 = x at hL ha0 hb hc
    obtain ⟨L1, hs1, hF1, hz1, hn1⟩ := PqAt.st_next hL h2 hi
    obtain ⟨L3, hs3, hb3, hF3, hn3⟩ := PqAt.cas2 (i := i) hF1 rfl (i + 1)
    have hz3 := hn3 i hz1
    have hr0 := hF3.ld0
    have hr1 := hF3.ld1
    have hr3 := hF3.ld3
    have k0 : AtT k d i (pqA (RnT k d i 7 0 0 0 L)) 7 1 0 0 L1 := by simp [AtT, RnT, pqA, pfR10, pfR20, pfR50, pfR51, pqLock, pqEnter, pqLeave, pqTry, pqDecide, pqGive, pqIn6, pqIn7, pqLast6, pqLast7, mxEnter, mxE0, mxE1, mxE2, mxGive, mxG0, mxG1, mxTry, mxOwn, wrap64, Rn.fresh, Rn.rests, Rn.did, Rn.setA, Rn.setB, Rn.note, Rn.noted, Rn.goto, Rn.fin, Rn.wake, Rn.waited, Wk.zero, hown, hs1]
    have k1 : AtT k d i (pqA (RnT k d i 7 1 0 0 L1)) 7 2 0 0 L3 := by simp [AtT, RnT, pqA, pfR10, pfR20, pfR50, pfR51, pqLock, pqEnter, pqLeave, pqTry, pqDecide, pqGive, pqIn6, pqIn7, pqLast6, pqLast7, mxEnter, mxE0, mxE1, mxE2, mxGive, mxG0, mxG1, mxTry, mxOwn, wrap64, Rn.fresh, Rn.rests, Rn.did, Rn.setA, Rn.setB, Rn.note, Rn.noted, Rn.goto, Rn.fin, Rn.wake, Rn.waited, Wk.zero, hown, hs3, hb3]
    have k2 : AtT k d i (pqA (RnT k d i 7 2 0 0 L3)) 7 3 x 0 L3 := by simp [AtT, RnT, pqA, pfR10, pfR20, pfR50, pfR51, pqLock, pqEnter, pqLeave, pqTry, pqDecide, pqGive, pqIn6, pqIn7, pqLast6, pqLast7, mxEnter, mxE0, mxE1, mxE2, mxGive, mxG0, mxG1, mxTry, mxOwn, wrap64, Rn.fresh, Rn.rests, Rn.did, Rn.setA, Rn.setB, Rn.note, Rn.noted, Rn.goto, Rn.fin, Rn.wake, Rn.waited, Wk.zero, hown, hr0]
    obtain ⟨L4, hs4, ho4, hF4, hn4⟩ := PqAt.add0 (i := i) hF3 (pfP p)
    have hw4 := hF4.wait k d i (fun v => v == (x - 256) % 4294967296) (by simp [hb])
    obtain ⟨L5, hs5, ho5, hF5, hn5⟩ := PqAt.add1 (i := i) hF4 256
    rw [hc] at hF5
    have k3 : AtT k d i (pqA (RnT k d i 7 3 x 0 L3)) 7 4 x q L3 := by simp [AtT, RnT, pqA, pfR10, pfR20, pfR50, pfR51, pqLock, pqEnter, pqLeave, pqTry, pqDecide, pqGive, pqIn6, pqIn7, pqLast6, pqLast7, mxEnter, mxE0, mxE1, mxE2, mxGive, mxG0, mxG1, mxTry, mxOwn, wrap64, Rn.fresh, Rn.rests, Rn.did, Rn.setA, Rn.setB, Rn.note, Rn.noted, Rn.goto, Rn.fin, Rn.wake, Rn.waited, Wk.zero, hown, hr1, ha0]
    have k4 : AtT k d i (pqA (RnT k d i 7 4 x q L3)) 7 5 x p L3 := by simp [AtT, RnT, pqA, pfR10, pfR20, pfR50, pfR51, pqLock, pqEnter, pqLeave, pqTry, pqDecide, pqGive, pqIn6, pqIn7, pqLast6, pqLast7, mxEnter, mxE0, mxE1, mxE2, mxGive, mxG0, mxG1, mxTry, mxOwn, wrap64, Rn.fresh, Rn.rests, Rn.did, Rn.setA, Rn.setB, Rn.note, Rn.noted, Rn.goto, Rn.fin, Rn.wake, Rn.waited, Wk.zero, hown, hr3]
    have k5 : AtT k d i (pqA (RnT k d i 7 5 x p L3)) 7 6 x p L4 := by simp [AtT, RnT, pqA, pfR10, pfR20, pfR50, pfR51, pqLock, pqEnter, pqLeave, pqTry, pqDecide, pqGive, pqIn6, pqIn7, pqLast6, pqLast7, mxEnter, mxE0, mxE1, mxE2, mxGive, mxG0, mxG1, mxTry, mxOwn, wrap64, Rn.fresh, Rn.rests, Rn.did, Rn.setA, Rn.setB, Rn.note, Rn.noted, Rn.goto, Rn.fin, Rn.wake, Rn.waited, Wk.zero, hown, hs4, ho4]
    have k6 : AtT k d i (pqA (RnT k d i 7 6 x p L4)) 7 7 x p L4 := by simp [AtT, RnT, pqA, pfR10, pfR20, pfR50, pfR51, pqLock, pqEnter, pqLeave, pqTry, pqDecide, pqGive, pqIn6, pqIn7, pqLast6, pqLast7, mxEnter, mxE0, mxE1, mxE2, mxGive, mxG0, mxG1, mxTry, mxOwn, wrap64, Rn.fresh, Rn.rests, Rn.did, Rn.setA, Rn.setB, Rn.note, Rn.noted, Rn.goto, Rn.fin, Rn.wake, Rn.waited, Wk.zero, hown, hw4]
    obtain ⟨s1, e1⟩ : ∃ s1, pqA (RnT k d i 7 7 x p L4) = s1 := ⟨_, rfl⟩
    have e2 := e1
    simp [AtT, RnT, pqA, pfR10, pfR20, pfR50, pfR51, pqLock, pqEnter, pqLeave, pqTry, pqDecide, pqGive, pqIn6, pqIn7, pqLast6, pqLast7, mxEnter, mxE0, mxE1, mxE2, mxGive, mxG0, mxG1, mxTry, mxOwn, wrap64, Rn.fresh, Rn.rests, Rn.did, Rn.setA, Rn.setB, Rn.note, Rn.noted, Rn.goto, Rn.fin, Rn.wake, Rn.waited, Wk.zero, hown, hs5, ho5] at e2
    subst e2
    refine ⟨8, _, by omega, ((startT_at k d i 7 L).go k0 (by decide) (k0.go k1 (by decide) (k1.go k2 (by decide) (k2.go k3 (by decide) (k3.go k4 (by decide) (k4.go k5 (by decide) (k5.go k6 (by decide) (k6.fin (by rw [e1]; simp) (by rw [e1]; rfl))))))))), by rw [e1], by rw [e1], ?_⟩
    rw [e1]
    exact ⟨_, p, ⟨hF5, by omega, by omega, hp⟩, hn5 i (hn4 i hz3)⟩


def pqLists : List (List Int) := [[1, 2], [3, 4], [5, 2], [6, 4], [3, 8, 2], [1, 7, 4], [6, 8, 7, 4]]
def pqTry4 : List (Int × Int × Int × Int) := [(3, 5, 1, 4), (3, 6, 1, 4), (1, 6, 1, 2), (1, 5, 2, 2)]
/-- Those that came and those that went are alike, and the queue is empty. -/
def pqEnd (base : Int) (E : List Int) : Prop := ldA E 0 = ldA E 1 ∧ ldA E 2 = 0
theorem pq_first (k : Nat) (base : Int) (h1 : 1 ≤ k) (h2 : k ≤ 64) (hb : 0 ≤ base ∧ base < 4294967296) : PqReads k 0 (own3 base ++ List.replicate ((8 + 4 * (k : Int)).toNat - 4) 0) := by
  refine ⟨base * 256 % 4294967296, base, ?_, by omega, by omega, hb⟩
  rw [show (base * 256 % 4294967296 + 256 * ((0 : Nat) : Int)) % 4294967296 = base * 256 % 4294967296 from by omega]
  refine ⟨by simp [own3]; omega, ⟨rfl, rfl, rfl, rfl⟩, fun i hi => ?_⟩
  obtain ⟨j, hj⟩ : ∃ j : Nat, 8 + 2 * k + i = j + 4 := ⟨4 + 2 * k + i, by omega⟩
  rw [hj]
  show (List.replicate _ (0 : Int)).getD j 0 = 0
  rw [List.getD_eq_getElem?_getD, List.getElem?_replicate]
  split <;> rfl
theorem pq_runs (n d base : Int) (most : Nat) (h1 : 1 ≤ n) (h2 : n ≤ 64) (hb : 0 ≤ base ∧ base < 4294967296) (hm : 40 + 8 * n ≤ most) :
    ∀ l, l ∈ pqLists → ∃ E, Runs pqA n d most l (own3 base ++ List.replicate ((8 + 4 * n).toNat - 4) 0) E ∧ pqEnd base E := by
  obtain ⟨k, rfl⟩ : ∃ k : Nat, n = k := ⟨n.toNat, by omega⟩
  refine (pq_ops k d (by omega) (by omega)).runs (by omega) (by omega) ?_ (pq_first k base (by omega) (by omega) hb)
  rintro L ⟨q, p, hL, hq, hq4, hp⟩
  unfold pqEnd
  rw [hL.ldA0, hL.ldA1, hL.ldA2]
  exact ⟨by omega, rfl⟩
theorem pq_tries (n d base : Int) (most : Nat) (h1 : 1 ≤ n) (h2 : n ≤ 64) (hb : 0 ≤ base ∧ base < 4294967296) (hm : 40 + 8 * n ≤ most) : ∀ x0 x1 x2 x3, (x0, x1, x2, x3) ∈ pqTry4 → ∃ s1 s2 s3, aloneA pqA most (start n d x0 (own3 base ++ List.replicate ((8 + 4 * n).toNat - 4) 0)) = (2, s1) ∧ aloneA pqA most (start n d x1 s1.L) = (x2, s2) ∧
    aloneA pqA most (start n d x3 s2.L) = (2, s3) ∧ (x2 = 1 → ∃ s4, aloneA pqA most (start n d 6 s3.L) = (2, s4)) := by
  obtain ⟨k, rfl⟩ : ∃ k : Nat, n = k := ⟨n.toNat, by omega⟩
  exact (pq_ops k d (by omega) (by omega)).tries (by omega) (by omega) (pq_first k base (by omega) (by omega) hb)
theorem pq_together (k : Nat) (d op : Int) (h1 : 2 ≤ k) (h2 : k ≤ 16) (hop : op = 1 ∨ op = 5) : Together pqA k d op (PqReads k) :=
  (pq_ops k d (by omega) (by omega)).together h1 h2 hop

end Go.Proofs.Ytbcppehpfckgoaa.Z

/- Law 14: the statement PqTogether. Written by genmat.py. -/
set_option linter.unusedVariables false
set_option linter.unusedSimpArgs false
namespace Go.Proofs.Ytbcppehpfckgoaa.Z
open Go.RowKit

theorem pqTogether_any (n mode base : Int) (try_ : Bool) (w : World) (hn : 0 ≤ n ∧ n < 256) (hm : 0 ≤ mode ∧ mode < 256) (hb : 0 ≤ base ∧ base < 4294967296) :
    Calls Try.prog 11 #[.int .u8 n, .int .u8 mode, .int .u32 base, .bool try_] w fun e w' => e = .returned (.bool true) ∧ Touch [] w w' := by
  refine pq_together_walk n mode base try_ w hb hn hm (if try_ then 5 else 1) rfl fun k hk => ?_
  have hop : (if try_ = true then (5 : Int) else 1) = 1 ∨ (if try_ = true then (5 : Int) else 1) = 5 := by cases try_ <;> simp
  exact together_ok hop (pq_together k (1 + mode % 2) _ (by omega) (by omega) hop) (pq_first k base (by omega) (by omega) hb) (by omega)

end Go.Proofs.Ytbcppehpfckgoaa.Z

/- Arguments opened: whole numbers, structs of whole numbers, slices of these. No statement is in sight. -/
set_option linter.unusedVariables false
set_option linter.unusedSimpArgs false
namespace Go.Proofs.Ytbcppehpfckgoaa.Z
open Go.RowKit Go.ChangeShapes Go.WideShapes Go.ChangeAt Go.Deep

/-- Whatever reads as a value of type t has cells of this form. -/
def Flat (P : Program) (t : TypeId) (ok : List Value → Prop) : Prop :=
  ∀ (H : Type) (enc : TypeId × Value → H) (w : World) (base : Nat) (spare : Nat → Bool) (held : Bool) (fuel : Nat) (cs : List Value) (x : DataW H × List MemPlace),
    DataW.trod enc P w base spare held fuel t cs = some x → ok cs

theorem flat_int {P : Program} {t : TypeId} {k : IntKind} (ht : P.underlying t = some (.int k)) : Flat P t (fun cs => ∃ n, cs = [.int k n] ∧ (Lit.int k n).wf = true) := by
  intro H enc w base spare held fuel cs x h
  obtain ⟨n, h1, _, h2⟩ := DataW.trod_int ht h
  exact ⟨n, h1, h2⟩

theorem flat_bool {P : Program} {t : TypeId} (ht : P.underlying t = some .bool) : Flat P t (fun cs => ∃ b, cs = [.bool b]) := by
  intro H enc w base spare held fuel cs x h
  obtain ⟨n, h1, _⟩ := DataW.trod_bool ht h
  exact ⟨n, h1⟩

theorem flat_mono {P : Program} {t : TypeId} {ok ok' : List Value → Prop} (h : Flat P t ok) (hm : ∀ cs, ok cs → ok' cs) : Flat P t ok' :=
  fun H enc w base spare held fuel cs x hx => hm _ (h H enc w base spare held fuel cs x hx)

/-- A struct: each field's cells are of that field's form. -/
theorem flat_struct {P : Program} {t : TypeId} {fs : Array Field} (ht : P.underlying t = some (.struct fs)) :
    Flat P t (fun cs => cs.length = P.cellsOf t ∧ ∀ (i : Nat) (f : Field) (ok : List Value → Prop), fs[i]? = some f → Flat P f.type ok → ok ((cs.drop f.offset).take (P.cellsOf f.type))) := by
  intro H enc w base spare held fuel cs x h
  obtain ⟨xs, n, _, _, hl, hxl, hf⟩ := DataW.trod_struct ht h
  refine ⟨hl, fun i f ok hi hok => ?_⟩
  have hil : i < fs.size := (Array.getElem?_eq_some_iff.1 hi).1
  have := hf i f hi
  rw [List.getElem?_eq_getElem (by omega)] at this
  exact hok H enc w base spare held n _ _ this

theorem wf_u32 {n : Int} (h : (Lit.int .u32 n).wf = true) : 0 ≤ n ∧ n < 4294967296 := by
  simp [Lit.wf, IntKind.min, IntKind.max, IntKind.signed, IntKind.bits] at h; omega
theorem wf_u8 {n : Int} (h : (Lit.int .u8 n).wf = true) : 0 ≤ n ∧ n < 256 := by
  simp [Lit.wf, IntKind.min, IntKind.max, IntKind.signed, IntKind.bits] at h; omega
theorem wf_i64 {n : Int} (h : (Lit.int .i64 n).wf = true) : -9223372036854775808 ≤ n ∧ n ≤ 9223372036854775807 := by
  simp [Lit.wf, IntKind.min, IntKind.max, IntKind.signed, IntKind.bits] at h; omega
theorem wf_i32 {n : Int} (h : (Lit.int .i32 n).wf = true) : -2147483648 ≤ n ∧ n < 2147483648 := by
  simp [Lit.wf, IntKind.min, IntKind.max, IntKind.signed, IntKind.bits] at h; omega

theorem flatMap_at {α : Type} {dec : α → List Value} {size : Nat} (hs : 0 < size) (hlen : ∀ a, (dec a).length = size) : ∀ (l : List α) (i j : Nat) (h : i < l.length), j < size → (l.flatMap dec)[i * size + j]? = (dec l[i])[j]? := by
  intro l
  induction l with
  | nil => intro i j h; simp at h
  | cons a l ih =>
    intro i j h hj
    rw [List.flatMap_cons]
    cases i with
    | zero =>
      rw [List.getElem?_append_left (by rw [hlen]; omega)]
      simp
    | succ i =>
      rw [List.getElem?_append_right (by rw [hlen, Nat.succ_mul]; omega), hlen, show (i + 1) * size + j - size = i * size + j by rw [Nat.succ_mul]; omega, ih i j (by simpa using h) hj]
      rfl

theorem flatMap_length {α : Type} {dec : α → List Value} {size : Nat} (hlen : ∀ a, (dec a).length = size) (l : List α) : (l.flatMap dec).length = l.length * size := by
  induction l with
  | nil => simp
  | cons a l ih => rw [List.flatMap_cons, List.length_append, ih, hlen, List.length_cons, Nat.succ_mul]; omega

/-- A slice of flat elements, as a list. -/
theorem open_list {P : Program} {H : Type} {enc : TypeId × Value → H} {w : World} {t e : TypeId} {α : Type} {dec : α → List Value} {ok : α → Prop} {size : Nat} {A : Option Addr} {n c : Nat} {d : DataW H} {p : List MemPlace}
    (ht : P.underlying t = some (.slice e)) (hF : Flat P e (fun cs => ∃ a, ok a ∧ cs = dec a)) (hC : P.cellsOf e = size) (hs : 0 < size) (hlen : ∀ a, (dec a).length = size)
    (h : DataW.Trod enc P w 0 (fun _ => true) true t (.slice A n c) d p) (lt : ∀ x ∈ p, x.block < w.heap.size) :
    ∃ l : List α, l.length = n ∧ (∀ a, a ∈ l → ok a) ∧ Rd w size A n (l.flatMap dec) ∧ n ≤ c ∧ c ≤ 9223372036854775807 := by
  obtain ⟨fuel, hf⟩ := h
  rcases open_slice ht hf with ⟨hcs, _⟩ | ⟨a, len, cap, m, n', D, Pl, hcs, hb, hl, hm, hmm, hx, hi⟩
  · simp [Value.cells] at hcs
    obtain ⟨rfl, rfl, rfl⟩ := hcs
    exact ⟨[], rfl, by simp, Rd.nil _ _ _, Nat.le_refl _, by decide⟩
  · simp [Value.cells] at hcs
    obtain ⟨rfl, rfl, rfl⟩ := hcs
    simp at hmm
    subst hmm
    have hE : ∀ i, i < n → ∃ y : α, ok y ∧ ∀ j, j < size → w.cell? (a.add (i * size + j)) = (dec y)[j]? := by
      intro i hin
      obtain ⟨cs', hc, htr⟩ := hi i (by omega)
      obtain ⟨y, hy, rfl⟩ := hF H enc w 0 _ true n' cs' _ htr
      rw [hC] at hc
      obtain ⟨_, hcl, hat⟩ := World.cells?_some hc
      exact ⟨y, hy, fun j hj => by rw [← Go.Deep.add_add]; exact hat j hj⟩
    have hL : ∀ n0, n0 ≤ n → ∃ l : List α, l.length = n0 ∧ ∀ i (h : i < l.length), ok l[i] ∧ ∀ j, j < size → w.cell? (a.add (i * size + j)) = (dec l[i])[j]? := by
      intro n0
      induction n0 with
      | zero => intro _; exact ⟨[], rfl, fun i h => by simp at h⟩
      | succ k ih =>
        intro hk
        obtain ⟨l, hl, hlp⟩ := ih (by omega)
        obtain ⟨y, hy, hyc⟩ := hE k (by omega)
        refine ⟨l ++ [y], by simp [hl], fun i h => ?_⟩
        by_cases hik : i < l.length
        · rw [List.getElem_append_left hik]; exact hlp i hik
        · have : i = k := by simp at h; omega
          subst this
          rw [List.getElem_append_right (by omega)]
          simp [hl]
          exact ⟨hy, hyc⟩
    obtain ⟨l, hll, hlp⟩ := hL n (Nat.le_refl _)
    refine ⟨l, hll, fun y hy => ?_, ⟨by rw [flatMap_length hlen, hll], fun h0 => ⟨a, rfl, ?_, fun j u hu => ?_⟩⟩, hl, hm⟩
    · obtain ⟨i, hi, rfl⟩ := List.getElem_of_mem hy
      exact (hlp i hi).1
    · have := (hlp 0 (by omega)).2 0 hs
      have h1 : (dec l[0])[0]? = some ((dec l[0])[0]'(by rw [hlen]; exact hs)) := List.getElem?_eq_getElem _
      rw [h1] at this
      have := World.block_lt_of_cell? w _ this
      rw [addr_block] at this
      exact this
    · have hj : j < l.length * size := by
        have := (List.getElem?_eq_some_iff.1 hu).1
        rwa [flatMap_length hlen] at this
      have e := Nat.div_add_mod j size
      have hd : j / size < l.length := Nat.div_lt_of_lt_mul (by rw [Nat.mul_comm]; exact hj)
      have hm := Nat.mod_lt j hs
      rw [Nat.mul_comm] at e
      have := (hlp _ hd).2 _ hm
      rw [e] at this
      rw [this, ← flatMap_at hs hlen l _ _ hd hm, e, hu]

/-- A struct by value, as its cells. -/
theorem open_flat {P : Program} {H : Type} {enc : TypeId × Value → H} {w : World} {t : TypeId} {fs : Array Field} {α : Type} {dec : α → List Value} {ok : α → Prop} {v : Value} {d : DataW H} {p : List MemPlace} {r : Reach} {base : Nat}
    (ht : P.underlying t = some (.struct fs)) (hF : Flat P t (fun cs => ∃ a, ok a ∧ cs = dec a)) (hv : Value.okWide P w r base t v) (h : DataW.Trod enc P w 0 (fun _ => true) true t v d p) :
    ∃ a, ok a ∧ v = .agg (dec a).toArray := by
  obtain ⟨cs, rfl, _⟩ := okWide_struct ht hv
  obtain ⟨fuel, hf⟩ := h
  obtain ⟨a, ha, hc⟩ := hF H enc w 0 _ true fuel _ _ hf
  refine ⟨a, ha, ?_⟩
  rw [← hc]
  simp [Value.cells]

/-- A number's value, its data left as they are. -/
theorem open_num {P : Program} {H : Type} {enc : TypeId × Value → H} {w : World} {t : TypeId} {k : IntKind} {v : Value} {d : DataW H} {p : List MemPlace} {r : Reach} {base : Nat}
    (ht : P.underlying t = some (.int k)) (hv : Value.okWide P w r base t v) (h : DataW.Trod enc P w 0 (fun _ => true) true t v d p) : ∃ n, v = .int k n ∧ (Lit.int k n).wf = true := by
  obtain ⟨n, h1, _, _, h2⟩ := open_int ht hv h
  exact ⟨n, h1, h2⟩

theorem open_truth {P : Program} {H : Type} {enc : TypeId × Value → H} {w : World} {t : TypeId} {v : Value} {d : DataW H} {p : List MemPlace} {r : Reach} {base : Nat}
    (ht : P.underlying t = some .bool) (hv : Value.okWide P w r base t v) (h : DataW.Trod enc P w 0 (fun _ => true) true t v d p) : ∃ b, v = .bool b := by
  obtain ⟨n, h1, _⟩ := open_bool ht hv h
  exact ⟨n, h1⟩

end Go.Proofs.Ytbcppehpfckgoaa.Z
