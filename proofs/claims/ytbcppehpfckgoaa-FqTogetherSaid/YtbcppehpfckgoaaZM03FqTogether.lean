/- 4 texts of this claim, joined: what each shows stands at its own head. -/
import Derived.Test.YtbcppehpfckgoaaZM02FqTogether
import Derived.Test.YtbcppehpfckgoaaZM01FqTogether
import Derived.Test.YtbcppehpfckgoaaZRead
import Derived.ProofKit
import Derived.OpenShut
import Derived.ChangeOld
import Derived.SizedLaws
import Derived.Deep.Slices
/- A wake-up that finds nobody, in the middle of an operation. No lock in sight. -/
set_option linter.unusedVariables false
set_option linter.unusedSimpArgs false
namespace Go.Proofs.Ytbcppehpfckgoaa.Z
open Go.RowKit

theorem does_wakes_mid (g : Rn → Rn) (c : Int) : ∀ (d : Nat) (s : Rn) (i : Int), s.f.wk = ⟨true, c, i, false⟩ → 0 ≤ i → i + d = s.n → 1 ≤ d → NoWatch s.n c s.L → s.f.ret = 0 → s.f.op ≠ 0 →
    ∃ s2, s2.fresh = s.rests ∧ ∀ n s', Does g n s2 s' → Does g (n + d) s s' := by
  intro d
  induction d with
  | zero => intro s i hw h0 h1 h2; omega
  | succ d ih =>
    intro s i hw h0 h1 _ hc hr ho
    obtain ⟨e1, e2, e3, e4, e5, e6⟩ := woke_calm hw h0 (by omega) hc
    have hst : stepR g s = s.woke := by unfold stepR; rw [hw]; rfl
    have hf : Free s := Or.inl (by rw [hw])
    have hov : s.woke.over = false := by unfold Rn.over; rw [show s.woke.f.ret = 0 from by rw [e2]; exact hr]; rfl
    have hop : s.woke.f.op ≠ 0 := by rw [e2]; exact ho
    by_cases hd : d = 0
    · subst hd
      rw [if_pos (by omega)] at e2
      refine ⟨s.woke, ?_, fun n s' h => Does.more hf hst hov hop h⟩
      unfold Rn.fresh Rn.rests
      rw [e1, e2, e4, e5, e6]
    · rw [if_neg (by omega)] at e2
      obtain ⟨s2, k1, k2⟩ := ih s.woke (i + 1) (by rw [e2]) (by omega) (by rw [e4]; omega) (by omega) (by rw [e4, e1]; exact hc) (by rw [e2]; exact hr) hop
      refine ⟨s2, ?_, fun n s' h => Does.more hf hst hov hop (k2 n s' h)⟩
      rw [k1]
      unfold Rn.rests
      rw [e1, e2, e4, e5, e6]

theorem AtT.mid {n mode : Int} {t : Nat} {s s1 : Rn} {op line a b line' a' b' : Int} {L L' : List Int} {g : Rn → Rn} (h : AtT n mode t s op line a b L) (c : Int) (hg : g (RnT n mode t op line a b L) = s1) (hr : s1.rests = RnT n mode t op line' a' b' L') (ho : op ≠ 0) (hk : s1.f.wk = beginA mode c) (h1 : 1 ≤ n) (hc : NoWatch n c L') :
    ∃ q s2, q ≤ n.toNat + 1 ∧ AtT n mode t s2 op line' a' b' L' ∧ ∀ m s', Does g m s2 s' → Does g (m + q) s s' := by
  have hL : s1.L = L' := congrArg (fun x => x.L) hr
  have hn : s1.n = n := congrArg (fun x => x.n) hr
  have hret : s1.f.ret = 0 := congrArg (fun x => x.f.ret) hr
  have hop : s1.f.op = op := congrArg (fun x => x.f.op) hr
  have hov : s1.over = false := by unfold Rn.over; rw [hret]; rfl
  have hst : stepR g s = s1 := h.step.trans hg
  unfold beginA at hk
  split at hk
  · obtain ⟨s2, k1, k2⟩ := does_wakes_mid g c n.toNat s1 0 hk (Int.le_refl _) (by omega) (by omega) (by rw [hn, hL]; exact hc) hret (by rw [hop]; exact ho)
    exact ⟨n.toNat + 1, s2, Nat.le_refl _, k1.trans hr, fun m s' hd => Does.more h.free hst hov (by rw [hop]; exact ho) (k2 m s' hd)⟩
  · refine ⟨1, s1, by omega, ?_, fun m s' hd => Does.more h.free hst hov (by rw [hop]; exact ho) hd⟩
    unfold AtT
    rw [← hr]
    unfold Rn.fresh Rn.rests
    rw [← hk]

end Go.Proofs.Ytbcppehpfckgoaa.Z

/- The fair queue: its operations, each whole. No program is in sight. Written by genfqops.py. -/
set_option linter.unusedVariables false
set_option linter.unusedSimpArgs false
namespace Go.Proofs.Ytbcppehpfckgoaa.Z
open Go.RowKit

section
variable {L : List Int} {c : Nat} {x y : Int}
theorem dq_ld (h : c < L.length) : doA L ⟨1, (c : Int), 0, 0, 0⟩ = (⟨1, c, 0, 0, L.getD c 0⟩, true, L) := by
  unfold doA
  rw [if_pos (by dsimp only; omega)]
  simp
theorem dq_st (h : c < L.length) : (doA L ⟨2, (c : Int), x, 0, 0⟩).2.2 = L.set c x := by
  unfold doA
  rw [if_pos (by dsimp only; omega)]
  simp
theorem dq_add (h : c < L.length) : (doA L ⟨3, (c : Int), x, 0, 0⟩).2.2 = L.set c ((L.getD c 0 + x) % 4294967296) ∧ (doA L ⟨3, (c : Int), x, 0, 0⟩).1.old = L.getD c 0 := by
  unfold doA
  rw [if_pos (by dsimp only; omega)]
  simp
theorem dq_sw (h : c < L.length) : (doA L ⟨4, (c : Int), x, 0, 0⟩).2.2 = L.set c x ∧ (doA L ⟨4, (c : Int), x, 0, 0⟩).1.old = L.getD c 0 := by
  unfold doA
  rw [if_pos (by dsimp only; omega)]
  simp
theorem dq_cas (h : c < L.length) : (doA L ⟨5, (c : Int), x, y, 0⟩).2.2 = (if L.getD c 0 = x then L.set c y else L) ∧ casB L c x y = (L.getD c 0 == x) := by
  unfold casB doA
  rw [if_pos (by dsimp only; omega)]
  by_cases h : L[c]?.getD 0 = x
  · simp [h]
  · simp [h]
end
theorem cell_next {k i : Nat} (h2 : k ≤ 64) (hi : i < k) : cellP k 0 i = ((8 + i : Nat) : Int) := by unfold cellP; rw [if_pos (by omega)]; omega
theorem cell_blocked {k i : Nat} (h2 : k ≤ 64) (hi : i < k) : cellP k 1 i = ((8 + k + i : Nat) : Int) := by unfold cellP; rw [if_pos (by omega)]; omega

/-- The queue's words: where its end is, how many are counted; nobody is watched for. -/
def FqAt (k : Nat) (t c : Int) (L : List Int) : Prop := L.length = 8 + 4 * k ∧ L.getD 0 0 = t ∧ L.getD 1 0 = c ∧ ∀ i, i < k → L.getD (8 + 2 * k + i) 0 = 0
theorem getD_set {L : List Int} {i j : Nat} {v : Int} : (L.set i v).getD j 0 = if i = j ∧ i < L.length then v else L.getD j 0 := by
  simp only [List.getD_eq_getElem?_getD, List.getElem?_set]
  by_cases h : i = j
  · subst h
    by_cases h2 : i < L.length
    · simp [h2]
    · simp [h2]
  · simp [h]
/-- Those whose link is nothing: it stays so. -/
def Nx (i : Nat) (L L' : List Int) : Prop := ∀ j : Nat, L.getD (8 + j) 0 = 0 → L'.getD (8 + j) 0 = 0
section
variable {k i : Nat} {t c : Int} {L : List Int}
theorem FqAt.set (h : FqAt k t c L) {p : Nat} {v : Int} (h0 : 8 ≤ p) (h1 : p < 8 + 2 * k) : FqAt k t c (L.set p v) := by
  obtain ⟨a1, a2, a3, a4⟩ := h
  refine ⟨by simpa using a1, ?_, ?_, fun i hi => ?_⟩
  · rw [getD_set, if_neg (by omega)]; exact a2
  · rw [getD_set, if_neg (by omega)]; exact a3
  · rw [getD_set, if_neg (by omega)]; exact a4 i hi
theorem FqAt.set0 (h : FqAt k t c L) (v : Int) : FqAt k v c (L.set 0 v) := by
  obtain ⟨a1, a2, a3, a4⟩ := h
  refine ⟨by simpa using a1, ?_, ?_, fun i hi => ?_⟩
  · rw [getD_set, if_pos (by omega)]
  · rw [getD_set, if_neg (by omega)]; exact a3
  · rw [getD_set, if_neg (by omega)]; exact a4 i hi
theorem FqAt.set1 (h : FqAt k t c L) (v : Int) : FqAt k t v (L.set 1 v) := by
  obtain ⟨a1, a2, a3, a4⟩ := h
  refine ⟨by simpa using a1, ?_, ?_, fun i hi => ?_⟩
  · rw [getD_set, if_neg (by omega)]; exact a2
  · rw [getD_set, if_pos (by omega)]
  · rw [getD_set, if_neg (by omega)]; exact a4 i hi
theorem FqAt.nowatch (h : FqAt k t c L) (h2 : k ≤ 64) (h1 : 1 ≤ k) (cc : Int) (hc : 0 ≤ cc ∧ cc ≤ 4) : NoWatch k cc L := by
  intro i h0 hi
  obtain ⟨a1, a2, a3, a4⟩ := h
  have hcl : cellP k 2 i = 8 + 2 * k + i := by unfold cellP; rw [if_pos (by omega)]
  have hlt : 0 ≤ 8 + 2 * (k : Int) + i ∧ 8 + 2 * (k : Int) + i < (L.length : Int) := by omega
  have hg : L.getD (8 + 2 * (k : Int) + i).toNat 0 = 0 := by
    have := a4 i.toNat (by omega)
    rw [show (8 + 2 * (k : Int) + i).toNat = 8 + 2 * k + i.toNat from by omega]
    exact this
  rw [hcl]
  unfold doA
  rw [if_pos hlt]
  refine ⟨by simp, ?_⟩
  simp only [if_true]
  rw [hg]
  omega
theorem FqAt.st_next (h : FqAt k t c L) (h2 : k ≤ 64) (hi : i < k) : ∃ L', (doA L ⟨2, cellP k 0 i, 0, 0, 0⟩).2.2 = L' ∧ FqAt k t c L' ∧ L'.getD (8 + i) 0 = 0 ∧ Nx i L L' := by
  have hl := h.1
  rw [cell_next h2 hi]
  refine ⟨_, dq_st (by omega), h.set (by omega) (by omega), ?_, fun j hj => ?_⟩
  · rw [getD_set, if_pos (by omega)]
  · rw [getD_set]; split; rfl; exact hj
theorem FqAt.st_blocked (h : FqAt k t c L) (h2 : k ≤ 64) (hi : i < k) : ∃ L', (doA L ⟨2, cellP k 1 i, 1, 0, 0⟩).2.2 = L' ∧ FqAt k t c L' ∧ (∀ j, j < k → L.getD (8 + j) 0 = 0 → L'.getD (8 + j) 0 = 0) := by
  have hl := h.1
  rw [cell_blocked h2 hi]
  refine ⟨_, dq_st (by omega), h.set (by omega) (by omega), fun j hj hz => ?_⟩
  rw [getD_set, if_neg (by omega)]; exact hz
theorem FqAt.ld_next (h : FqAt k t c L) (h2 : k ≤ 64) (hi : i < k) (hz : L.getD (8 + i) 0 = 0) : (doA L ⟨1, cellP k 0 i, 0, 0, 0⟩).2.2 = L ∧ (doA L ⟨1, cellP k 0 i, 0, 0, 0⟩).1.old = 0 := by
  have hl := h.1
  rw [cell_next h2 hi, dq_ld (by omega)]
  exact ⟨rfl, hz⟩
theorem FqAt.sw (h : FqAt k t c L) (v : Int) : ∃ L', (doA L ⟨4, 0, v, 0, 0⟩).2.2 = L' ∧ (doA L ⟨4, 0, v, 0, 0⟩).1.old = t ∧ FqAt k v c L' ∧ Nx i L L' := by
  have hl := h.1
  have e := dq_sw (L := L) (c := 0) (x := v) (by omega)
  refine ⟨_, e.1, e.2.trans h.2.1, h.set0 v, fun j hj => ?_⟩
  rw [getD_set, if_neg (by omega)]; exact hj
theorem FqAt.add (h : FqAt k t c L) (v : Int) : ∃ L', (doA L ⟨3, 1, v, 0, 0⟩).2.2 = L' ∧ FqAt k t ((c + v) % 4294967296) L' ∧ Nx i L L' := by
  have hl := h.1
  have e := dq_add (L := L) (c := 1) (x := v) (by omega)
  refine ⟨_, e.1, ?_, fun j hj => ?_⟩
  · rw [h.2.2.1]; exact h.set1 _
  · rw [getD_set, if_neg (by omega)]; exact hj
theorem FqAt.cas (h : FqAt k t c L) {x : Int} (hx : t = x) (v : Int) : ∃ L', (doA L ⟨5, 0, x, v, 0⟩).2.2 = L' ∧ casB L 0 x v = true ∧ FqAt k v c L' ∧ Nx i L L' := by
  have hl := h.1
  have e := dq_cas (L := L) (c := 0) (x := x) (y := v) (by omega)
  have ht := h.2.1
  rw [if_pos (ht.trans hx)] at e
  refine ⟨_, e.1, e.2.trans (by rw [ht, hx]; simp), h.set0 v, fun j hj => ?_⟩
  rw [getD_set, if_neg (by omega)]; exact hj
theorem FqAt.casno (h : FqAt k t c L) {x : Int} (hx : ¬ t = x) (v : Int) : (doA L ⟨5, 0, x, v, 0⟩).2.2 = L ∧ casB L 0 x v = false := by
  have hl := h.1
  have e := dq_cas (L := L) (c := 0) (x := x) (y := v) (by omega)
  have ht := h.2.1
  rw [if_neg (by rw [ht]; exact hx)] at e
  exact ⟨e.1, e.2.trans (by rw [ht]; simpa using hx)⟩
theorem FqAt.ld (h : FqAt k t c L) : doA L ⟨1, 1, 0, 0, 0⟩ = (⟨1, 1, 0, 0, c⟩, true, L) := by
  have hl := h.1
  have e := dq_ld (L := L) (c := 1) (by omega)
  rw [h.2.2.1] at e
  exact e
theorem FqAt.wait (h : FqAt k t c L) (hc : c = 0) (n mode task : Int) : waitA L n mode task 0 1 (fun v => v == 0) = ⟨0, ⟨1, 1, 0, 0, 0⟩, true, true, L⟩ := by
  rw [wait_hit (by rw [h.ld, hc]; rfl), h.ld, hc]
theorem FqAt.ld0 (h : FqAt k t c L) : ldA L 0 = t ∧ ldA L 1 = c := by
  have hl := h.1
  unfold ldA
  rw [if_pos (by omega), if_pos (by omega)]
  exact ⟨h.2.1, h.2.2.1⟩
end
/-- So many read; one writes. -/
def FqReads (k j : Nat) (L : List Int) : Prop := FqAt k 0 j L
def FqWrites (k t : Nat) (L : List Int) : Prop := FqAt k (t + 1) 0 L ∧ L.getD (8 + t) 0 = 0

set_option maxHeartbeats 1600000 in
theorem fq_ops (k : Nat) (d : Int) (h1 : 1 ≤ k) (h2 : k ≤ 64) : OpsT fqA k d (FqReads k) (FqWrites k) := by
  refine ⟨fq_step_same, ?_, ?_, ?_, ?_, ?_, ?_, ?_, ?_, ?_, ?_⟩
  · rintro i j op hi hj hop L hL
    have hown : ((i : Int) + 1) % 4294967296 = i + 1 := by omega
    have hne : ¬ ((i : Int) + 1 = 0) := by omega
    rcases hop with rfl | rfl
    · obtain ⟨L1, hs1, hF1, hz1, hn1⟩ := FqAt.st_next hL h2 hi
      obtain ⟨L2, hs2, hF2, hn2⟩ := FqAt.st_blocked hF1 h2 hi
      have hz2 := hn2 i hi hz1
      obtain ⟨L3, hs3, ho3, hF3, hn3⟩ := FqAt.sw (i := i) hF2 (i + 1)
      have hz3 := hn3 i hz2
      have k0 : AtT k d i (fqA (RnT k d i 1 0 0 0 L)) 1 1 0 0 L1 := by simp [AtT, RnT, fqA, fqEnter, fqReader, fqTry, fqWriter, fqDecide, fqOthers, fqGive, mxEnter, mxE0, mxE1, mxE2, mxGive, mxG0, mxG1, mxTry, mxOwn, wrap64, Rn.fresh, Rn.rests, Rn.did, Rn.setA, Rn.setB, Rn.note, Rn.noted, Rn.goto, Rn.fin, Rn.wake, Rn.waited, Wk.zero, hown, hs1]
      have k1 : AtT k d i (fqA (RnT k d i 1 1 0 0 L1)) 1 2 0 0 L2 := by simp [AtT, RnT, fqA, fqEnter, fqReader, fqTry, fqWriter, fqDecide, fqOthers, fqGive, mxEnter, mxE0, mxE1, mxE2, mxGive, mxG0, mxG1, mxTry, mxOwn, wrap64, Rn.fresh, Rn.rests, Rn.did, Rn.setA, Rn.setB, Rn.note, Rn.noted, Rn.goto, Rn.fin, Rn.wake, Rn.waited, Wk.zero, hown, hs2]
      have k2 : AtT k d i (fqA (RnT k d i 1 2 0 0 L2)) 1 5 0 0 L3 := by simp [AtT, RnT, fqA, fqEnter, fqReader, fqTry, fqWriter, fqDecide, fqOthers, fqGive, mxEnter, mxE0, mxE1, mxE2, mxGive, mxG0, mxG1, mxTry, mxOwn, wrap64, Rn.fresh, Rn.rests, Rn.did, Rn.setA, Rn.setB, Rn.note, Rn.noted, Rn.goto, Rn.fin, Rn.wake, Rn.waited, Wk.zero, hown, hs3, ho3]
      obtain ⟨L4, hs4, hF4, hn4⟩ := FqAt.add (i := i) hF3 1
      have hz4 := hn4 i hz3
      obtain ⟨g1, g2⟩ := hF4.ld_next h2 hi hz4
      obtain ⟨L5, hs5, hb5, hF5, hn5⟩ := FqAt.cas (i := i) hF4 rfl 0
      rw [show ((j : Int) + 1) % 4294967296 = ((j + 1 : Nat) : Int) from by omega] at hF5
      have k5 : AtT k d i (fqA (RnT k d i 1 5 0 0 L3)) 1 6 0 0 L4 := by simp [AtT, RnT, fqA, fqEnter, fqReader, fqTry, fqWriter, fqDecide, fqOthers, fqGive, mxEnter, mxE0, mxE1, mxE2, mxGive, mxG0, mxG1, mxTry, mxOwn, wrap64, Rn.fresh, Rn.rests, Rn.did, Rn.setA, Rn.setB, Rn.note, Rn.noted, Rn.goto, Rn.fin, Rn.wake, Rn.waited, Wk.zero, hown, hs4]
      have k6 : AtT k d i (fqA (RnT k d i 1 6 0 0 L4)) 1 7 0 0 L4 := by simp [AtT, RnT, fqA, fqEnter, fqReader, fqTry, fqWriter, fqDecide, fqOthers, fqGive, mxEnter, mxE0, mxE1, mxE2, mxGive, mxG0, mxG1, mxTry, mxOwn, wrap64, Rn.fresh, Rn.rests, Rn.did, Rn.setA, Rn.setB, Rn.note, Rn.noted, Rn.goto, Rn.fin, Rn.wake, Rn.waited, Wk.zero, hown, g1, g2]
      obtain ⟨s1, e1⟩ : ∃ s1, fqA (RnT k d i 1 7 0 0 L4) = s1 := ⟨_, rfl⟩
      have e2 := e1
      simp [AtT, RnT, fqA, fqEnter, fqReader, fqTry, fqWriter, fqDecide, fqOthers, fqGive, mxEnter, mxE0, mxE1, mxE2, mxGive, mxG0, mxG1, mxTry, mxOwn, wrap64, Rn.fresh, Rn.rests, Rn.did, Rn.setA, Rn.setB, Rn.note, Rn.noted, Rn.goto, Rn.fin, Rn.wake, Rn.waited, Wk.zero, hown, hs5, hb5] at e2
      subst e2
      refine ⟨6, _, by omega, ((startT_at k d i 1 L).go k0 (by decide) (k0.go k1 (by decide) (k1.go k2 (by decide) (k2.go k5 (by decide) (k5.go k6 (by decide) (k6.fin (by rw [e1]; simp) (by rw [e1]; rfl))))))), by rw [e1], by rw [e1], ?_⟩
      rw [e1]
      exact hF5
    · obtain ⟨L1, hs1, hF1, hz1, hn1⟩ := FqAt.st_next hL h2 hi
      obtain ⟨L3, hs3, hb3, hF3, hn3⟩ := FqAt.cas (i := i) hF1 rfl (i + 1)
      have hz3 := hn3 i hz1
      have k0 : AtT k d i (fqA (RnT k d i 5 0 0 0 L)) 5 1 0 0 L1 := by simp [AtT, RnT, fqA, fqEnter, fqReader, fqTry, fqWriter, fqDecide, fqOthers, fqGive, mxEnter, mxE0, mxE1, mxE2, mxGive, mxG0, mxG1, mxTry, mxOwn, wrap64, Rn.fresh, Rn.rests, Rn.did, Rn.setA, Rn.setB, Rn.note, Rn.noted, Rn.goto, Rn.fin, Rn.wake, Rn.waited, Wk.zero, hown, hs1]
      have k1 : AtT k d i (fqA (RnT k d i 5 1 0 0 L1)) 5 5 0 0 L3 := by simp [AtT, RnT, fqA, fqEnter, fqReader, fqTry, fqWriter, fqDecide, fqOthers, fqGive, mxEnter, mxE0, mxE1, mxE2, mxGive, mxG0, mxG1, mxTry, mxOwn, wrap64, Rn.fresh, Rn.rests, Rn.did, Rn.setA, Rn.setB, Rn.note, Rn.noted, Rn.goto, Rn.fin, Rn.wake, Rn.waited, Wk.zero, hown, hs3, hb3]
      obtain ⟨L4, hs4, hF4, hn4⟩ := FqAt.add (i := i) hF3 1
      have hz4 := hn4 i hz3
      obtain ⟨g1, g2⟩ := hF4.ld_next h2 hi hz4
      obtain ⟨L5, hs5, hb5, hF5, hn5⟩ := FqAt.cas (i := i) hF4 rfl 0
      rw [show ((j : Int) + 1) % 4294967296 = ((j + 1 : Nat) : Int) from by omega] at hF5
      have k5 : AtT k d i (fqA (RnT k d i 5 5 0 0 L3)) 5 6 0 0 L4 := by simp [AtT, RnT, fqA, fqEnter, fqReader, fqTry, fqWriter, fqDecide, fqOthers, fqGive, mxEnter, mxE0, mxE1, mxE2, mxGive, mxG0, mxG1, mxTry, mxOwn, wrap64, Rn.fresh, Rn.rests, Rn.did, Rn.setA, Rn.setB, Rn.note, Rn.noted, Rn.goto, Rn.fin, Rn.wake, Rn.waited, Wk.zero, hown, hs4]
      have k6 : AtT k d i (fqA (RnT k d i 5 6 0 0 L4)) 5 7 0 0 L4 := by simp [AtT, RnT, fqA, fqEnter, fqReader, fqTry, fqWriter, fqDecide, fqOthers, fqGive, mxEnter, mxE0, mxE1, mxE2, mxGive, mxG0, mxG1, mxTry, mxOwn, wrap64, Rn.fresh, Rn.rests, Rn.did, Rn.setA, Rn.setB, Rn.note, Rn.noted, Rn.goto, Rn.fin, Rn.wake, Rn.waited, Wk.zero, hown, g1, g2]
      obtain ⟨s1, e1⟩ : ∃ s1, fqA (RnT k d i 5 7 0 0 L4) = s1 := ⟨_, rfl⟩
      have e2 := e1
      simp [AtT, RnT, fqA, fqEnter, fqReader, fqTry, fqWriter, fqDecide, fqOthers, fqGive, mxEnter, mxE0, mxE1, mxE2, mxGive, mxG0, mxG1, mxTry, mxOwn, wrap64, Rn.fresh, Rn.rests, Rn.did, Rn.setA, Rn.setB, Rn.note, Rn.noted, Rn.goto, Rn.fin, Rn.wake, Rn.waited, Wk.zero, hown, hs5, hb5] at e2
      subst e2
      refine ⟨5, _, by omega, ((startT_at k d i 5 L).go k0 (by decide) (k0.go k1 (by decide) (k1.go k5 (by decide) (k5.go k6 (by decide) (k6.fin (by rw [e1]; simp) (by rw [e1]; rfl)))))), by rw [e1], by rw [e1], ?_⟩
      rw [e1]
      exact hF5
  · rintro i j hi hj L hL
    have hown : ((i : Int) + 1) % 4294967296 = i + 1 := by omega
    have hne : ¬ ((i : Int) + 1 = 0) := by omega
    obtain ⟨L1, hs1, hF1, hn1⟩ := FqAt.add (i := i) hL 4294967295
    rw [show (((j + 1 : Nat) : Int) + 4294967295) % 4294967296 = (j : Int) from by omega] at hF1
    obtain ⟨s1, e1⟩ : ∃ s1, fqA (RnT k d i 2 0 0 0 L) = s1 := ⟨_, rfl⟩
    have e2 := e1
    simp [AtT, RnT, fqA, fqEnter, fqReader, fqTry, fqWriter, fqDecide, fqOthers, fqGive, mxEnter, mxE0, mxE1, mxE2, mxGive, mxG0, mxG1, mxTry, mxOwn, wrap64, Rn.fresh, Rn.rests, Rn.did, Rn.setA, Rn.setB, Rn.note, Rn.noted, Rn.goto, Rn.fin, Rn.wake, Rn.waited, Wk.zero, hown, hs1] at e2
    subst e2
    obtain ⟨n, s', h3, h4, h5, h6, h7⟩ := AtT.ends (g := fqA) (startT_at k d i 2 L) 1 e1 (by simp) (by simp) rfl (by simp; omega) (hF1.nowatch h2 h1 1 (by omega))
    refine ⟨_, s', by simp at h3; omega, h4, h6, h7, ?_⟩
    rw [h5]
    exact hF1
  · rintro i hi L hL
    have hown : ((i : Int) + 1) % 4294967296 = i + 1 := by omega
    have hne : ¬ ((i : Int) + 1 = 0) := by omega
    obtain ⟨L1, hs1, hF1, hz1, hn1⟩ := FqAt.st_next hL h2 hi
    obtain ⟨L2, hs2, hF2, hn2⟩ := FqAt.st_blocked hF1 h2 hi
    have hz2 := hn2 i hi hz1
    obtain ⟨L3, hs3, ho3, hF3, hn3⟩ := FqAt.sw (i := i) hF2 (i + 1)
    have hz3 := hn3 i hz2
    have k0 : AtT k d i (fqA (RnT k d i 3 0 0 0 L)) 3 1 0 0 L1 := by simp [AtT, RnT, fqA, fqEnter, fqReader, fqTry, fqWriter, fqDecide, fqOthers, fqGive, mxEnter, mxE0, mxE1, mxE2, mxGive, mxG0, mxG1, mxTry, mxOwn, wrap64, Rn.fresh, Rn.rests, Rn.did, Rn.setA, Rn.setB, Rn.note, Rn.noted, Rn.goto, Rn.fin, Rn.wake, Rn.waited, Wk.zero, hown, hs1]
    have k1 : AtT k d i (fqA (RnT k d i 3 1 0 0 L1)) 3 2 0 0 L2 := by simp [AtT, RnT, fqA, fqEnter, fqReader, fqTry, fqWriter, fqDecide, fqOthers, fqGive, mxEnter, mxE0, mxE1, mxE2, mxGive, mxG0, mxG1, mxTry, mxOwn, wrap64, Rn.fresh, Rn.rests, Rn.did, Rn.setA, Rn.setB, Rn.note, Rn.noted, Rn.goto, Rn.fin, Rn.wake, Rn.waited, Wk.zero, hown, hs2]
    have k2 : AtT k d i (fqA (RnT k d i 3 2 0 0 L2)) 3 5 0 0 L3 := by simp [AtT, RnT, fqA, fqEnter, fqReader, fqTry, fqWriter, fqDecide, fqOthers, fqGive, mxEnter, mxE0, mxE1, mxE2, mxGive, mxG0, mxG1, mxTry, mxOwn, wrap64, Rn.fresh, Rn.rests, Rn.did, Rn.setA, Rn.setB, Rn.note, Rn.noted, Rn.goto, Rn.fin, Rn.wake, Rn.waited, Wk.zero, hown, hs3, ho3]
    have hw3 := hF3.wait rfl k d i
    obtain ⟨s1, e1⟩ : ∃ s1, fqA (RnT k d i 3 5 0 0 L3) = s1 := ⟨_, rfl⟩
    have e2 := e1
    simp [AtT, RnT, fqA, fqEnter, fqReader, fqTry, fqWriter, fqDecide, fqOthers, fqGive, mxEnter, mxE0, mxE1, mxE2, mxGive, mxG0, mxG1, mxTry, mxOwn, wrap64, Rn.fresh, Rn.rests, Rn.did, Rn.setA, Rn.setB, Rn.note, Rn.noted, Rn.goto, Rn.fin, Rn.wake, Rn.waited, Wk.zero, hown, hw3] at e2
    subst e2
    refine ⟨4, _, by omega, ((startT_at k d i 3 L).go k0 (by decide) (k0.go k1 (by decide) (k1.go k2 (by decide) (k2.fin (by rw [e1]; simp) (by rw [e1]; rfl))))), by rw [e1], by rw [e1], ?_⟩
    rw [e1]
    exact ⟨hF3, hz3⟩
  · rintro i hi L ⟨hL, hz⟩
    have hown : ((i : Int) + 1) % 4294967296 = i + 1 := by omega
    have hne : ¬ ((i : Int) + 1 = 0) := by omega
    obtain ⟨g1, g2⟩ := hL.ld_next h2 hi hz
    obtain ⟨L9, hs9, hb9, hF9, hn9⟩ := FqAt.cas (i := i) hL rfl 0
    have m0 : AtT k d i (fqA (RnT k d i 4 0 0 0 L)) 4 1 0 0 L := by simp [AtT, RnT, fqA, fqEnter, fqReader, fqTry, fqWriter, fqDecide, fqOthers, fqGive, mxEnter, mxE0, mxE1, mxE2, mxGive, mxG0, mxG1, mxTry, mxOwn, wrap64, Rn.fresh, Rn.rests, Rn.did, Rn.setA, Rn.setB, Rn.note, Rn.noted, Rn.goto, Rn.fin, Rn.wake, Rn.waited, Wk.zero, hown, g1, g2]
    obtain ⟨s1, e1⟩ : ∃ s1, fqA (RnT k d i 4 1 0 0 L) = s1 := ⟨_, rfl⟩
    have e2 := e1
    simp [AtT, RnT, fqA, fqEnter, fqReader, fqTry, fqWriter, fqDecide, fqOthers, fqGive, mxEnter, mxE0, mxE1, mxE2, mxGive, mxG0, mxG1, mxTry, mxOwn, wrap64, Rn.fresh, Rn.rests, Rn.did, Rn.setA, Rn.setB, Rn.note, Rn.noted, Rn.goto, Rn.fin, Rn.wake, Rn.waited, Wk.zero, hown, hs9, hb9] at e2
    subst e2
    refine ⟨2, _, by omega, ((startT_at k d i 4 L).go m0 (by decide) (m0.fin (by rw [e1]; simp) (by rw [e1]; rfl))), by rw [e1], by rw [e1], ?_⟩
    rw [e1]
    exact hF9
  · rintro i hi L hL
    have hown : ((i : Int) + 1) % 4294967296 = i + 1 := by omega
    have hne : ¬ ((i : Int) + 1 = 0) := by omega
    obtain ⟨L1, hs1, hF1, hz1, hn1⟩ := FqAt.st_next hL h2 hi
    obtain ⟨L3, hs3, hb3, hF3, hn3⟩ := FqAt.cas (i := i) hF1 rfl (i + 1)
    have hz3 := hn3 i hz1
    have k0 : AtT k d i (fqA (RnT k d i 6 0 0 0 L)) 6 1 0 0 L1 := by simp [AtT, RnT, fqA, fqEnter, fqReader, fqTry, fqWriter, fqDecide, fqOthers, fqGive, mxEnter, mxE0, mxE1, mxE2, mxGive, mxG0, mxG1, mxTry, mxOwn, wrap64, Rn.fresh, Rn.rests, Rn.did, Rn.setA, Rn.setB, Rn.note, Rn.noted, Rn.goto, Rn.fin, Rn.wake, Rn.waited, Wk.zero, hown, hs1]
    have k1 : AtT k d i (fqA (RnT k d i 6 1 0 0 L1)) 6 2 0 0 L3 := by simp [AtT, RnT, fqA, fqEnter, fqReader, fqTry, fqWriter, fqDecide, fqOthers, fqGive, mxEnter, mxE0, mxE1, mxE2, mxGive, mxG0, mxG1, mxTry, mxOwn, wrap64, Rn.fresh, Rn.rests, Rn.did, Rn.setA, Rn.setB, Rn.note, Rn.noted, Rn.goto, Rn.fin, Rn.wake, Rn.waited, Wk.zero, hown, hs3, hb3]
    have hl3 := hF3.ld
    obtain ⟨s1, e1⟩ : ∃ s1, fqA (RnT k d i 6 2 0 0 L3) = s1 := ⟨_, rfl⟩
    have e2 := e1
    simp [AtT, RnT, fqA, fqEnter, fqReader, fqTry, fqWriter, fqDecide, fqOthers, fqGive, mxEnter, mxE0, mxE1, mxE2, mxGive, mxG0, mxG1, mxTry, mxOwn, wrap64, Rn.fresh, Rn.rests, Rn.did, Rn.setA, Rn.setB, Rn.note, Rn.noted, Rn.goto, Rn.fin, Rn.wake, Rn.waited, Wk.zero, hown, hl3] at e2
    subst e2
    refine ⟨3, _, by omega, ((startT_at k d i 6 L).go k0 (by decide) (k0.go k1 (by decide) (k1.fin (by rw [e1]; simp) (by rw [e1]; rfl)))), by rw [e1], by rw [e1], ?_⟩
    rw [e1]
    exact ⟨hF3, hz3⟩
  · rintro i j hi hj L hL
    have hown : ((i : Int) + 1) % 4294967296 = i + 1 := by omega
    have hne : ¬ ((i : Int) + 1 = 0) := by omega
    obtain ⟨L1, hs1, hF1, hz1, hn1⟩ := FqAt.st_next hL h2 hi
    obtain ⟨L3, hs3, hb3, hF3, hn3⟩ := FqAt.cas (i := i) hF1 rfl (i + 1)
    have hz3 := hn3 i hz1
    have k0 : AtT k d i (fqA (RnT k d i 6 0 0 0 L)) 6 1 0 0 L1 := by simp [AtT, RnT, fqA, fqEnter, fqReader, fqTry, fqWriter, fqDecide, fqOthers, fqGive, mxEnter, mxE0, mxE1, mxE2, mxGive, mxG0, mxG1, mxTry, mxOwn, wrap64, Rn.fresh, Rn.rests, Rn.did, Rn.setA, Rn.setB, Rn.note, Rn.noted, Rn.goto, Rn.fin, Rn.wake, Rn.waited, Wk.zero, hown, hs1]
    have k1 : AtT k d i (fqA (RnT k d i 6 1 0 0 L1)) 6 2 0 0 L3 := by simp [AtT, RnT, fqA, fqEnter, fqReader, fqTry, fqWriter, fqDecide, fqOthers, fqGive, mxEnter, mxE0, mxE1, mxE2, mxGive, mxG0, mxG1, mxTry, mxOwn, wrap64, Rn.fresh, Rn.rests, Rn.did, Rn.setA, Rn.setB, Rn.note, Rn.noted, Rn.goto, Rn.fin, Rn.wake, Rn.waited, Wk.zero, hown, hs3, hb3]
    have hl3 := hF3.ld
    have hj1 : ¬ (((j + 1 : Nat) : Int) = 0) := by omega
    generalize hvj : ((j + 1 : Nat) : Int) = v at hl3 hj1 hF3
    have k2 : AtT k d i (fqA (RnT k d i 6 2 0 0 L3)) 6 6 v 0 L3 := by simp [AtT, RnT, fqA, fqEnter, fqReader, fqTry, fqWriter, fqDecide, fqOthers, fqGive, mxEnter, mxE0, mxE1, mxE2, mxGive, mxG0, mxG1, mxTry, mxOwn, wrap64, Rn.fresh, Rn.rests, Rn.did, Rn.setA, Rn.setB, Rn.note, Rn.noted, Rn.goto, Rn.fin, Rn.wake, Rn.waited, Wk.zero, hown, hl3, hj1]
    obtain ⟨g1, g2⟩ := hF3.ld_next h2 hi hz3
    obtain ⟨L9, hs9, hb9, hF9, hn9⟩ := FqAt.cas (i := i) hF3 rfl 0
    have m0 : AtT k d i (fqA (RnT k d i 6 6 v 0 L3)) 6 7 0 0 L3 := by simp [AtT, RnT, fqA, fqEnter, fqReader, fqTry, fqWriter, fqDecide, fqOthers, fqGive, mxEnter, mxE0, mxE1, mxE2, mxGive, mxG0, mxG1, mxTry, mxOwn, wrap64, Rn.fresh, Rn.rests, Rn.did, Rn.setA, Rn.setB, Rn.note, Rn.noted, Rn.goto, Rn.fin, Rn.wake, Rn.waited, Wk.zero, hown, g1, g2]
    obtain ⟨s1, e1⟩ : ∃ s1, fqA (RnT k d i 6 7 0 0 L3) = s1 := ⟨_, rfl⟩
    have e2 := e1
    simp [AtT, RnT, fqA, fqEnter, fqReader, fqTry, fqWriter, fqDecide, fqOthers, fqGive, mxEnter, mxE0, mxE1, mxE2, mxGive, mxG0, mxG1, mxTry, mxOwn, wrap64, Rn.fresh, Rn.rests, Rn.did, Rn.setA, Rn.setB, Rn.note, Rn.noted, Rn.goto, Rn.fin, Rn.wake, Rn.waited, Wk.zero, hown, hs9, hb9] at e2
    subst e2
    refine ⟨5, _, by omega, ((startT_at k d i 6 L).go k0 (by decide) (k0.go k1 (by decide) (k1.go k2 (by decide) (k2.go m0 (by decide) (m0.fin (by rw [e1]; simp) (by rw [e1]; rfl)))))), by rw [e1], by rw [e1], ?_⟩
    rw [e1]
    exact (show FqAt k 0 ((j + 1 : Nat) : Int) _ from by rw [hvj]; exact hF9)
  · rintro i q hi hq L ⟨hL, hz⟩
    have hown : ((i : Int) + 1) % 4294967296 = i + 1 := by omega
    have hne : ¬ ((i : Int) + 1 = 0) := by omega
    obtain ⟨L1, hs1, hF1, hz1, hn1⟩ := FqAt.st_next hL h2 hi
    obtain ⟨g1, g2⟩ := hF1.casno (x := 0) (by omega) (i + 1)
    have k0 : AtT k d i (fqA (RnT k d i 6 0 0 0 L)) 6 1 0 0 L1 := by simp [AtT, RnT, fqA, fqEnter, fqReader, fqTry, fqWriter, fqDecide, fqOthers, fqGive, mxEnter, mxE0, mxE1, mxE2, mxGive, mxG0, mxG1, mxTry, mxOwn, wrap64, Rn.fresh, Rn.rests, Rn.did, Rn.setA, Rn.setB, Rn.note, Rn.noted, Rn.goto, Rn.fin, Rn.wake, Rn.waited, Wk.zero, hown, hs1]
    obtain ⟨s1, e1⟩ : ∃ s1, fqA (RnT k d i 6 1 0 0 L1) = s1 := ⟨_, rfl⟩
    have e2 := e1
    simp [AtT, RnT, fqA, fqEnter, fqReader, fqTry, fqWriter, fqDecide, fqOthers, fqGive, mxEnter, mxE0, mxE1, mxE2, mxGive, mxG0, mxG1, mxTry, mxOwn, wrap64, Rn.fresh, Rn.rests, Rn.did, Rn.setA, Rn.setB, Rn.note, Rn.noted, Rn.goto, Rn.fin, Rn.wake, Rn.waited, Wk.zero, hown, g1, g2] at e2
    subst e2
    refine ⟨2, _, by omega, ((startT_at k d i 6 L).go k0 (by decide) (k0.fin (by rw [e1]; simp) (by rw [e1]; rfl))), by rw [e1], by rw [e1], ?_⟩
    rw [e1]
    exact ⟨hF1, hn1 q hz⟩
  · rintro i q hi hq L ⟨hL, hz⟩
    have hown : ((i : Int) + 1) % 4294967296 = i + 1 := by omega
    have hne : ¬ ((i : Int) + 1 = 0) := by omega
    obtain ⟨L1, hs1, hF1, hz1, hn1⟩ := FqAt.st_next hL h2 hi
    obtain ⟨g1, g2⟩ := hF1.casno (x := 0) (by omega) (i + 1)
    have k0 : AtT k d i (fqA (RnT k d i 5 0 0 0 L)) 5 1 0 0 L1 := by simp [AtT, RnT, fqA, fqEnter, fqReader, fqTry, fqWriter, fqDecide, fqOthers, fqGive, mxEnter, mxE0, mxE1, mxE2, mxGive, mxG0, mxG1, mxTry, mxOwn, wrap64, Rn.fresh, Rn.rests, Rn.did, Rn.setA, Rn.setB, Rn.note, Rn.noted, Rn.goto, Rn.fin, Rn.wake, Rn.waited, Wk.zero, hown, hs1]
    obtain ⟨s1, e1⟩ : ∃ s1, fqA (RnT k d i 5 1 0 0 L1) = s1 := ⟨_, rfl⟩
    have e2 := e1
    simp [AtT, RnT, fqA, fqEnter, fqReader, fqTry, fqWriter, fqDecide, fqOthers, fqGive, mxEnter, mxE0, mxE1, mxE2, mxGive, mxG0, mxG1, mxTry, mxOwn, wrap64, Rn.fresh, Rn.rests, Rn.did, Rn.setA, Rn.setB, Rn.note, Rn.noted, Rn.goto, Rn.fin, Rn.wake, Rn.waited, Wk.zero, hown, g1, g2] at e2
    subst e2
    refine ⟨2, _, by omega, ((startT_at k d i 5 L).go k0 (by decide) (k0.fin (by rw [e1]; simp) (by rw [e1]; rfl))), by rw [e1], by rw [e1], ?_⟩
    rw [e1]
    exact ⟨hF1, hn1 q hz⟩
  · rintro i hi L ⟨hL, hz⟩
    have hown : ((i : Int) + 1) % 4294967296 = i + 1 := by omega
    have hne : ¬ ((i : Int) + 1 = 0) := by omega
    obtain ⟨L1, hs1, hF1, hn1⟩ := FqAt.add (i := i) hL 1
    have hz1 := hn1 i hz
    have k0 : AtT k d i (fqA (RnT k d i 8 0 0 0 L)) 8 1 0 0 L1 := by simp [AtT, RnT, fqA, fqEnter, fqReader, fqTry, fqWriter, fqDecide, fqOthers, fqGive, mxEnter, mxE0, mxE1, mxE2, mxGive, mxG0, mxG1, mxTry, mxOwn, wrap64, Rn.fresh, Rn.rests, Rn.did, Rn.setA, Rn.setB, Rn.note, Rn.noted, Rn.goto, Rn.fin, Rn.wake, Rn.waited, Wk.zero, hown, hs1]
    obtain ⟨g1, g2⟩ := hF1.ld_next h2 hi hz1
    obtain ⟨L9, hs9, hb9, hF9, hn9⟩ := FqAt.cas (i := i) hF1 rfl 0
    have m0 : AtT k d i (fqA (RnT k d i 8 1 0 0 L1)) 8 2 0 0 L1 := by simp [AtT, RnT, fqA, fqEnter, fqReader, fqTry, fqWriter, fqDecide, fqOthers, fqGive, mxEnter, mxE0, mxE1, mxE2, mxGive, mxG0, mxG1, mxTry, mxOwn, wrap64, Rn.fresh, Rn.rests, Rn.did, Rn.setA, Rn.setB, Rn.note, Rn.noted, Rn.goto, Rn.fin, Rn.wake, Rn.waited, Wk.zero, hown, g1, g2]
    obtain ⟨s1, e1⟩ : ∃ s1, fqA (RnT k d i 8 2 0 0 L1) = s1 := ⟨_, rfl⟩
    have e2 := e1
    simp [AtT, RnT, fqA, fqEnter, fqReader, fqTry, fqWriter, fqDecide, fqOthers, fqGive, mxEnter, mxE0, mxE1, mxE2, mxGive, mxG0, mxG1, mxTry, mxOwn, wrap64, Rn.fresh, Rn.rests, Rn.did, Rn.setA, Rn.setB, Rn.note, Rn.noted, Rn.goto, Rn.fin, Rn.wake, Rn.waited, Wk.zero, hown, hs9, hb9] at e2
    subst e2
    refine ⟨3, _, by omega, ((startT_at k d i 8 L).go k0 (by decide) (k0.go m0 (by decide) (m0.fin (by rw [e1]; simp) (by rw [e1]; rfl)))), by rw [e1], by rw [e1], ?_⟩
    rw [e1]
    exact hF9
  · rintro i hi L hL
    have hown : ((i : Int) + 1) % 4294967296 = i + 1 := by omega
    have hne : ¬ ((i : Int) + 1 = 0) := by omega
    obtain ⟨L1, hs1, hF1, hz1, hn1⟩ := FqAt.st_next hL h2 hi
    obtain ⟨L3, hs3, hb3, hF3, hn3⟩ := FqAt.cas (i := i) hF1 rfl (i + 1)
    have hz3 := hn3 i hz1
    have k0 : AtT k d i (fqA (RnT k d i 7 0 0 0 L)) 7 1 0 0 L1 := by simp [AtT, RnT, fqA, fqEnter, fqReader, fqTry, fqWriter, fqDecide, fqOthers, fqGive, mxEnter, mxE0, mxE1, mxE2, mxGive, mxG0, mxG1, mxTry, mxOwn, wrap64, Rn.fresh, Rn.rests, Rn.did, Rn.setA, Rn.setB, Rn.note, Rn.noted, Rn.goto, Rn.fin, Rn.wake, Rn.waited, Wk.zero, hown, hs1]
    have k1 : AtT k d i (fqA (RnT k d i 7 1 0 0 L1)) 7 2 0 0 L3 := by simp [AtT, RnT, fqA, fqEnter, fqReader, fqTry, fqWriter, fqDecide, fqOthers, fqGive, mxEnter, mxE0, mxE1, mxE2, mxGive, mxG0, mxG1, mxTry, mxOwn, wrap64, Rn.fresh, Rn.rests, Rn.did, Rn.setA, Rn.setB, Rn.note, Rn.noted, Rn.goto, Rn.fin, Rn.wake, Rn.waited, Wk.zero, hown, hs3, hb3]
    have hl3 := hF3.ld
    obtain ⟨L4, hs4, hF4, hn4⟩ := FqAt.add (i := i) hF3 4294967295
    have k2 : AtT k d i (fqA (RnT k d i 7 2 0 0 L3)) 7 3 1 0 L3 := by simp [AtT, RnT, fqA, fqEnter, fqReader, fqTry, fqWriter, fqDecide, fqOthers, fqGive, mxEnter, mxE0, mxE1, mxE2, mxGive, mxG0, mxG1, mxTry, mxOwn, wrap64, Rn.fresh, Rn.rests, Rn.did, Rn.setA, Rn.setB, Rn.note, Rn.noted, Rn.goto, Rn.fin, Rn.wake, Rn.waited, Wk.zero, hown, hl3]
    obtain ⟨s1, e1⟩ : ∃ s1, fqA (RnT k d i 7 3 1 0 L3) = s1 := ⟨_, rfl⟩
    have e2 := e1
    simp [AtT, RnT, fqA, fqEnter, fqReader, fqTry, fqWriter, fqDecide, fqOthers, fqGive, mxEnter, mxE0, mxE1, mxE2, mxGive, mxG0, mxG1, mxTry, mxOwn, wrap64, Rn.fresh, Rn.rests, Rn.did, Rn.setA, Rn.setB, Rn.note, Rn.noted, Rn.goto, Rn.fin, Rn.wake, Rn.waited, Wk.zero, hown, hs4] at e2
    subst e2
    refine ⟨4, _, by omega, ((startT_at k d i 7 L).go k0 (by decide) (k0.go k1 (by decide) (k1.go k2 (by decide) (k2.fin (by rw [e1]; simp) (by rw [e1]; rfl))))), by rw [e1], by rw [e1], ?_⟩
    rw [e1]
    exact ⟨hF4, hn4 i hz3⟩


def fqLists : List (List Int) := [[1, 2], [3, 4], [5, 2], [6, 4], [3, 8, 2], [1, 7, 4], [6, 8, 7, 4]]
def fqTry4 : List (Int × Int × Int × Int) := [(3, 5, 1, 4), (3, 6, 1, 4), (1, 6, 1, 2), (1, 5, 2, 2)]
/-- The queue is empty, and nobody is counted. -/
def fqEnd (base : Int) (E : List Int) : Prop := ldA E 0 = 0 ∧ ldA E 1 = 0
theorem fq_first (k : Nat) (base : Int) (h1 : 1 ≤ k) (h2 : k ≤ 64) : FqReads k 0 (own4 base ++ List.replicate ((8 + 4 * (k : Int)).toNat - 2) 0) := by
  refine ⟨by simp [own4]; omega, rfl, rfl, fun i hi => ?_⟩
  obtain ⟨j, hj⟩ : ∃ j : Nat, 8 + 2 * k + i = j + 2 := ⟨6 + 2 * k + i, by omega⟩
  rw [hj]
  show (List.replicate _ (0 : Int)).getD j 0 = 0
  rw [List.getD_eq_getElem?_getD, List.getElem?_replicate]
  split <;> rfl
theorem fq_runs (n d base : Int) (most : Nat) (h1 : 1 ≤ n) (h2 : n ≤ 64) (hm : 40 + 8 * n ≤ most) :
    ∀ l, l ∈ fqLists → ∃ E, Runs fqA n d most l (own4 base ++ List.replicate ((8 + 4 * n).toNat - 2) 0) E ∧ fqEnd base E := by
  obtain ⟨k, rfl⟩ : ∃ k : Nat, n = k := ⟨n.toNat, by omega⟩
  refine (fq_ops k d (by omega) (by omega)).runs (by omega) (by omega) ?_ (fq_first k base (by omega) (by omega))
  intro L hL
  exact FqAt.ld0 hL
theorem fq_tries (n d base : Int) (most : Nat) (h1 : 1 ≤ n) (h2 : n ≤ 64) (hm : 40 + 8 * n ≤ most) : ∀ x0 x1 x2 x3, (x0, x1, x2, x3) ∈ fqTry4 → ∃ s1 s2 s3, aloneA fqA most (start n d x0 (own4 base ++ List.replicate ((8 + 4 * n).toNat - 2) 0)) = (2, s1) ∧ aloneA fqA most (start n d x1 s1.L) = (x2, s2) ∧
    aloneA fqA most (start n d x3 s2.L) = (2, s3) ∧ (x2 = 1 → ∃ s4, aloneA fqA most (start n d 6 s3.L) = (2, s4)) := by
  obtain ⟨k, rfl⟩ : ∃ k : Nat, n = k := ⟨n.toNat, by omega⟩
  exact (fq_ops k d (by omega) (by omega)).tries (by omega) (by omega) (fq_first k base (by omega) (by omega))
theorem fq_together (k : Nat) (d op : Int) (h1 : 2 ≤ k) (h2 : k ≤ 16) (hop : op = 1 ∨ op = 5) : Together fqA k d op (FqReads k) :=
  (fq_ops k d (by omega) (by omega)).together h1 h2 hop

end Go.Proofs.Ytbcppehpfckgoaa.Z

/- Law 13: the statement FqTogether. Written by genmat.py. -/
set_option linter.unusedVariables false
set_option linter.unusedSimpArgs false
namespace Go.Proofs.Ytbcppehpfckgoaa.Z
open Go.RowKit

theorem fqTogether_any (n mode base : Int) (try_ : Bool) (w : World) (hn : 0 ≤ n ∧ n < 256) (hm : 0 ≤ mode ∧ mode < 256) (hb : 0 ≤ base ∧ base < 4294967296) :
    Calls Try.prog 7 #[.int .u8 n, .int .u8 mode, .int .u32 base, .bool try_] w fun e w' => e = .returned (.bool true) ∧ Touch [] w w' := by
  refine fq_together_walk n mode base try_ w hb hn hm (if try_ then 5 else 1) rfl fun k hk => ?_
  have hop : (if try_ = true then (5 : Int) else 1) = 1 ∨ (if try_ = true then (5 : Int) else 1) = 5 := by cases try_ <;> simp
  exact together_ok hop (fq_together k (1 + mode % 2) _ (by omega) (by omega) hop) (fq_first k base (by omega) (by omega)) (by omega)

end Go.Proofs.Ytbcppehpfckgoaa.Z

/- Arguments opened: whole numbers, structs of whole numbers, slices of these. No statement is in sight. -/
set_option linter.unusedVariables false
set_option linter.unusedSimpArgs false
namespace Go.Proofs.Ytbcppehpfckgoaa.Z
open Go.RowKit Go.ChangeShapes Go.WideShapes Go.ChangeAt Go.Deep

/-- Whatever reads as a value of type t has cells of this form. -/
def Flat (P : Program) (t : TypeId) (ok : List Value → Prop) : Prop :=
  ∀ (H : Type) (enc : TypeId × Value → H) (w : World) (base : Nat) (spare : Nat → Bool) (held : Bool) (fuel : Nat) (cs : List Value) (x : DataW H × List MemPlace),
    DataW.trod enc P w base spare held fuel t cs = some x → ok cs

theorem flat_int {P : Program} {t : TypeId} {k : IntKind} (ht : P.underlying t = some (.int k)) : Flat P t (fun cs => ∃ n, cs = [.int k n] ∧ (Lit.int k n).wf = true) := by
  intro H enc w base spare held fuel cs x h
  obtain ⟨n, h1, _, h2⟩ := DataW.trod_int ht h
  exact ⟨n, h1, h2⟩

theorem flat_bool {P : Program} {t : TypeId} (ht : P.underlying t = some .bool) : Flat P t (fun cs => ∃ b, cs = [.bool b]) := by
  intro H enc w base spare held fuel cs x h
  obtain ⟨n, h1, _⟩ := DataW.trod_bool ht h
  exact ⟨n, h1⟩

theorem flat_mono {P : Program} {t : TypeId} {ok ok' : List Value → Prop} (h : Flat P t ok) (hm : ∀ cs, ok cs → ok' cs) : Flat P t ok' :=
  fun H enc w base spare held fuel cs x hx => hm _ (h H enc w base spare held fuel cs x hx)

/-- A struct: each field's cells are of that field's form. -/
theorem flat_struct {P : Program} {t : TypeId} {fs : Array Field} (ht : P.underlying t = some (.struct fs)) :
    Flat P t (fun cs => cs.length = P.cellsOf t ∧ ∀ (i : Nat) (f : Field) (ok : List Value → Prop), fs[i]? = some f → Flat P f.type ok → ok ((cs.drop f.offset).take (P.cellsOf f.type))) := by
  intro H enc w base spare held fuel cs x h
  obtain ⟨xs, n, _, _, hl, hxl, hf⟩ := DataW.trod_struct ht h
  refine ⟨hl, fun i f ok hi hok => ?_⟩
  have hil : i < fs.size := (Array.getElem?_eq_some_iff.1 hi).1
  have := hf i f hi
  rw [List.getElem?_eq_getElem (by omega)] at this
  exact hok H enc w base spare held n _ _ this

theorem wf_u32 {n : Int} (h : (Lit.int .u32 n).wf = true) : 0 ≤ n ∧ n < 4294967296 := by
  simp [Lit.wf, IntKind.min, IntKind.max, IntKind.signed, IntKind.bits] at h; omega
theorem wf_u8 {n : Int} (h : (Lit.int .u8 n).wf = true) : 0 ≤ n ∧ n < 256 := by
  simp [Lit.wf, IntKind.min, IntKind.max, IntKind.signed, IntKind.bits] at h; omega
theorem wf_i64 {n : Int} (h : (Lit.int .i64 n).wf = true) : -9223372036854775808 ≤ n ∧ n ≤ 9223372036854775807 := by
  simp [Lit.wf, IntKind.min, IntKind.max, IntKind.signed, IntKind.bits] at h; omega
theorem wf_i32 {n : Int} (h : (Lit.int .i32 n).wf = true) : -2147483648 ≤ n ∧ n < 2147483648 := by
  simp [Lit.wf, IntKind.min, IntKind.max, IntKind.signed, IntKind.bits] at h; omega

theorem flatMap_at {α : Type} {dec : α → List Value} {size : Nat} (hs : 0 < size) (hlen : ∀ a, (dec a).length = size) : ∀ (l : List α) (i j : Nat) (h : i < l.length), j < size → (l.flatMap dec)[i * size + j]? = (dec l[i])[j]? := by
  intro l
  induction l with
  | nil => intro i j h; simp at h
  | cons a l ih =>
    intro i j h hj
    rw [List.flatMap_cons]
    cases i with
    | zero =>
      rw [List.getElem?_append_left (by rw [hlen]; omega)]
      simp
    | succ i =>
      rw [List.getElem?_append_right (by rw [hlen, Nat.succ_mul]; omega), hlen, show (i + 1) * size + j - size = i * size + j by rw [Nat.succ_mul]; omega, ih i j (by simpa using h) hj]
      rfl

theorem flatMap_length {α : Type} {dec : α → List Value} {size : Nat} (hlen : ∀ a, (dec a).length = size) (l : List α) : (l.flatMap dec).length = l.length * size := by
  induction l with
  | nil => simp
  | cons a l ih => rw [List.flatMap_cons, List.length_append, ih, hlen, List.length_cons, Nat.succ_mul]; omega

/-- A slice of flat elements, as a list. -/
theorem open_list {P : Program} {H : Type} {enc : TypeId × Value → H} {w : World} {t e : TypeId} {α : Type} {dec : α → List Value} {ok : α → Prop} {size : Nat} {A : Option Addr} {n c : Nat} {d : DataW H} {p : List MemPlace}
    (ht : P.underlying t = some (.slice e)) (hF : Flat P e (fun cs => ∃ a, ok a ∧ cs = dec a)) (hC : P.cellsOf e = size) (hs : 0 < size) (hlen : ∀ a, (dec a).length = size)
    (h : DataW.Trod enc P w 0 (fun _ => true) true t (.slice A n c) d p) (lt : ∀ x ∈ p, x.block < w.heap.size) :
    ∃ l : List α, l.length = n ∧ (∀ a, a ∈ l → ok a) ∧ Rd w size A n (l.flatMap dec) ∧ n ≤ c ∧ c ≤ 9223372036854775807 := by
  obtain ⟨fuel, hf⟩ := h
  rcases open_slice ht hf with ⟨hcs, _⟩ | ⟨a, len, cap, m, n', D, Pl, hcs, hb, hl, hm, hmm, hx, hi⟩
  · simp [Value.cells] at hcs
    obtain ⟨rfl, rfl, rfl⟩ := hcs
    exact ⟨[], rfl, by simp, Rd.nil _ _ _, Nat.le_refl _, by decide⟩
  · simp [Value.cells] at hcs
    obtain ⟨rfl, rfl, rfl⟩ := hcs
    simp at hmm
    subst hmm
    have hE : ∀ i, i < n → ∃ y : α, ok y ∧ ∀ j, j < size → w.cell? (a.add (i * size + j)) = (dec y)[j]? := by
      intro i hin
      obtain ⟨cs', hc, htr⟩ := hi i (by omega)
      obtain ⟨y, hy, rfl⟩ := hF H enc w 0 _ true n' cs' _ htr
      rw [hC] at hc
      obtain ⟨_, hcl, hat⟩ := World.cells?_some hc
      exact ⟨y, hy, fun j hj => by rw [← Go.Deep.add_add]; exact hat j hj⟩
    have hL : ∀ n0, n0 ≤ n → ∃ l : List α, l.length = n0 ∧ ∀ i (h : i < l.length), ok l[i] ∧ ∀ j, j < size → w.cell? (a.add (i * size + j)) = (dec l[i])[j]? := by
      intro n0
      induction n0 with
      | zero => intro _; exact ⟨[], rfl, fun i h => by simp at h⟩
      | succ k ih =>
        intro hk
        obtain ⟨l, hl, hlp⟩ := ih (by omega)
        obtain ⟨y, hy, hyc⟩ := hE k (by omega)
        refine ⟨l ++ [y], by simp [hl], fun i h => ?_⟩
        by_cases hik : i < l.length
        · rw [List.getElem_append_left hik]; exact hlp i hik
        · have : i = k := by simp at h; omega
          subst this
          rw [List.getElem_append_right (by omega)]
          simp [hl]
          exact ⟨hy, hyc⟩
    obtain ⟨l, hll, hlp⟩ := hL n (Nat.le_refl _)
    refine ⟨l, hll, fun y hy => ?_, ⟨by rw [flatMap_length hlen, hll], fun h0 => ⟨a, rfl, ?_, fun j u hu => ?_⟩⟩, hl, hm⟩
    · obtain ⟨i, hi, rfl⟩ := List.getElem_of_mem hy
      exact (hlp i hi).1
    · have := (hlp 0 (by omega)).2 0 hs
      have h1 : (dec l[0])[0]? = some ((dec l[0])[0]'(by rw [hlen]; exact hs)) := List.getElem?_eq_getElem _
      rw [h1] at this
      have := World.block_lt_of_cell? w _ this
      rw [addr_block] at this
      exact this
    · have hj : j < l.length * size := by
        have := (List.getElem?_eq_some_iff.1 hu).1
        rwa [flatMap_length hlen] at this
      have e := Nat.div_add_mod j size
      have hd : j / size < l.length := Nat.div_lt_of_lt_mul (by rw [Nat.mul_comm]; exact hj)
      have hm := Nat.mod_lt j hs
      rw [Nat.mul_comm] at e
      have := (hlp _ hd).2 _ hm
      rw [e] at this
      rw [this, ← flatMap_at hs hlen l _ _ hd hm, e, hu]

/-- A struct by value, as its cells. -/
theorem open_flat {P : Program} {H : Type} {enc : TypeId × Value → H} {w : World} {t : TypeId} {fs : Array Field} {α : Type} {dec : α → List Value} {ok : α → Prop} {v : Value} {d : DataW H} {p : List MemPlace} {r : Reach} {base : Nat}
    (ht : P.underlying t = some (.struct fs)) (hF : Flat P t (fun cs => ∃ a, ok a ∧ cs = dec a)) (hv : Value.okWide P w r base t v) (h : DataW.Trod enc P w 0 (fun _ => true) true t v d p) :
    ∃ a, ok a ∧ v = .agg (dec a).toArray := by
  obtain ⟨cs, rfl, _⟩ := okWide_struct ht hv
  obtain ⟨fuel, hf⟩ := h
  obtain ⟨a, ha, hc⟩ := hF H enc w 0 _ true fuel _ _ hf
  refine ⟨a, ha, ?_⟩
  rw [← hc]
  simp [Value.cells]

/-- A number's value, its data left as they are. -/
theorem open_num {P : Program} {H : Type} {enc : TypeId × Value → H} {w : World} {t : TypeId} {k : IntKind} {v : Value} {d : DataW H} {p : List MemPlace} {r : Reach} {base : Nat}
    (ht : P.underlying t = some (.int k)) (hv : Value.okWide P w r base t v) (h : DataW.Trod enc P w 0 (fun _ => true) true t v d p) : ∃ n, v = .int k n ∧ (Lit.int k n).wf = true := by
  obtain ⟨n, h1, _, _, h2⟩ := open_int ht hv h
  exact ⟨n, h1, h2⟩

theorem open_truth {P : Program} {H : Type} {enc : TypeId × Value → H} {w : World} {t : TypeId} {v : Value} {d : DataW H} {p : List MemPlace} {r : Reach} {base : Nat}
    (ht : P.underlying t = some .bool) (hv : Value.okWide P w r base t v) (h : DataW.Trod enc P w 0 (fun _ => true) true t v d p) : ∃ b, v = .bool b := by
  obtain ⟨n, h1, _⟩ := open_bool ht hv h
  exact ⟨n, h1⟩

end Go.Proofs.Ytbcppehpfckgoaa.Z
