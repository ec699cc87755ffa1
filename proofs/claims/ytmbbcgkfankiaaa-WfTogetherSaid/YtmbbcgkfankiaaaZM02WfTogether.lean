/- 4 texts of this claim, joined: what each shows stands at its own head. -/
import Derived.Test.YtmbbcgkfankiaaaZM01WfTogether
import Derived.Test.YtmbbcgkfankiaaaZM00WfTogether
import Derived.Test.YtmbbcgkfankiaaaZRead
import Derived.ProofKit
import Derived.OpenShut
import Derived.ChangeOld
import Derived.SizedLaws
import Derived.Deep.Slices
/- A lock's operations, each whole, from words to words: by itself, tried, many that read. No lock in sight. -/
set_option linter.unusedVariables false
set_option linter.unusedSimpArgs false
namespace Go.Proofs.Ytmbbcgkfankiaaa.Z
open Go.RowKit

theorem alone_does {g : Rn → Rn} : ∀ {n : Nat} {s s' : Rn}, Does g n s s' → ∀ {m : Nat}, n ≤ m → aloneA g m s = (s'.f.ret, s') := by
  intro n s s' h
  induction h with
  | @last s s' hf hs ho =>
    intro m hm
    obtain ⟨m, rfl⟩ : ∃ j, m = j + 1 := ⟨m - 1, by omega⟩
    show (if (stepR g s).over then ((stepR g s).f.ret, stepR g s) else aloneA g m (stepR g s)) = _
    rw [hs, if_pos ho]
  | @more n s s1 s' hf hs ho hop hd ih =>
    intro m hm
    obtain ⟨m, rfl⟩ : ∃ j, m = j + 1 := ⟨m - 1, by omega⟩
    show (if (stepR g s).over then ((stepR g s).f.ret, stepR g s) else aloneA g m (stepR g s)) = _
    rw [hs, if_neg (by rw [ho]; decide)]
    exact ih (by omega)

/-- An operation of a task: from these words it ends so, and leaves those. -/
def OpDoes (g : Rn → Rn) (k : Nat) (d : Int) (t : Nat) (op ret : Int) (P Q : List Int → Prop) : Prop :=
  ∀ L, P L → ∃ n s', n ≤ 40 + 8 * k ∧ Does g n (startT k d t op L) s' ∧ s'.f.ret = ret ∧ s'.f.op = op ∧ Q s'.L

/-- What a lock's operations do: so many read; one writes. -/
structure Ops (g : Rn → Rn) (k : Nat) (d : Int) (P : Nat → List Int → Prop) (W : List Int → Prop) : Prop where
  same : Same g
  read : ∀ t j op, t < k → j ≤ 15 → (op = 1 ∨ op = 5) → OpDoes g k d t op 2 (P j) (P (j + 1))
  give : ∀ t j, t < k → j ≤ 15 → OpDoes g k d t 2 2 (P (j + 1)) (P j)
  lock : ∀ t, t < k → OpDoes g k d t 3 2 (P 0) W
  unlock : ∀ t, t < k → OpDoes g k d t 4 2 W (P 0)
  tryw : ∀ t, t < k → OpDoes g k d t 6 2 (P 0) W
  no : ∀ t j, t < k → j ≤ 15 → OpDoes g k d t 6 1 (P (j + 1)) (P (j + 1))
  noW : ∀ t, t < k → OpDoes g k d t 6 1 W W
  norW : ∀ t, t < k → OpDoes g k d t 5 1 W W
  down : ∀ t, t < k → OpDoes g k d t 8 2 W (P 1)
  up : ∀ t, t < k → OpDoes g k d t 7 2 (P 1) W

theorem Ops.together {g : Rn → Rn} {k : Nat} {d op : Int} {P : Nat → List Int → Prop} {W : List Int → Prop} (O : Ops g k d P W) (h1 : 2 ≤ k) (h2 : k ≤ 16) (hop : op = 1 ∨ op = 5) : Together g k d op P := by
  refine ⟨O.same, fun i j L hi hj hP => ?_, fun i j L hi hj hP => ?_, fun i j L hi hj hP => ?_, fun i L hi hP => ?_⟩
  · obtain ⟨n, s', h3, h4, h5, h6, h7⟩ := O.read i j op hi (by omega) hop L hP
    exact ⟨n, s', by omega, h4, h5, by rw [h6]; exact hop, h7⟩
  · obtain ⟨n, s', h3, h4, h5, h6, h7⟩ := O.no i j hi (by omega) L hP
    exact ⟨n, s', by omega, h4, by rw [h5]; decide, h7⟩
  · obtain ⟨n, s', h3, h4, h5, h6, h7⟩ := O.give i j hi (by omega) L hP
    exact ⟨n, s', by omega, h4, h6, h7⟩
  · obtain ⟨n, s', h3, h4, h5, h6, h7⟩ := O.tryw i hi L hP
    exact ⟨n, s', by omega, h4, h5, h6⟩

theorem OpDoes.alone {g : Rn → Rn} {k : Nat} {d op ret : Int} {P Q : List Int → Prop} (h : OpDoes g k d 0 op ret P Q) {most : Nat} (hm : 40 + 8 * k ≤ most) {L : List Int} (hP : P L) : ∃ s, aloneA g most (start k d op L) = (ret, s) ∧ Q s.L := by
  obtain ⟨n, s', h3, h4, h5, h6, h7⟩ := h L hP
  refine ⟨s', ?_, h7⟩
  rw [← h5]
  exact alone_does h4 (by omega)

theorem runs_nil {g : Rn → Rn} {n d : Int} {most : Nat} {Q R : List Int → Prop} (h : ∀ L, Q L → R L) : ∀ L, Q L → ∃ E, Runs g n d most [] L E ∧ R E := fun L hL => ⟨L, rfl, h L hL⟩
theorem runs_cons {g : Rn → Rn} {k : Nat} {d op : Int} {most : Nat} {P Q R : List Int → Prop} {os : List Int} (h : OpDoes g k d 0 op 2 P Q) (hm : 40 + 8 * k ≤ most) (hr : ∀ L, Q L → ∃ E, Runs g k d most os L E ∧ R E) : ∀ L, P L → ∃ E, Runs g k d most (op :: os) L E ∧ R E := by
  intro L hL
  obtain ⟨s, h1, h2⟩ := h.alone hm hL
  obtain ⟨E, h3, h4⟩ := hr s.L h2
  exact ⟨E, ⟨s, h1, h3⟩, h4⟩

/-- The lists of operations that the statements ask. -/
def opLists : List (List Int) := [[1, 2], [3, 4], [5, 2], [6, 4], [3, 8, 2], [1, 7, 4], [6, 8, 7, 4]]
theorem Ops.runs {g : Rn → Rn} {k : Nat} {d : Int} {P : Nat → List Int → Prop} {W R : List Int → Prop} (O : Ops g k d P W) (h1 : 1 ≤ k) {most : Nat} (hm : 40 + 8 * k ≤ most) (hR : ∀ L, P 0 L → R L) {Z : List Int} (hZ : P 0 Z) :
    ∀ l, l ∈ opLists → ∃ E, Runs g k d most l Z E ∧ R E := by
  have hk : 0 < k := h1
  have e := runs_nil (g := g) (n := k) (d := d) (most := most) hR
  have rd := fun op h => O.read 0 0 op hk (by omega) h
  intro l hl
  simp only [opLists, List.mem_cons, List.not_mem_nil, or_false] at hl
  rcases hl with rfl | rfl | rfl | rfl | rfl | rfl | rfl
  · exact runs_cons (rd 1 (Or.inl rfl)) hm (runs_cons (O.give 0 0 hk (by omega)) hm e) Z hZ
  · exact runs_cons (O.lock 0 hk) hm (runs_cons (O.unlock 0 hk) hm e) Z hZ
  · exact runs_cons (rd 5 (Or.inr rfl)) hm (runs_cons (O.give 0 0 hk (by omega)) hm e) Z hZ
  · exact runs_cons (O.tryw 0 hk) hm (runs_cons (O.unlock 0 hk) hm e) Z hZ
  · exact runs_cons (O.lock 0 hk) hm (runs_cons (O.down 0 hk) hm (runs_cons (O.give 0 0 hk (by omega)) hm e)) Z hZ
  · exact runs_cons (rd 1 (Or.inl rfl)) hm (runs_cons (O.up 0 hk) hm (runs_cons (O.unlock 0 hk) hm e)) Z hZ
  · exact runs_cons (O.tryw 0 hk) hm (runs_cons (O.down 0 hk) hm (runs_cons (O.up 0 hk) hm (runs_cons (O.unlock 0 hk) hm e))) Z hZ

/-- What one holds, what is tried, what that tells, what gives back. -/
def opTry : List (Int × Int × Int × Int) := [(3, 5, 1, 4), (3, 6, 1, 4), (1, 6, 1, 2), (1, 5, 2, 2)]
theorem Ops.tries {g : Rn → Rn} {k : Nat} {d : Int} {P : Nat → List Int → Prop} {W : List Int → Prop} (O : Ops g k d P W) (h1 : 1 ≤ k) {most : Nat} (hm : 40 + 8 * k ≤ most) {Z : List Int} (hZ : P 0 Z) :
    ∀ x0 x1 x2 x3, (x0, x1, x2, x3) ∈ opTry → ∃ s1 s2 s3, aloneA g most (start k d x0 Z) = (2, s1) ∧ aloneA g most (start k d x1 s1.L) = (x2, s2) ∧
      aloneA g most (start k d x3 s2.L) = (2, s3) ∧ (x2 = 1 → ∃ s4, aloneA g most (start k d 6 s3.L) = (2, s4)) := by
  have hk : 0 < k := h1
  intro x0 x1 x2 x3 hx
  simp only [opTry, List.mem_cons, List.not_mem_nil, or_false, Prod.mk.injEq] at hx
  rcases hx with ⟨rfl, rfl, rfl, rfl⟩ | ⟨rfl, rfl, rfl, rfl⟩ | ⟨rfl, rfl, rfl, rfl⟩ | ⟨rfl, rfl, rfl, rfl⟩
  · obtain ⟨s1, a1, b1⟩ := (O.lock 0 hk).alone hm hZ
    obtain ⟨s2, a2, b2⟩ := (O.norW 0 hk).alone hm b1
    obtain ⟨s3, a3, b3⟩ := (O.unlock 0 hk).alone hm b2
    obtain ⟨s4, a4, b4⟩ := (O.tryw 0 hk).alone hm b3
    exact ⟨s1, s2, s3, a1, a2, a3, fun _ => ⟨s4, a4⟩⟩
  · obtain ⟨s1, a1, b1⟩ := (O.lock 0 hk).alone hm hZ
    obtain ⟨s2, a2, b2⟩ := (O.noW 0 hk).alone hm b1
    obtain ⟨s3, a3, b3⟩ := (O.unlock 0 hk).alone hm b2
    obtain ⟨s4, a4, b4⟩ := (O.tryw 0 hk).alone hm b3
    exact ⟨s1, s2, s3, a1, a2, a3, fun _ => ⟨s4, a4⟩⟩
  · obtain ⟨s1, a1, b1⟩ := (O.read 0 0 1 hk (by omega) (Or.inl rfl)).alone hm hZ
    obtain ⟨s2, a2, b2⟩ := (O.no 0 0 hk (by omega)).alone hm b1
    obtain ⟨s3, a3, b3⟩ := (O.give 0 0 hk (by omega)).alone hm b2
    obtain ⟨s4, a4, b4⟩ := (O.tryw 0 hk).alone hm b3
    exact ⟨s1, s2, s3, a1, a2, a3, fun _ => ⟨s4, a4⟩⟩
  · obtain ⟨s1, a1, b1⟩ := (O.read 0 0 1 hk (by omega) (Or.inl rfl)).alone hm hZ
    obtain ⟨s2, a2, b2⟩ := (O.read 0 1 5 hk (by omega) (Or.inr rfl)).alone hm b1
    obtain ⟨s3, a3, b3⟩ := (O.give 0 1 hk (by omega)).alone hm b2
    exact ⟨s1, s2, s3, a1, a2, a3, fun h => absurd h (by decide)⟩

end Go.Proofs.Ytmbbcgkfankiaaa.Z

/- The lock in which writers go first: its operations, each whole. No program is in sight. -/
set_option linter.unusedVariables false
set_option linter.unusedSimpArgs false
namespace Go.Proofs.Ytmbbcgkfankiaaa.Z
open Go.RowKit

theorem wfv_add1 {v : Int} (h : 0 ≤ v ∧ v < 4294967296) (hr : wfR v < 255) : (0 ≤ (v + 1) % 4294967296 ∧ (v + 1) % 4294967296 < 4294967296) ∧ wfR ((v + 1) % 4294967296) = wfR v + 1 ∧ wfT ((v + 1) % 4294967296) = wfT v ∧ wfG ((v + 1) % 4294967296) = wfG v := by
  unfold wfR wfT wfG at *; omega
theorem wfv_sub1 {v : Int} (h : 0 ≤ v ∧ v < 4294967296) (hr : 1 ≤ wfR v) : (0 ≤ (v + 4294967295) % 4294967296 ∧ (v + 4294967295) % 4294967296 < 4294967296) ∧ wfR ((v + 4294967295) % 4294967296) = wfR v - 1 ∧ wfT ((v + 4294967295) % 4294967296) = wfT v ∧ wfG ((v + 4294967295) % 4294967296) = wfG v := by
  unfold wfR wfT wfG at *; omega
theorem wfv_ticket {v : Int} (h : 0 ≤ v ∧ v < 4294967296) : (0 ≤ (v + 65536) % 4294967296 ∧ (v + 65536) % 4294967296 < 4294967296) ∧ wfR ((v + 65536) % 4294967296) = wfR v ∧ wfT ((v + 65536) % 4294967296) = wfT v ∧ wfG ((v + 65536) % 4294967296) = (wfG v + 1) % 256 := by
  unfold wfR wfT wfG at *; omega
theorem wfv_up {v : Int} (h : 0 ≤ v ∧ v < 4294967296) (hr : 1 ≤ wfR v) : (0 ≤ (v + 65535) % 4294967296 ∧ (v + 65535) % 4294967296 < 4294967296) ∧ wfR ((v + 65535) % 4294967296) = wfR v - 1 ∧ wfT ((v + 65535) % 4294967296) = wfT v ∧ wfG ((v + 65535) % 4294967296) = (wfG v + 1) % 256 := by
  unfold wfR wfT wfG at *; omega
theorem wfv_next {v : Int} (h : 0 ≤ v ∧ v < 4294967296) : (0 ≤ (v + bump8 v) % 4294967296 ∧ (v + bump8 v) % 4294967296 < 4294967296) ∧ wfR ((v + bump8 v) % 4294967296) = wfR v ∧ wfT ((v + bump8 v) % 4294967296) = (wfT v + 1) % 256 ∧ wfG ((v + bump8 v) % 4294967296) = wfG v := by
  have e : (v + bump8 v) % 4294967296 = v - v / 256 % 256 * 256 + (v / 256 % 256 + 1) % 256 * 256 := by unfold bump8; omega
  rw [e]
  unfold wfR wfT wfG at *
  refine ⟨⟨by omega, by omega⟩, by omega, by omega, by omega⟩
theorem wfv_next1 {v : Int} (h : 0 ≤ v ∧ v < 4294967296) (hr : wfR v = 0) : (0 ≤ (v + (bump8 v + 1) % 4294967296) % 4294967296 ∧ (v + (bump8 v + 1) % 4294967296) % 4294967296 < 4294967296) ∧ wfR ((v + (bump8 v + 1) % 4294967296) % 4294967296) = 1 ∧ wfT ((v + (bump8 v + 1) % 4294967296) % 4294967296) = (wfT v + 1) % 256 ∧ wfG ((v + (bump8 v + 1) % 4294967296) % 4294967296) = wfG v := by
  have h1 := wfv_next h
  have e : (v + (bump8 v + 1) % 4294967296) % 4294967296 = ((v + bump8 v) % 4294967296 + 1) % 4294967296 := by omega
  rw [e]
  obtain ⟨h2, h3, h4, h5⟩ := h1
  have := wfv_add1 h2 (by omega)
  rw [h3, h4, h5] at this
  refine ⟨this.1, by omega, this.2.2.1, this.2.2.2⟩

/-- So many read, no writer has a ticket. -/
def WfReads (N : Nat) (j : Nat) (L : List Int) : Prop := ∃ v : Int, L = Wd N v ∧ (0 ≤ v ∧ v < 4294967296) ∧ wfR v = j ∧ wfT v = wfG v
/-- One writes. -/
def WfWrites (N : Nat) (L : List Int) : Prop := ∃ v : Int, L = Wd N v ∧ (0 ≤ v ∧ v < 4294967296) ∧ wfR v = 0 ∧ (wfT v + 1) % 256 = wfG v

theorem wf_not_calm {v : Int} (h : (wfT v + 1) % 256 = wfG v) : wfCalm v = false := by
  have : ¬ wfT v = wfG v := by unfold wfT at *; omega
  simpa [wfCalm] using this
theorem wf_is_calm {v : Int} (h : wfT v = wfG v) : wfCalm v = true := by simpa [wfCalm] using h

theorem wf_ops (k : Nat) (d : Int) (h1 : 1 ≤ k) (h2 : k ≤ 64) : Ops wfA k d (WfReads ((8 + 4 * (k : Int)).toNat - 1)) (WfWrites ((8 + 4 * (k : Int)).toNat - 1)) := by
  have hnw : ∀ x, NoWatch k 0 (Wd ((8 + 4 * (k : Int)).toNat - 1) x) := fun x => wd_nowatch k (by omega) (by omega) x
  generalize (8 + 4 * (k : Int)).toNat - 1 = N at hnw
  refine ⟨wf_step_same, ?_, ?_, ?_, ?_, ?_, ?_, ?_, ?_, ?_, ?_⟩
  · rintro i j op hi hj hop L ⟨v, rfl, hv, hr, ht⟩
    have hc := wf_is_calm ht
    obtain ⟨a1, a2, a3, a4⟩ := wfv_add1 hv (by omega)
    rcases hop with rfl | rfl
    · have k1 : AtT k d i (wfA (RnT k d i 1 0 0 0 (Wd N v))) 1 1 v 0 (Wd N v) := by simp [AtT, RnT, wfA, wf10, wf11, Rn.fresh, Rn.did, Rn.setA, Rn.note, Rn.goto, Rn.fin, Rn.wake, Rn.waited, Rn.wends, Rn.noted, Rn.wchosen, Rn.wswapped, wfCalmly, wd_load, wd_cas, wd_casB, wd_add, Wk.zero, hc]
      refine ⟨2, _, by omega, (startT_at _ _ _ _ _).go k1 (by decide) (k1.fin ?_ ?_), ?_, ?_, ?_⟩
      · simp [AtT, RnT, wfA, wf10, wf11, Rn.fresh, Rn.did, Rn.setA, Rn.note, Rn.goto, Rn.fin, Rn.wake, Rn.waited, Rn.wends, Rn.noted, Rn.wchosen, Rn.wswapped, wfCalmly, wd_load, wd_cas, wd_casB, wd_add, Wk.zero, hc]
      · simp [AtT, RnT, wfA, wf10, wf11, Rn.fresh, Rn.did, Rn.setA, Rn.note, Rn.goto, Rn.fin, Rn.wake, Rn.waited, Rn.wends, Rn.noted, Rn.wchosen, Rn.wswapped, wfCalmly, wd_load, wd_cas, wd_casB, wd_add, Wk.zero, hc]
      · simp [AtT, RnT, wfA, wf10, wf11, Rn.fresh, Rn.did, Rn.setA, Rn.note, Rn.goto, Rn.fin, Rn.wake, Rn.waited, Rn.wends, Rn.noted, Rn.wchosen, Rn.wswapped, wfCalmly, wd_load, wd_cas, wd_casB, wd_add, Wk.zero, hc]
      · simp [AtT, RnT, wfA, wf10, wf11, Rn.fresh, Rn.did, Rn.setA, Rn.note, Rn.goto, Rn.fin, Rn.wake, Rn.waited, Rn.wends, Rn.noted, Rn.wchosen, Rn.wswapped, wfCalmly, wd_load, wd_cas, wd_casB, wd_add, Wk.zero, hc]
      · refine ⟨_, ?_, a1, by omega, by omega⟩
        simp [AtT, RnT, wfA, wf10, wf11, Rn.fresh, Rn.did, Rn.setA, Rn.note, Rn.goto, Rn.fin, Rn.wake, Rn.waited, Rn.wends, Rn.noted, Rn.wchosen, Rn.wswapped, wfCalmly, wd_load, wd_cas, wd_casB, wd_add, Wk.zero, hc]
    · have k1 : AtT k d i (wfA (RnT k d i 5 0 0 0 (Wd N v))) 5 1 v 0 (Wd N v) := by simp [AtT, RnT, wfA, wf50, wf51, Rn.fresh, Rn.did, Rn.setA, Rn.note, Rn.goto, Rn.fin, Rn.wake, Rn.waited, Rn.wends, Rn.noted, Rn.wchosen, Rn.wswapped, wfCalmly, wd_load, wd_cas, wd_casB, wd_add, Wk.zero, hc]
      refine ⟨2, _, by omega, (startT_at _ _ _ _ _).go k1 (by decide) (k1.fin ?_ ?_), ?_, ?_, ?_⟩
      · simp [AtT, RnT, wfA, wf50, wf51, Rn.fresh, Rn.did, Rn.setA, Rn.note, Rn.goto, Rn.fin, Rn.wake, Rn.waited, Rn.wends, Rn.noted, Rn.wchosen, Rn.wswapped, wfCalmly, wd_load, wd_cas, wd_casB, wd_add, Wk.zero, hc]
      · simp [AtT, RnT, wfA, wf50, wf51, Rn.fresh, Rn.did, Rn.setA, Rn.note, Rn.goto, Rn.fin, Rn.wake, Rn.waited, Rn.wends, Rn.noted, Rn.wchosen, Rn.wswapped, wfCalmly, wd_load, wd_cas, wd_casB, wd_add, Wk.zero, hc]
      · simp [AtT, RnT, wfA, wf50, wf51, Rn.fresh, Rn.did, Rn.setA, Rn.note, Rn.goto, Rn.fin, Rn.wake, Rn.waited, Rn.wends, Rn.noted, Rn.wchosen, Rn.wswapped, wfCalmly, wd_load, wd_cas, wd_casB, wd_add, Wk.zero, hc]
      · simp [AtT, RnT, wfA, wf50, wf51, Rn.fresh, Rn.did, Rn.setA, Rn.note, Rn.goto, Rn.fin, Rn.wake, Rn.waited, Rn.wends, Rn.noted, Rn.wchosen, Rn.wswapped, wfCalmly, wd_load, wd_cas, wd_casB, wd_add, Wk.zero, hc]
      · refine ⟨_, ?_, a1, by omega, by omega⟩
        simp [AtT, RnT, wfA, wf50, wf51, Rn.fresh, Rn.did, Rn.setA, Rn.note, Rn.goto, Rn.fin, Rn.wake, Rn.waited, Rn.wends, Rn.noted, Rn.wchosen, Rn.wswapped, wfCalmly, wd_load, wd_cas, wd_casB, wd_add, Wk.zero, hc]
  · rintro i j hi hj L ⟨v, rfl, hv, hr, ht⟩
    obtain ⟨a1, a2, a3, a4⟩ := wfv_sub1 hv (by omega)
    obtain ⟨s1, e1⟩ : ∃ s1, wfA (RnT k d i 2 0 0 0 (Wd N v)) = s1 := ⟨_, rfl⟩
    have e2 := e1
    simp [AtT, RnT, wfA, wf20, Rn.fresh, Rn.did, Rn.setA, Rn.note, Rn.goto, Rn.fin, Rn.wake, Rn.waited, Rn.wends, Rn.noted, Rn.wchosen, Rn.wswapped, wfCalmly, wd_load, wd_cas, wd_casB, wd_add, Wk.zero, wfR] at e2
    subst e2
    obtain ⟨n, s', h3, h4, h5, h6, h7⟩ := AtT.ends (g := wfA) (startT_at k d i 2 (Wd N v)) 0 e1 (by simp) (by simp) rfl (by simp; omega) (hnw _)
    exact ⟨n, s', by simp at h3; omega, h4, h6, h7, _, h5, a1, by omega, by omega⟩
  · rintro i hi L ⟨v, rfl, hv, hr, ht⟩
    obtain ⟨a1, a2, a3, a4⟩ := wfv_ticket hv
    have hw : (wfT ((v + 65536) % 4294967296) == wfG v && wfR ((v + 65536) % 4294967296) == 0) = true := by rw [a2, a3, hr, ht]; simp
    have k1 : AtT k d i (wfA (RnT k d i 3 0 0 0 (Wd N v))) 3 1 v 0 (Wd N ((v + 65536) % 4294967296)) := by simp [AtT, RnT, wfA, wf30, Rn.fresh, Rn.did, Rn.setA, Rn.note, Rn.goto, Rn.fin, Rn.wake, Rn.waited, Rn.wends, Rn.noted, Rn.wchosen, Rn.wswapped, wfCalmly, wd_load, wd_cas, wd_casB, wd_add, Wk.zero, wfR]
    have hwt : waitA (Wd N ((v + 65536) % 4294967296)) k d i 0 0 (fun x => wfT x == wfG v && wfR x == 0) = ⟨0, ⟨1, 0, 0, 0, (v + 65536) % 4294967296⟩, true, true, Wd N ((v + 65536) % 4294967296)⟩ := by
      rw [wait_hit (by rw [wd_load]; exact hw), wd_load]
    have e1 : wfA (RnT k d i 3 1 v 0 (Wd N ((v + 65536) % 4294967296))) = (((RnT k d i 3 1 v 0 (Wd N ((v + 65536) % 4294967296))).waited ⟨0, ⟨1, 0, 0, 0, (v + 65536) % 4294967296⟩, true, true, Wd N ((v + 65536) % 4294967296)⟩).note 4 0).fin true := by
      simp only [RnT, wfA, wf31]
      simp [hwt]
    refine ⟨2, _, by omega, (startT_at _ _ _ _ _).go k1 (by decide) (k1.fin ?_ ?_), ?_, ?_, ?_⟩
    · rw [e1]; simp [Rn.fin]
    · rw [e1]; rfl
    · rw [e1]; simp [Rn.fin]
    · rw [e1]; rfl
    · rw [e1]
      exact ⟨_, rfl, a1, by omega, by omega⟩
  · rintro i hi L ⟨v, rfl, hv, hr, ht⟩
    obtain ⟨a1, a2, a3, a4⟩ := wfv_next hv
    have k1 : AtT k d i (wfA (RnT k d i 4 0 0 0 (Wd N v))) 4 1 v 0 (Wd N v) := by simp [AtT, RnT, wfA, wf40, Rn.fresh, Rn.did, Rn.setA, Rn.note, Rn.goto, Rn.fin, Rn.wake, Rn.waited, Rn.wends, Rn.noted, Rn.wchosen, Rn.wswapped, wfCalmly, wd_load, wd_cas, wd_casB, wd_add, Wk.zero, wfR]
    obtain ⟨s1, e1⟩ : ∃ s1, wfA (RnT k d i 4 1 v 0 (Wd N v)) = s1 := ⟨_, rfl⟩
    have e2 := e1
    simp [AtT, RnT, wfA, wf41, Rn.fresh, Rn.did, Rn.setA, Rn.note, Rn.goto, Rn.fin, Rn.wake, Rn.waited, Rn.wends, Rn.noted, Rn.wchosen, Rn.wswapped, wfCalmly, wd_load, wd_cas, wd_casB, wd_add, Wk.zero, wfR] at e2
    subst e2
    obtain ⟨n, s', h3, h4, h5, h6, h7⟩ := AtT.ends (g := wfA) k1 0 e1 (by simp) (by simp) rfl (by simp; omega) (hnw _)
    exact ⟨n + 1, s', by simp at h3; omega, (startT_at _ _ _ _ _).go k1 (by decide) h4, h6, h7, _, h5, a1, by simp; omega, by omega⟩
  · rintro i hi L ⟨v, rfl, hv, hr, ht⟩
    have hc := wf_is_calm ht
    have hr0 : wfR v = 0 := hr
    obtain ⟨a1, a2, a3, a4⟩ := wfv_ticket hv
    have k1 : AtT k d i (wfA (RnT k d i 6 0 0 0 (Wd N v))) 6 1 v 0 (Wd N v) := by simp [AtT, RnT, wfA, wf60, wf61, Rn.fresh, Rn.did, Rn.setA, Rn.note, Rn.goto, Rn.fin, Rn.wake, Rn.waited, Rn.wends, Rn.noted, Rn.wchosen, Rn.wswapped, wfCalmly, wd_load, wd_cas, wd_casB, wd_add, Wk.zero, hc, hr0]
    refine ⟨2, _, by omega, (startT_at _ _ _ _ _).go k1 (by decide) (k1.fin ?_ ?_), ?_, ?_, ?_⟩
    · simp [AtT, RnT, wfA, wf60, wf61, Rn.fresh, Rn.did, Rn.setA, Rn.note, Rn.goto, Rn.fin, Rn.wake, Rn.waited, Rn.wends, Rn.noted, Rn.wchosen, Rn.wswapped, wfCalmly, wd_load, wd_cas, wd_casB, wd_add, Wk.zero, hc, hr0]
    · simp [AtT, RnT, wfA, wf60, wf61, Rn.fresh, Rn.did, Rn.setA, Rn.note, Rn.goto, Rn.fin, Rn.wake, Rn.waited, Rn.wends, Rn.noted, Rn.wchosen, Rn.wswapped, wfCalmly, wd_load, wd_cas, wd_casB, wd_add, Wk.zero, hc, hr0]
    · simp [AtT, RnT, wfA, wf60, wf61, Rn.fresh, Rn.did, Rn.setA, Rn.note, Rn.goto, Rn.fin, Rn.wake, Rn.waited, Rn.wends, Rn.noted, Rn.wchosen, Rn.wswapped, wfCalmly, wd_load, wd_cas, wd_casB, wd_add, Wk.zero, hc, hr0]
    · simp [AtT, RnT, wfA, wf60, wf61, Rn.fresh, Rn.did, Rn.setA, Rn.note, Rn.goto, Rn.fin, Rn.wake, Rn.waited, Rn.wends, Rn.noted, Rn.wchosen, Rn.wswapped, wfCalmly, wd_load, wd_cas, wd_casB, wd_add, Wk.zero, hc, hr0]
    · refine ⟨_, ?_, a1, by omega, by omega⟩
      simp [AtT, RnT, wfA, wf60, wf61, Rn.fresh, Rn.did, Rn.setA, Rn.note, Rn.goto, Rn.fin, Rn.wake, Rn.waited, Rn.wends, Rn.noted, Rn.wchosen, Rn.wswapped, wfCalmly, wd_load, wd_cas, wd_casB, wd_add, Wk.zero, hc, hr0]
  · rintro i j hi hj L ⟨v, rfl, hv, hr, ht⟩
    have hc := wf_is_calm ht
    have hne : (wfR v == 0) = false := by have : ¬ wfR v = 0 := by omega
                                          simpa using this
    refine ⟨1, _, by omega, (startT_at _ _ _ _ _).fin ?_ ?_, ?_, ?_, v, ?_, hv, hr, ht⟩ <;> simp [AtT, RnT, wfA, wf60, Rn.fresh, Rn.did, Rn.setA, Rn.note, Rn.goto, Rn.fin, Rn.wake, Rn.waited, Rn.wends, Rn.noted, Rn.wchosen, Rn.wswapped, wfCalmly, wd_load, wd_cas, wd_casB, wd_add, Wk.zero, hc, hne]
  · rintro i hi L ⟨v, rfl, hv, hr, ht⟩
    have hc := wf_not_calm ht
    refine ⟨1, _, by omega, (startT_at _ _ _ _ _).fin ?_ ?_, ?_, ?_, v, ?_, hv, hr, ht⟩ <;> simp [AtT, RnT, wfA, wf60, Rn.fresh, Rn.did, Rn.setA, Rn.note, Rn.goto, Rn.fin, Rn.wake, Rn.waited, Rn.wends, Rn.noted, Rn.wchosen, Rn.wswapped, wfCalmly, wd_load, wd_cas, wd_casB, wd_add, Wk.zero, hc]
  · rintro i hi L ⟨v, rfl, hv, hr, ht⟩
    have hc := wf_not_calm ht
    refine ⟨1, _, by omega, (startT_at _ _ _ _ _).fin ?_ ?_, ?_, ?_, v, ?_, hv, hr, ht⟩ <;> simp [AtT, RnT, wfA, wf50, Rn.fresh, Rn.did, Rn.setA, Rn.note, Rn.goto, Rn.fin, Rn.wake, Rn.waited, Rn.wends, Rn.noted, Rn.wchosen, Rn.wswapped, wfCalmly, wd_load, wd_cas, wd_casB, wd_add, Wk.zero, hc]
  · rintro i hi L ⟨v, rfl, hv, hr, ht⟩
    obtain ⟨a1, a2, a3, a4⟩ := wfv_next1 hv hr
    rw [show (v + (bump8 v + 1) % 4294967296) % 4294967296 = (v + (bump8 v + 1)) % 4294967296 from by omega] at a1 a2 a3 a4
    have k1 : AtT k d i (wfA (RnT k d i 8 0 0 0 (Wd N v))) 8 1 v 0 (Wd N v) := by simp [AtT, RnT, wfA, wf80, Rn.fresh, Rn.did, Rn.setA, Rn.note, Rn.goto, Rn.fin, Rn.wake, Rn.waited, Rn.wends, Rn.noted, Rn.wchosen, Rn.wswapped, wfCalmly, wd_load, wd_cas, wd_casB, wd_add, Wk.zero, wfR]
    obtain ⟨s1, e1⟩ : ∃ s1, wfA (RnT k d i 8 1 v 0 (Wd N v)) = s1 := ⟨_, rfl⟩
    have e2 := e1
    simp [AtT, RnT, wfA, wf81, Rn.fresh, Rn.did, Rn.setA, Rn.note, Rn.goto, Rn.fin, Rn.wake, Rn.waited, Rn.wends, Rn.noted, Rn.wchosen, Rn.wswapped, wfCalmly, wd_load, wd_cas, wd_casB, wd_add, Wk.zero, wfR] at e2
    subst e2
    obtain ⟨n, s', h3, h4, h5, h6, h7⟩ := AtT.ends (g := wfA) k1 0 e1 (by simp) (by simp) rfl (by simp; omega) (hnw _)
    exact ⟨n + 1, s', by simp at h3; omega, (startT_at _ _ _ _ _).go k1 (by decide) h4, h6, h7, _, h5, a1, by simp; omega, by omega⟩
  · rintro i hi L ⟨v, rfl, hv, hr, ht⟩
    have hc := wf_is_calm ht
    have hr1 : wfR v = 1 := hr
    obtain ⟨a1, a2, a3, a4⟩ := wfv_up hv (by omega)
    have k1 : AtT k d i (wfA (RnT k d i 7 0 0 0 (Wd N v))) 7 1 v 0 (Wd N v) := by simp [AtT, RnT, wfA, wf70, wf71, Rn.fresh, Rn.did, Rn.setA, Rn.note, Rn.goto, Rn.fin, Rn.wake, Rn.waited, Rn.wends, Rn.noted, Rn.wchosen, Rn.wswapped, wfCalmly, wd_load, wd_cas, wd_casB, wd_add, Wk.zero, hc, hr1]
    refine ⟨2, _, by omega, (startT_at _ _ _ _ _).go k1 (by decide) (k1.fin ?_ ?_), ?_, ?_, ?_⟩
    · simp [AtT, RnT, wfA, wf70, wf71, Rn.fresh, Rn.did, Rn.setA, Rn.note, Rn.goto, Rn.fin, Rn.wake, Rn.waited, Rn.wends, Rn.noted, Rn.wchosen, Rn.wswapped, wfCalmly, wd_load, wd_cas, wd_casB, wd_add, Wk.zero, hc, hr1]
    · simp [AtT, RnT, wfA, wf70, wf71, Rn.fresh, Rn.did, Rn.setA, Rn.note, Rn.goto, Rn.fin, Rn.wake, Rn.waited, Rn.wends, Rn.noted, Rn.wchosen, Rn.wswapped, wfCalmly, wd_load, wd_cas, wd_casB, wd_add, Wk.zero, hc, hr1]
    · simp [AtT, RnT, wfA, wf70, wf71, Rn.fresh, Rn.did, Rn.setA, Rn.note, Rn.goto, Rn.fin, Rn.wake, Rn.waited, Rn.wends, Rn.noted, Rn.wchosen, Rn.wswapped, wfCalmly, wd_load, wd_cas, wd_casB, wd_add, Wk.zero, hc, hr1]
    · simp [AtT, RnT, wfA, wf70, wf71, Rn.fresh, Rn.did, Rn.setA, Rn.note, Rn.goto, Rn.fin, Rn.wake, Rn.waited, Rn.wends, Rn.noted, Rn.wchosen, Rn.wswapped, wfCalmly, wd_load, wd_cas, wd_casB, wd_add, Wk.zero, hc, hr1]
    · refine ⟨_, ?_, a1, by omega, by omega⟩
      simp [AtT, RnT, wfA, wf70, wf71, Rn.fresh, Rn.did, Rn.setA, Rn.note, Rn.goto, Rn.fin, Rn.wake, Rn.waited, Rn.wends, Rn.noted, Rn.wchosen, Rn.wswapped, wfCalmly, wd_load, wd_cas, wd_casB, wd_add, Wk.zero, hc, hr1]

def wfLists : List (List Int) := [[1, 2], [3, 4], [5, 2], [6, 4], [3, 8, 2], [1, 7, 4], [6, 8, 7, 4]]
def wfTry : List (Int × Int × Int × Int) := [(3, 5, 1, 4), (3, 6, 1, 4), (1, 6, 1, 2), (1, 5, 2, 2)]
/-- Nobody is inside, no writer has a ticket. -/
def wfEnd (base : Int) (E : List Int) : Prop := (0 ≤ ldA E 0 ∧ ldA E 0 < 4294967296) ∧ ldA E 0 % 256 = 0 ∧ ldA E 0 / 256 % 256 = ldA E 0 / 65536 % 256
theorem wf_first (k : Nat) (base : Int) (h1 : 1 ≤ k) (h2 : k ≤ 64) (hb : 0 ≤ base ∧ base < 4294967296) : WfReads ((8 + 4 * (k : Int)).toNat - 1) 0 (own6 base ++ List.replicate ((8 + 4 * (k : Int)).toNat - 1) 0) :=
by
  refine ⟨base % 256 * 65792, rfl, by omega, by unfold wfR; omega, ?_⟩
  unfold wfT wfG
  have h3 : 0 ≤ base % 256 ∧ base % 256 < 256 := by omega
  generalize base % 256 = b at h3 ⊢
  have e1 : b * 65792 / 256 = b * 257 := by omega
  have e2 : b * 65792 / 65536 = b := by omega
  rw [e1, e2]
  omega
theorem wf_runs (n d base : Int) (most : Nat) (h1 : 1 ≤ n) (h2 : n ≤ 64) (hb : 0 ≤ base ∧ base < 4294967296) (hm : 40 + 8 * n ≤ most) :
    ∀ l, l ∈ wfLists → ∃ E, Runs wfA n d most l (own6 base ++ List.replicate ((8 + 4 * n).toNat - 1) 0) E ∧ wfEnd base E := by
  obtain ⟨k, rfl⟩ : ∃ k : Nat, n = k := ⟨n.toNat, by omega⟩
  refine (wf_ops k d (by omega) (by omega)).runs (by omega) (by omega) ?_ (wf_first k base (by omega) (by omega) hb)
  rintro L ⟨v, rfl, hv, hr, ht⟩
  have e : ldA (Wd ((8 + 4 * (k : Int)).toNat - 1) v) 0 = v := by simp [ldA, Wd]
  unfold wfEnd
  rw [e]
  exact ⟨hv, hr, ht⟩
theorem wf_tries (n d base : Int) (most : Nat) (h1 : 1 ≤ n) (h2 : n ≤ 64) (hb : 0 ≤ base ∧ base < 4294967296) (hm : 40 + 8 * n ≤ most) : ∀ x0 x1 x2 x3, (x0, x1, x2, x3) ∈ wfTry → ∃ s1 s2 s3, aloneA wfA most (start n d x0 (own6 base ++ List.replicate ((8 + 4 * n).toNat - 1) 0)) = (2, s1) ∧ aloneA wfA most (start n d x1 s1.L) = (x2, s2) ∧
    aloneA wfA most (start n d x3 s2.L) = (2, s3) ∧ (x2 = 1 → ∃ s4, aloneA wfA most (start n d 6 s3.L) = (2, s4)) := by
  obtain ⟨k, rfl⟩ : ∃ k : Nat, n = k := ⟨n.toNat, by omega⟩
  exact (wf_ops k d (by omega) (by omega)).tries (by omega) (by omega) (wf_first k base (by omega) (by omega) hb)
theorem wf_together (k : Nat) (d op : Int) (h1 : 2 ≤ k) (h2 : k ≤ 16) (hop : op = 1 ∨ op = 5) : Together wfA k d op (WfReads ((8 + 4 * (k : Int)).toNat - 1)) :=
  (wf_ops k d (by omega) (by omega)).together h1 h2 hop

end Go.Proofs.Ytmbbcgkfankiaaa.Z

/- Law 16: the statement WfTogether. Written by genmat.py. -/
set_option linter.unusedVariables false
set_option linter.unusedSimpArgs false
namespace Go.Proofs.Ytmbbcgkfankiaaa.Z
open Go.RowKit

theorem wfTogether_any (n mode base : Int) (try_ : Bool) (w : World) (hn : 0 ≤ n ∧ n < 256) (hm : 0 ≤ mode ∧ mode < 256) (hb : 0 ≤ base ∧ base < 4294967296) :
    Calls Try.prog 7 #[.int .u8 n, .int .u8 mode, .int .u32 base, .bool try_] w fun e w' => e = .returned (.bool true) ∧ Touch [] w w' := by
  refine wf_together_walk n mode base try_ w hb hn hm (if try_ then 5 else 1) rfl fun k hk => ?_
  have hop : (if try_ = true then (5 : Int) else 1) = 1 ∨ (if try_ = true then (5 : Int) else 1) = 5 := by cases try_ <;> simp
  exact together_ok hop (wf_together k (1 + mode % 2) _ (by omega) (by omega) hop) (wf_first k base (by omega) (by omega) hb) (by omega)

end Go.Proofs.Ytmbbcgkfankiaaa.Z

/- Arguments opened: whole numbers, structs of whole numbers, slices of these. No statement is in sight. -/
set_option linter.unusedVariables false
set_option linter.unusedSimpArgs false
namespace Go.Proofs.Ytmbbcgkfankiaaa.Z
open Go.RowKit Go.ChangeShapes Go.WideShapes Go.ChangeAt Go.Deep

/-- Whatever reads as a value of type t has cells of this form. -/
def Flat (P : Program) (t : TypeId) (ok : List Value → Prop) : Prop :=
  ∀ (H : Type) (enc : TypeId × Value → H) (w : World) (base : Nat) (spare : Nat → Bool) (held : Bool) (fuel : Nat) (cs : List Value) (x : DataW H × List MemPlace),
    DataW.trod enc P w base spare held fuel t cs = some x → ok cs

theorem flat_int {P : Program} {t : TypeId} {k : IntKind} (ht : P.underlying t = some (.int k)) : Flat P t (fun cs => ∃ n, cs = [.int k n] ∧ (Lit.int k n).wf = true) := by
  intro H enc w base spare held fuel cs x h
  obtain ⟨n, h1, _, h2⟩ := DataW.trod_int ht h
  exact ⟨n, h1, h2⟩

theorem flat_bool {P : Program} {t : TypeId} (ht : P.underlying t = some .bool) : Flat P t (fun cs => ∃ b, cs = [.bool b]) := by
  intro H enc w base spare held fuel cs x h
  obtain ⟨n, h1, _⟩ := DataW.trod_bool ht h
  exact ⟨n, h1⟩

theorem flat_mono {P : Program} {t : TypeId} {ok ok' : List Value → Prop} (h : Flat P t ok) (hm : ∀ cs, ok cs → ok' cs) : Flat P t ok' :=
  fun H enc w base spare held fuel cs x hx => hm _ (h H enc w base spare held fuel cs x hx)

/-- A struct: each field's cells are of that field's form. -/
theorem flat_struct {P : Program} {t : TypeId} {fs : Array Field} (ht : P.underlying t = some (.struct fs)) :
    Flat P t (fun cs => cs.length = P.cellsOf t ∧ ∀ (i : Nat) (f : Field) (ok : List Value → Prop), fs[i]? = some f → Flat P f.type ok → ok ((cs.drop f.offset).take (P.cellsOf f.type))) := by
  intro H enc w base spare held fuel cs x h
  obtain ⟨xs, n, _, _, hl, hxl, hf⟩ := DataW.trod_struct ht h
  refine ⟨hl, fun i f ok hi hok => ?_⟩
  have hil : i < fs.size := (Array.getElem?_eq_some_iff.1 hi).1
  have := hf i f hi
  rw [List.getElem?_eq_getElem (by omega)] at this
  exact hok H enc w base spare held n _ _ this

theorem wf_u32 {n : Int} (h : (Lit.int .u32 n).wf = true) : 0 ≤ n ∧ n < 4294967296 := by
  simp [Lit.wf, IntKind.min, IntKind.max, IntKind.signed, IntKind.bits] at h; omega
theorem wf_u8 {n : Int} (h : (Lit.int .u8 n).wf = true) : 0 ≤ n ∧ n < 256 := by
  simp [Lit.wf, IntKind.min, IntKind.max, IntKind.signed, IntKind.bits] at h; omega
theorem wf_i64 {n : Int} (h : (Lit.int .i64 n).wf = true) : -9223372036854775808 ≤ n ∧ n ≤ 9223372036854775807 := by
  simp [Lit.wf, IntKind.min, IntKind.max, IntKind.signed, IntKind.bits] at h; omega
theorem wf_i32 {n : Int} (h : (Lit.int .i32 n).wf = true) : -2147483648 ≤ n ∧ n < 2147483648 := by
  simp [Lit.wf, IntKind.min, IntKind.max, IntKind.signed, IntKind.bits] at h; omega

theorem flatMap_at {α : Type} {dec : α → List Value} {size : Nat} (hs : 0 < size) (hlen : ∀ a, (dec a).length = size) : ∀ (l : List α) (i j : Nat) (h : i < l.length), j < size → (l.flatMap dec)[i * size + j]? = (dec l[i])[j]? := by
  intro l
  induction l with
  | nil => intro i j h; simp at h
  | cons a l ih =>
    intro i j h hj
    rw [List.flatMap_cons]
    cases i with
    | zero =>
      rw [List.getElem?_append_left (by rw [hlen]; omega)]
      simp
    | succ i =>
      rw [List.getElem?_append_right (by rw [hlen, Nat.succ_mul]; omega), hlen, show (i + 1) * size + j - size = i * size + j by rw [Nat.succ_mul]; omega, ih i j (by simpa using h) hj]
      rfl

theorem flatMap_length {α : Type} {dec : α → List Value} {size : Nat} (hlen : ∀ a, (dec a).length = size) (l : List α) : (l.flatMap dec).length = l.length * size := by
  induction l with
  | nil => simp
  | cons a l ih => rw [List.flatMap_cons, List.length_append, ih, hlen, List.length_cons, Nat.succ_mul]; omega

/-- A slice of flat elements, as a list. -/
theorem open_list {P : Program} {H : Type} {enc : TypeId × Value → H} {w : World} {t e : TypeId} {α : Type} {dec : α → List Value} {ok : α → Prop} {size : Nat} {A : Option Addr} {n c : Nat} {d : DataW H} {p : List MemPlace}
    (ht : P.underlying t = some (.slice e)) (hF : Flat P e (fun cs => ∃ a, ok a ∧ cs = dec a)) (hC : P.cellsOf e = size) (hs : 0 < size) (hlen : ∀ a, (dec a).length = size)
    (h : DataW.Trod enc P w 0 (fun _ => true) true t (.slice A n c) d p) (lt : ∀ x ∈ p, x.block < w.heap.size) :
    ∃ l : List α, l.length = n ∧ (∀ a, a ∈ l → ok a) ∧ Rd w size A n (l.flatMap dec) ∧ n ≤ c ∧ c ≤ 9223372036854775807 := by
  obtain ⟨fuel, hf⟩ := h
  rcases open_slice ht hf with ⟨hcs, _⟩ | ⟨a, len, cap, m, n', D, Pl, hcs, hb, hl, hm, hmm, hx, hi⟩
  · simp [Value.cells] at hcs
    obtain ⟨rfl, rfl, rfl⟩ := hcs
    exact ⟨[], rfl, by simp, Rd.nil _ _ _, Nat.le_refl _, by decide⟩
  · simp [Value.cells] at hcs
    obtain ⟨rfl, rfl, rfl⟩ := hcs
    simp at hmm
    subst hmm
    have hE : ∀ i, i < n → ∃ y : α, ok y ∧ ∀ j, j < size → w.cell? (a.add (i * size + j)) = (dec y)[j]? := by
      intro i hin
      obtain ⟨cs', hc, htr⟩ := hi i (by omega)
      obtain ⟨y, hy, rfl⟩ := hF H enc w 0 _ true n' cs' _ htr
      rw [hC] at hc
      obtain ⟨_, hcl, hat⟩ := World.cells?_some hc
      exact ⟨y, hy, fun j hj => by rw [← Go.Deep.add_add]; exact hat j hj⟩
    have hL : ∀ n0, n0 ≤ n → ∃ l : List α, l.length = n0 ∧ ∀ i (h : i < l.length), ok l[i] ∧ ∀ j, j < size → w.cell? (a.add (i * size + j)) = (dec l[i])[j]? := by
      intro n0
      induction n0 with
      | zero => intro _; exact ⟨[], rfl, fun i h => by simp at h⟩
      | succ k ih =>
        intro hk
        obtain ⟨l, hl, hlp⟩ := ih (by omega)
        obtain ⟨y, hy, hyc⟩ := hE k (by omega)
        refine ⟨l ++ [y], by simp [hl], fun i h => ?_⟩
        by_cases hik : i < l.length
        · rw [List.getElem_append_left hik]; exact hlp i hik
        · have : i = k := by simp at h; omega
          subst this
          rw [List.getElem_append_right (by omega)]
          simp [hl]
          exact ⟨hy, hyc⟩
    obtain ⟨l, hll, hlp⟩ := hL n (Nat.le_refl _)
    refine ⟨l, hll, fun y hy => ?_, ⟨by rw [flatMap_length hlen, hll], fun h0 => ⟨a, rfl, ?_, fun j u hu => ?_⟩⟩, hl, hm⟩
    · obtain ⟨i, hi, rfl⟩ := List.getElem_of_mem hy
      exact (hlp i hi).1
    · have := (hlp 0 (by omega)).2 0 hs
      have h1 : (dec l[0])[0]? = some ((dec l[0])[0]'(by rw [hlen]; exact hs)) := List.getElem?_eq_getElem _
      rw [h1] at this
      have := World.block_lt_of_cell? w _ this
      rw [addr_block] at this
      exact this
    · have hj : j < l.length * size := by
        have := (List.getElem?_eq_some_iff.1 hu).1
        rwa [flatMap_length hlen] at this
      have e := Nat.div_add_mod j size
      have hd : j / size < l.length := Nat.div_lt_of_lt_mul (by rw [Nat.mul_comm]; exact hj)
      have hm := Nat.mod_lt j hs
      rw [Nat.mul_comm] at e
      have := (hlp _ hd).2 _ hm
      rw [e] at this
      rw [this, ← flatMap_at hs hlen l _ _ hd hm, e, hu]

/-- A struct by value, as its cells. -/
theorem open_flat {P : Program} {H : Type} {enc : TypeId × Value → H} {w : World} {t : TypeId} {fs : Array Field} {α : Type} {dec : α → List Value} {ok : α → Prop} {v : Value} {d : DataW H} {p : List MemPlace} {r : Reach} {base : Nat}
    (ht : P.underlying t = some (.struct fs)) (hF : Flat P t (fun cs => ∃ a, ok a ∧ cs = dec a)) (hv : Value.okWide P w r base t v) (h : DataW.Trod enc P w 0 (fun _ => true) true t v d p) :
    ∃ a, ok a ∧ v = .agg (dec a).toArray := by
  obtain ⟨cs, rfl, _⟩ := okWide_struct ht hv
  obtain ⟨fuel, hf⟩ := h
  obtain ⟨a, ha, hc⟩ := hF H enc w 0 _ true fuel _ _ hf
  refine ⟨a, ha, ?_⟩
  rw [← hc]
  simp [Value.cells]

/-- A number's value, its data left as they are. -/
theorem open_num {P : Program} {H : Type} {enc : TypeId × Value → H} {w : World} {t : TypeId} {k : IntKind} {v : Value} {d : DataW H} {p : List MemPlace} {r : Reach} {base : Nat}
    (ht : P.underlying t = some (.int k)) (hv : Value.okWide P w r base t v) (h : DataW.Trod enc P w 0 (fun _ => true) true t v d p) : ∃ n, v = .int k n ∧ (Lit.int k n).wf = true := by
  obtain ⟨n, h1, _, _, h2⟩ := open_int ht hv h
  exact ⟨n, h1, h2⟩

theorem open_truth {P : Program} {H : Type} {enc : TypeId × Value → H} {w : World} {t : TypeId} {v : Value} {d : DataW H} {p : List MemPlace} {r : Reach} {base : Nat}
    (ht : P.underlying t = some .bool) (hv : Value.okWide P w r base t v) (h : DataW.Trod enc P w 0 (fun _ => true) true t v d p) : ∃ b, v = .bool b := by
  obtain ⟨n, h1, _⟩ := open_bool ht hv h
  exact ⟨n, h1⟩

end Go.Proofs.Ytmbbcgkfankiaaa.Z
