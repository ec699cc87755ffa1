/- 6 texts of this claim, joined: what each shows stands at its own head. -/
import Derived.Test.YtmbbcgkfankiaaaZMat2
import Derived.Test.YtmbbcgkfankiaaaZM01PfTogether
import Derived.Test.YtmbbcgkfankiaaaZM00PfTogether
import Derived.Test.YtmbbcgkfankiaaaZRead
import Derived.ProofKit
import Derived.OpenShut
import Derived.ChangeOld
import Derived.SizedLaws
import Derived.Deep.Slices
/- A task that is let go on alone, from its operation's beginning to its end; many that read. No lock in sight. -/
set_option linter.unusedVariables false
set_option linter.unusedSimpArgs false
namespace Go.Proofs.Ytmbbcgkfankiaaa.Z
open Go.RowKit

/-- A run that waits for no permit here. -/
def Free (s : Rn) : Prop := s.f.wk.on = true ∨ s.f.st = 0
theorem free_stuck {s : Rn} (h : Free s) (L : List Int) (n mode task : Int) : (!s.f.wk.on && stuckA L n mode task s.f.st) = false := by
  rcases h with h | h
  · rw [h]; rfl
  · rw [h]
    unfold stuckA
    rw [stageA_0]
    simp

/-- In so many steps an operation ends. -/
inductive Does (g : Rn → Rn) : Nat → Rn → Rn → Prop
  | last {s s' : Rn} : Free s → stepR g s = s' → s'.over = true → Does g 1 s s'
  | more {n : Nat} {s s1 s' : Rn} : Free s → stepR g s = s1 → s1.over = false → s1.f.op ≠ 0 → Does g n s1 s' → Does g (n + 1) s s'

def Same (g : Rn → Rn) : Prop := ∀ s, (stepR g s).n = s.n ∧ (stepR g s).mode = s.mode ∧ (stepR g s).task = s.task

theorem run_fresh {s : Rn} {M : Mt} {i : Nat} {f : Fr} (h1 : s.n = M.n) (h2 : s.mode = M.mode) (h3 : s.task = i) (h4 : s.f = f) (h5 : s.L = M.L) : s.fresh = M.run i f := by
  obtain ⟨n, mode, task, f', acc, notes, L⟩ := s
  simp only at h1 h2 h3 h4 h5
  subst h1 h2 h3 h4 h5
  rfl
theorem step_of_fresh {g : Rn → Rn} {s : Rn} {M : Mt} {i : Nat} {f : Fr} (h : s.fresh = M.run i f) {s1 : Rn} (hs : stepR g s = s1) : stepR g (M.run i f) = s1 := by
  rw [← h, ← stepR_fresh, hs]

theorem put_put (M : Mt) (i : Nat) (f f' : Fr) (h h' : Int) (L L' : List Int) : (M.put i f h L).put i f' h' L' = M.put i f' h' L' := by
  unfold Mt.put
  simp [List.set_set]

theorem getD_set_self {α : Type} {l : List α} {i : Nat} {v d : α} (h : i < l.length) : (l.set i v).getD i d = v := by
  simp [List.getD, h]

/-- Of a task that is with an operation: let go on, it ends it. -/
theorem while_does {g : Rn → Rn} (hg : Same g) : ∀ {n : Nat} {s s' : Rn}, Does g n s s' → ∀ {M : Mt} {i m : Nat}, i < M.fs.length → M.hold.length = M.fs.length → s.fresh = M.run i s.f → M.fs.getD i Fr.zero = s.f → s.f.op ≠ 0 → n ≤ m →
    whileA g i m M = M.put i Fr.zero (behindA s'.f.op s'.f.ret (M.hold.getD i 0)) s'.L := by
  intro n s s' h
  induction h with
  | @last s s' hf hs ho =>
    intro M i m hi hh hr hM hop hm
    obtain ⟨m, rfl⟩ : ∃ j, m = j + 1 := ⟨m - 1, by omega⟩
    have hst := goes_of (h := M.hold.getD i 0) (step_of_fresh hr hs)
    rw [if_neg (by rw [free_stuck hf]; decide), if_pos ho] at hst
    unfold whileA
    rw [hM, if_neg hop]
    have hp : M.play g i 0 = M.put i Fr.zero (behindA s'.f.op s'.f.ret (M.hold.getD i 0)) s'.L := by
      unfold Mt.play
      rw [hM, if_neg hop, hst]
    rw [hp]
    cases m with
    | zero => rfl
    | succ m =>
      unfold whileA
      rw [if_pos]
      show ((M.fs.set i Fr.zero).getD i Fr.zero).op = 0
      rw [getD_set_self hi]
      rfl
  | @more n s s1 s' hf hs ho hop1 hd ih =>
    intro M i m hi hh hr hM hop hm
    obtain ⟨m, rfl⟩ : ∃ j, m = j + 1 := ⟨m - 1, by omega⟩
    have hst := goes_of (h := M.hold.getD i 0) (step_of_fresh hr hs)
    rw [if_neg (by rw [free_stuck hf]; decide), if_neg (by rw [ho]; decide)] at hst
    unfold whileA
    rw [hM, if_neg hop]
    have hp : M.play g i 0 = M.put i s1.f (M.hold.getD i 0) s1.L := by
      unfold Mt.play
      rw [hM, if_neg hop, hst]
    rw [hp]
    have hsm := hg s
    rw [hs] at hsm
    have hn : s.n = M.n ∧ s.mode = M.mode ∧ s.task = i := ⟨congrArg Rn.n hr, congrArg Rn.mode hr, congrArg Rn.task hr⟩
    have := ih (M := M.put i s1.f (M.hold.getD i 0) s1.L) (i := i) (m := m) (by simp [Mt.put]; exact hi) (by simp [Mt.put]; exact hh)
      (run_fresh (hsm.1.trans hn.1) (hsm.2.1.trans hn.2.1) (hsm.2.2.trans hn.2.2) rfl rfl) (getD_set_self hi) hop1 (by omega)
    rw [this, put_put]
    congr 2
    exact getD_set_self (by rw [hh]; exact hi)

/-- AN OPERATION, WHOLE. -/
theorem whole_does {g : Rn → Rn} (hg : Same g) {n : Nat} {s s' : Rn} (hd : Does g n s s') {M : Mt} {i : Nat} {op : Int} (hi : i < M.fs.length) (hh : M.hold.length = M.fs.length) (hM : M.fs.getD i Fr.zero = Fr.zero) (hmay : mayB op (M.hold.getD i 0) = true)
    (hr : s.fresh = M.run i (frOp op)) (hn : n ≤ 201) : wholeA g M i op = M.put i Fr.zero (behindA s'.f.op s'.f.ret (fromA op (M.hold.getD i 0))) s'.L := by
  have hsf : s.f = frOp op := congrArg Rn.f hr
  have hplay : M.play g i op = M.goes g i (frOp op) (fromA op (M.hold.getD i 0)) := by
    unfold Mt.play
    rw [hM, if_pos (show Fr.zero.op = 0 from rfl), if_pos hmay]
  unfold wholeA
  rw [hplay]
  cases hd with
  | last hf hs ho =>
    have hst := goes_of (h := fromA op (M.hold.getD i 0)) (step_of_fresh hr hs)
    rw [← hsf, if_neg (by rw [free_stuck hf]; decide), if_pos ho, hsf] at hst
    rw [hst]
    show whileA g i (199 + 1) _ = _
    unfold whileA
    rw [if_pos]
    show ((M.fs.set i Fr.zero).getD i Fr.zero).op = 0
    rw [getD_set_self hi]
    rfl
  | @more n _ s1 _ hf hs ho hop1 hd2 =>
    have hst := goes_of (h := fromA op (M.hold.getD i 0)) (step_of_fresh hr hs)
    rw [← hsf, if_neg (by rw [free_stuck hf]; decide), if_neg (by rw [ho]; decide), hsf] at hst
    rw [hst]
    have hsm := hg s
    rw [hs] at hsm
    have hn1 : s.n = M.n ∧ s.mode = M.mode ∧ s.task = i := ⟨congrArg Rn.n hr, congrArg Rn.mode hr, congrArg Rn.task hr⟩
    have := while_does hg hd2 (M := M.put i s1.f (fromA op (M.hold.getD i 0)) s1.L) (i := i) (m := 200) (by simp [Mt.put]; exact hi) (by simp [Mt.put]; exact hh)
      (run_fresh (hsm.1.trans hn1.1) (hsm.2.1.trans hn1.2.1) (hsm.2.2.trans hn1.2.2) rfl rfl) (getD_set_self hi) hop1 (by omega)
    rw [this, put_put]
    congr 2
    exact getD_set_self (by rw [hh]; exact hi)

/-- An operation of a task, from its beginning. -/
def startT (n mode : Int) (t : Nat) (op : Int) (L : List Int) : Rn := ⟨n, mode, t, frOp op, Acc.zero, [], L⟩

/-- Tasks that are idle. -/
structure Idle (M : Mt) (k : Nat) (d : Int) (f : Nat → Int) (L : List Int) : Prop where
  n : M.n = k
  mode : M.mode = d
  fs : M.fs = List.replicate k Fr.zero
  hold : M.hold = (List.range k).map f
  words : M.L = L

theorem range_set (k : Nat) (f : Nat → Int) (i : Nat) (v : Int) : ((List.range k).map f).set i v = (List.range k).map (fun x => if x = i then v else f x) := by
  refine List.ext_getElem? fun j => ?_
  rw [List.getElem?_set]
  by_cases hj : j < k
  · by_cases hij : i = j
    · subst hij
      simp [hj]
    · simp [hj, hij, Ne.symm hij]
  · by_cases hij : i = j
    · subst hij
      simp [hj]
    · simp [hj, hij]
theorem range_get {k : Nat} {f : Nat → Int} {i : Nat} (h : i < k) : ((List.range k).map f).getD i 0 = f i := by
  simp [List.getD, h]
theorem range_count (f : Nat → Int) (what : Int) (j : Nat) : ∀ k, (∀ i, i < k → (f i = what ↔ i < j)) → ((List.range k).map f).countP (· == what) = min j k := by
  intro k
  induction k with
  | zero => intro _; simp
  | succ k ih =>
    intro h
    rw [List.range_succ, List.map_append, List.countP_append, ih (fun i hi => h i (by omega))]
    have hk := h k (by omega)
    by_cases h1 : k < j
    · simp [hk.2 h1]; omega
    · have : ¬ f k = what := fun e => h1 (hk.1 e)
      simp [this]; omega

theorem Idle.whole {g : Rn → Rn} (hg : Same g) {M : Mt} {k : Nat} {d : Int} {f : Nat → Int} {L : List Int} (h : Idle M k d f L) {i : Nat} (hi : i < k) {op : Int} (hmay : mayB op (f i) = true) {n : Nat} {s' : Rn} (hn : n ≤ 201) (hd : Does g n (startT k d i op L) s') :
    Idle (wholeA g M i op) k d (fun x => if x = i then behindA s'.f.op s'.f.ret (fromA op (f i)) else f x) s'.L := by
  have hlen : M.fs.length = k := by rw [h.fs]; simp
  have hhl : M.hold.length = M.fs.length := by rw [h.hold, h.fs]; simp
  have hget : M.hold.getD i 0 = f i := by rw [h.hold]; exact range_get hi
  have hz : M.fs.getD i Fr.zero = Fr.zero := by rw [h.fs]; simp [List.getD, hi]
  have := whole_does hg hd (M := M) (i := i) (op := op) (by omega) hhl hz (by rw [hget]; exact hmay) (run_fresh h.n.symm h.mode.symm rfl rfl h.words.symm) hn
  rw [this, hget]
  refine ⟨h.n, h.mode, ?_, ?_, rfl⟩
  · show M.fs.set i Fr.zero = _
    rw [h.fs]
    refine List.ext_getElem? fun j => ?_
    rw [List.getElem?_set]
    split
    · rename_i hij
      subst hij
      simp [hi]
    · rfl
  · show M.hold.set i _ = _
    rw [h.hold, range_set]

/-- What is asked of a lock: of words at which so many read. -/
structure Together (g : Rn → Rn) (k : Nat) (d op : Int) (P : Nat → List Int → Prop) : Prop where
  same : Same g
  read : ∀ i j L, i < k → j + 1 < k → P j L → ∃ n s', n ≤ 201 ∧ Does g n (startT k d i op L) s' ∧ s'.f.ret = 2 ∧ (s'.f.op = 1 ∨ s'.f.op = 5) ∧ P (j + 1) s'.L
  refused : ∀ i j L, i < k → j + 1 < k → P (j + 1) L → ∃ n s', n ≤ 201 ∧ Does g n (startT k d i 6 L) s' ∧ s'.f.ret ≠ 2 ∧ P (j + 1) s'.L
  give : ∀ i j L, i < k → j + 1 < k → P (j + 1) L → ∃ n s', n ≤ 201 ∧ Does g n (startT k d i 2 L) s' ∧ s'.f.op = 2 ∧ P j s'.L
  take : ∀ i L, i < k → P 0 L → ∃ n s', n ≤ 201 ∧ Does g n (startT k d i 6 L) s' ∧ s'.f.ret = 2 ∧ s'.f.op = 6

theorem together_ok {g : Rn → Rn} {k : Nat} {d op : Int} {P : Nat → List Int → Prop} (hop : op = 1 ∨ op = 5) (T : Together g k d op P) {Z : List Int} (hZ : P 0 Z) (hk : 2 ≤ k) : TogetherOk g k op (Mt.start k d Z) := by
  have h0 : Idle (Mt.start k d Z) k d (fun _ => 0) Z := ⟨rfl, rfl, rfl, by simp [Mt.start, List.map_const'], rfl⟩
  have hmay : mayB op 0 = true := by rcases hop with rfl | rfl <;> decide
  have hR : ∀ j, j ≤ k - 1 → ∃ L, P j L ∧ Idle (readsA g op (Mt.start k d Z) j) k d (fun i => if i < j then 1 else 0) L := by
    intro j
    induction j with
    | zero => intro _; exact ⟨Z, hZ, by show Idle (Mt.start k d Z) _ _ _ _; simpa using h0⟩
    | succ j ih =>
      intro hj
      obtain ⟨L, hP, hI⟩ := ih (by omega)
      obtain ⟨n, s', hn, hd, hr, ho, hP'⟩ := T.read j j L (by omega) (by omega) hP
      refine ⟨s'.L, hP', ?_⟩
      have := hI.whole T.same (i := j) (by omega) (op := op) (by simpa using hmay) hn hd
      have e : (fun x => if x = j then behindA s'.f.op s'.f.ret (fromA op (if j < j then 1 else 0)) else if x < j then (1 : Int) else 0) = fun i => if i < j + 1 then 1 else 0 := by
        funext x
        by_cases h1 : x = j
        · subst h1
          have : behindA s'.f.op 2 (fromA op (if x < x then 1 else 0)) = 1 := by
            unfold behindA
            rcases ho with ho | ho <;> simp [ho]
          rw [if_pos rfl, hr, this, if_pos (Nat.lt_succ_self _)]
        · by_cases h2 : x < j
          · simp [h1, h2, Nat.lt_succ_of_lt h2]
          · have : ¬ x < j + 1 := by omega
            simp [h1, h2, this]
      rw [e] at this
      exact this
  have hG : ∀ j, j ≤ k - 1 → ∃ L, P (k - 1 - j) L ∧ Idle (givesA g k (readsA g op (Mt.start k d Z) (k - 1)) j) k d (fun i => if i < k - 1 then (if i < j then 0 else 1) else 0) L ∧
      (j < k - 1 → (wholeA g (givesA g k (readsA g op (Mt.start k d Z) (k - 1)) j) (k - 1) 6).hold.getD (k - 1) 0 = 0) := by
    have hno : ∀ j M L, j < k - 1 → P (k - 1 - j) L → Idle M k d (fun i => if i < k - 1 then (if i < j then 0 else 1) else 0) L →
        ∃ L', P (k - 1 - j) L' ∧ Idle (wholeA g M (k - 1) 6) k d (fun i => if i < k - 1 then (if i < j then 0 else 1) else 0) L' := by
      intro j M L hj hP hI
      obtain ⟨c, hc⟩ : ∃ c, k - 1 - j = c + 1 := ⟨k - 1 - j - 1, by omega⟩
      rw [hc] at hP ⊢
      obtain ⟨n, s', hn, hd, hr, hP'⟩ := T.refused (k - 1) c L (by omega) (by omega) hP
      refine ⟨s'.L, hP', ?_⟩
      have := hI.whole T.same (i := k - 1) (by omega) (op := 6) (by simp; decide) hn hd
      have e : (fun x => if x = k - 1 then behindA s'.f.op s'.f.ret (fromA 6 (if k - 1 < k - 1 then (if k - 1 < j then 0 else 1) else 0)) else if x < k - 1 then (if x < j then (0 : Int) else 1) else 0) = fun i => if i < k - 1 then (if i < j then 0 else 1) else 0 := by
        funext x
        by_cases h1 : x = k - 1
        · subst h1
          have : ∀ h, behindA s'.f.op s'.f.ret (fromA 6 h) = h := by
            intro h
            unfold behindA
            rw [if_pos hr]
            rfl
          rw [if_pos rfl, this]
        · simp [h1]
      rw [e] at this
      exact this
    intro j
    induction j with
    | zero =>
      intro _
      obtain ⟨L, hP, hI⟩ := hR (k - 1) (by omega)
      have hI' : Idle (givesA g k (readsA g op (Mt.start k d Z) (k - 1)) 0) k d (fun i => if i < k - 1 then (if i < 0 then 0 else 1) else 0) L := by
        have e : (fun i : Nat => if i < k - 1 then (if i < 0 then (0 : Int) else 1) else 0) = fun i => if i < k - 1 then 1 else 0 := by funext i; simp
        rw [e]
        exact hI
      refine ⟨L, hP, hI', fun hj => ?_⟩
      obtain ⟨L', _, h2⟩ := hno 0 _ L hj (by simpa using hP) hI'
      rw [h2.hold, range_get (by omega)]
      simp
    | succ j ih =>
      intro hj
      obtain ⟨L, hP, hI, _⟩ := ih (by omega)
      obtain ⟨L1, hP1, hI1⟩ := hno j _ L (by omega) hP hI
      obtain ⟨c, hc⟩ : ∃ c, k - 1 - j = c + 1 := ⟨k - 1 - j - 1, by omega⟩
      rw [hc] at hP1
      obtain ⟨n, s', hn, hd, ho, hP'⟩ := T.give j c L1 (by omega) (by omega) hP1
      have h3 := hI1.whole T.same (i := j) (by omega) (op := 2) (by rw [if_pos (by omega)]; simp; decide) hn hd
      have e : (fun x => if x = j then behindA s'.f.op s'.f.ret (fromA 2 (if j < k - 1 then (if j < j then 0 else 1) else 0)) else if x < k - 1 then (if x < j then (0 : Int) else 1) else 0) = fun i => if i < k - 1 then (if i < j + 1 then 0 else 1) else 0 := by
        funext x
        by_cases h1 : x = j
        · subst h1
          have : ∀ h, behindA s'.f.op s'.f.ret (fromA 2 h) = 0 := by
            intro h
            unfold behindA fromA
            rw [ho]
            split <;> simp
          rw [if_pos rfl, this, if_pos (by omega), if_pos (by omega)]
        · by_cases h2 : x < k - 1
          · by_cases h4 : x < j
            · simp [h1, h2, h4, Nat.lt_succ_of_lt h4]
            · have : ¬ x < j + 1 := by omega
              simp [h1, h2, h4, this]
          · simp [h1, h2]
      rw [e] at h3
      refine ⟨s'.L, by rw [show k - 1 - (j + 1) = c from by omega]; exact hP', h3, fun hj2 => ?_⟩
      obtain ⟨L', _, h2⟩ := hno (j + 1) _ s'.L hj2 (by rw [show k - 1 - (j + 1) = c from by omega]; exact hP') h3
      rw [show givesA g k (readsA g op (Mt.start k d Z) (k - 1)) (j + 1) = wholeA g (wholeA g (givesA g k (readsA g op (Mt.start k d Z) (k - 1)) j) (k - 1) 6) j 2 from rfl, h2.hold, range_get (by omega)]
      simp
  refine ⟨fun j hj => ?_, fun j hj => (hG j (by omega)).choose_spec.2.2 hj, ?_⟩
  · obtain ⟨L, _, hI⟩ := hR (j + 1) (by omega)
    unfold Mt.many
    rw [hI.hold, range_count _ 1 (j + 1) k (fun i hi => by by_cases h : i < j + 1 <;> simp [h])]
    omega
  · obtain ⟨L, hP, hI, _⟩ := hG (k - 1) (Nat.le_refl _)
    rw [Nat.sub_self] at hP
    obtain ⟨n, s', hn, hd, hr, ho⟩ := T.take (k - 1) L (by omega) hP
    have h3 := hI.whole T.same (i := k - 1) (by omega) (op := 6) (by simp; decide) hn hd
    have hb : ∀ h, behindA s'.f.op s'.f.ret h = 2 := by
      intro h
      unfold behindA
      rw [ho, hr]
      simp
    refine ⟨?_, ?_⟩
    · rw [h3.hold, range_get (by omega), if_pos rfl, hb]
    · unfold Mt.many
      rw [h3.hold, range_count _ 1 0 k (fun i hi => ?_)]
      · omega
      · by_cases h1 : i = k - 1
        · simp [h1, hb]
        · simp [h1]
          intro h2
          omega

/-- A wake-up that finds nobody, at an operation's end. -/
theorem does_wakes (g : Rn → Rn) (c : Int) : ∀ (d : Nat) (s : Rn) (i : Int), s.f.wk = ⟨true, c, i, false⟩ → 0 ≤ i → i + d = s.n → 1 ≤ d → NoWatch s.n c s.L → s.f.ret ≠ 0 → s.f.op ≠ 0 →
    ∃ s', Does g d s s' ∧ s'.L = s.L ∧ s'.f.ret = s.f.ret ∧ s'.f.op = s.f.op := by
  intro d
  induction d with
  | zero => intro s i hw h0 h1 h2; omega
  | succ d ih =>
    intro s i hw h0 h1 _ hc hr ho
    obtain ⟨e1, e2, e3, e4, e5, e6⟩ := woke_calm hw h0 (by omega) hc
    have hst : stepR g s = s.woke := by unfold stepR; rw [hw]; rfl
    have hf : Free s := Or.inl (by rw [hw])
    by_cases hd : d = 0
    · subst hd
      rw [if_pos (by omega)] at e2
      exact ⟨s.woke, Does.last hf hst (by unfold Rn.over; rw [e2]; simpa [Wk.zero] using hr), e1, by rw [e2], by rw [e2]⟩
    · rw [if_neg (by omega)] at e2
      obtain ⟨s', k1, k2, k3, k4⟩ := ih s.woke (i + 1) (by rw [e2]) (by omega) (by rw [e4]; omega) (by omega) (by rw [e4, e1]; exact hc) (by rw [e2]; exact hr) (by rw [e2]; exact ho)
      exact ⟨s', Does.more hf hst (by unfold Rn.over; rw [e2]; simp) (by rw [e2]; exact ho) k1, k2.trans e1, by rw [k3, e2], by rw [k4, e2]⟩

theorem does_ends {g : Rn → Rn} {s s1 : Rn} (c : Int) (hf : Free s) (hs : stepR g s = s1) (hk : s1.f.wk = beginA s1.mode c) (hr : s1.f.ret ≠ 0) (ho : s1.f.op ≠ 0) (h1 : 1 ≤ s1.n) (hc : NoWatch s1.n c s1.L) :
    ∃ n s', n ≤ s1.n.toNat + 1 ∧ Does g n s s' ∧ s'.L = s1.L ∧ s'.f.ret = s1.f.ret ∧ s'.f.op = s1.f.op := by
  unfold beginA at hk
  split at hk
  · obtain ⟨s', k1, k2, k3, k4⟩ := does_wakes g c s1.n.toNat s1 0 hk (Int.le_refl _) (by omega) (by omega) hc hr ho
    exact ⟨_, s', Nat.le_refl _, Does.more hf hs (by unfold Rn.over; rw [hk]; simp) ho k1, k2, k3, k4⟩
  · exact ⟨1, s1, by omega, Does.last hf hs (by unfold Rn.over; rw [hk]; simpa [Wk.zero] using hr), rfl, rfl, rfl⟩

/-- A task's run at a line, afresh. -/
def RnT (n mode : Int) (t : Nat) (op line a b : Int) (L : List Int) : Rn := ⟨n, mode, t, ⟨op, line, a, b, 0, Wk.zero, 0⟩, Acc.zero, [], L⟩
def AtT (n mode : Int) (t : Nat) (s : Rn) (op line a b : Int) (L : List Int) : Prop := s.fresh = RnT n mode t op line a b L
theorem startT_at (n mode : Int) (t : Nat) (op : Int) (L : List Int) : AtT n mode t (startT n mode t op L) op 0 0 0 L := rfl
section
variable {n mode : Int} {t : Nat} {s : Rn} {op line a b line' a' b' : Int} {L L' : List Int} {g : Rn → Rn}
theorem AtT.wk (h : AtT n mode t s op line a b L) : s.f.wk = Wk.zero := congrArg (fun x => x.f.wk) h
theorem AtT.free (h : AtT n mode t s op line a b L) : Free s := Or.inr (congrArg (fun x => x.f.st) h)
theorem AtT.step (h : AtT n mode t s op line a b L) : stepR g s = g (RnT n mode t op line a b L) := by
  unfold stepR
  rw [h.wk]
  show g s.fresh = _
  rw [show s.fresh = _ from h]
theorem AtT.over (h : AtT n mode t s op line a b L) : s.over = false := by unfold Rn.over; rw [show s.f.ret = 0 from congrArg (fun x => x.f.ret) h]; rfl
theorem AtT.op_ (h : AtT n mode t s op line a b L) : s.f.op = op := congrArg (fun x => x.f.op) h
/-- A line, and on. -/
theorem AtT.go {q : Nat} {s' : Rn} (h : AtT n mode t s op line a b L) (h1 : AtT n mode t (g (RnT n mode t op line a b L)) op line' a' b' L') (ho : op ≠ 0) (hd : Does g q (g (RnT n mode t op line a b L)) s') : Does g (q + 1) s s' :=
  Does.more h.free h.step h1.over (by rw [h1.op_]; exact ho) hd
/-- A line that ends the operation. -/
theorem AtT.fin (h : AtT n mode t s op line a b L) (hr : (g (RnT n mode t op line a b L)).f.ret ≠ 0) (hk : (g (RnT n mode t op line a b L)).f.wk = Wk.zero) : Does g 1 s (g (RnT n mode t op line a b L)) :=
  Does.last h.free h.step (by unfold Rn.over; rw [hk]; simpa [Wk.zero] using hr)
/-- A line that ends the operation, and begins a wake-up that finds nobody. -/
theorem AtT.ends {s1 : Rn} (h : AtT n mode t s op line a b L) (c : Int) (hg : g (RnT n mode t op line a b L) = s1) (hr : s1.f.ret ≠ 0) (ho : s1.f.op ≠ 0) (hk : s1.f.wk = beginA s1.mode c) (h1 : 1 ≤ s1.n) (hc : NoWatch s1.n c s1.L) :
    ∃ q s', q ≤ s1.n.toNat + 1 ∧ Does g q s s' ∧ s'.L = s1.L ∧ s'.f.ret = s1.f.ret ∧ s'.f.op = s1.f.op := does_ends c h.free (h.step.trans hg) hk hr ho h1 hc
end

end Go.Proofs.Ytmbbcgkfankiaaa.Z

/- A lock's operations, each whole, from words to words: by itself, tried, many that read. No lock in sight. -/
set_option linter.unusedVariables false
set_option linter.unusedSimpArgs false
namespace Go.Proofs.Ytmbbcgkfankiaaa.Z
open Go.RowKit

theorem alone_does {g : Rn → Rn} : ∀ {n : Nat} {s s' : Rn}, Does g n s s' → ∀ {m : Nat}, n ≤ m → aloneA g m s = (s'.f.ret, s') := by
  intro n s s' h
  induction h with
  | @last s s' hf hs ho =>
    intro m hm
    obtain ⟨m, rfl⟩ : ∃ j, m = j + 1 := ⟨m - 1, by omega⟩
    show (if (stepR g s).over then ((stepR g s).f.ret, stepR g s) else aloneA g m (stepR g s)) = _
    rw [hs, if_pos ho]
  | @more n s s1 s' hf hs ho hop hd ih =>
    intro m hm
    obtain ⟨m, rfl⟩ : ∃ j, m = j + 1 := ⟨m - 1, by omega⟩
    show (if (stepR g s).over then ((stepR g s).f.ret, stepR g s) else aloneA g m (stepR g s)) = _
    rw [hs, if_neg (by rw [ho]; decide)]
    exact ih (by omega)

/-- An operation of a task: from these words it ends so, and leaves those. -/
def OpDoes (g : Rn → Rn) (k : Nat) (d : Int) (t : Nat) (op ret : Int) (P Q : List Int → Prop) : Prop :=
  ∀ L, P L → ∃ n s', n ≤ 40 + 8 * k ∧ Does g n (startT k d t op L) s' ∧ s'.f.ret = ret ∧ s'.f.op = op ∧ Q s'.L

/-- What a lock's operations do: so many read; one writes. -/
structure Ops (g : Rn → Rn) (k : Nat) (d : Int) (P : Nat → List Int → Prop) (W : List Int → Prop) : Prop where
  same : Same g
  read : ∀ t j op, t < k → j ≤ 15 → (op = 1 ∨ op = 5) → OpDoes g k d t op 2 (P j) (P (j + 1))
  give : ∀ t j, t < k → j ≤ 15 → OpDoes g k d t 2 2 (P (j + 1)) (P j)
  lock : ∀ t, t < k → OpDoes g k d t 3 2 (P 0) W
  unlock : ∀ t, t < k → OpDoes g k d t 4 2 W (P 0)
  tryw : ∀ t, t < k → OpDoes g k d t 6 2 (P 0) W
  no : ∀ t j, t < k → j ≤ 15 → OpDoes g k d t 6 1 (P (j + 1)) (P (j + 1))
  noW : ∀ t, t < k → OpDoes g k d t 6 1 W W
  norW : ∀ t, t < k → OpDoes g k d t 5 1 W W
  down : ∀ t, t < k → OpDoes g k d t 8 2 W (P 1)
  up : ∀ t, t < k → OpDoes g k d t 7 2 (P 1) W

theorem Ops.together {g : Rn → Rn} {k : Nat} {d op : Int} {P : Nat → List Int → Prop} {W : List Int → Prop} (O : Ops g k d P W) (h1 : 2 ≤ k) (h2 : k ≤ 16) (hop : op = 1 ∨ op = 5) : Together g k d op P := by
  refine ⟨O.same, fun i j L hi hj hP => ?_, fun i j L hi hj hP => ?_, fun i j L hi hj hP => ?_, fun i L hi hP => ?_⟩
  · obtain ⟨n, s', h3, h4, h5, h6, h7⟩ := O.read i j op hi (by omega) hop L hP
    exact ⟨n, s', by omega, h4, h5, by rw [h6]; exact hop, h7⟩
  · obtain ⟨n, s', h3, h4, h5, h6, h7⟩ := O.no i j hi (by omega) L hP
    exact ⟨n, s', by omega, h4, by rw [h5]; decide, h7⟩
  · obtain ⟨n, s', h3, h4, h5, h6, h7⟩ := O.give i j hi (by omega) L hP
    exact ⟨n, s', by omega, h4, h6, h7⟩
  · obtain ⟨n, s', h3, h4, h5, h6, h7⟩ := O.tryw i hi L hP
    exact ⟨n, s', by omega, h4, h5, h6⟩

theorem OpDoes.alone {g : Rn → Rn} {k : Nat} {d op ret : Int} {P Q : List Int → Prop} (h : OpDoes g k d 0 op ret P Q) {most : Nat} (hm : 40 + 8 * k ≤ most) {L : List Int} (hP : P L) : ∃ s, aloneA g most (start k d op L) = (ret, s) ∧ Q s.L := by
  obtain ⟨n, s', h3, h4, h5, h6, h7⟩ := h L hP
  refine ⟨s', ?_, h7⟩
  rw [← h5]
  exact alone_does h4 (by omega)

theorem runs_nil {g : Rn → Rn} {n d : Int} {most : Nat} {Q R : List Int → Prop} (h : ∀ L, Q L → R L) : ∀ L, Q L → ∃ E, Runs g n d most [] L E ∧ R E := fun L hL => ⟨L, rfl, h L hL⟩
theorem runs_cons {g : Rn → Rn} {k : Nat} {d op : Int} {most : Nat} {P Q R : List Int → Prop} {os : List Int} (h : OpDoes g k d 0 op 2 P Q) (hm : 40 + 8 * k ≤ most) (hr : ∀ L, Q L → ∃ E, Runs g k d most os L E ∧ R E) : ∀ L, P L → ∃ E, Runs g k d most (op :: os) L E ∧ R E := by
  intro L hL
  obtain ⟨s, h1, h2⟩ := h.alone hm hL
  obtain ⟨E, h3, h4⟩ := hr s.L h2
  exact ⟨E, ⟨s, h1, h3⟩, h4⟩

/-- The lists of operations that the statements ask. -/
def opLists : List (List Int) := [[1, 2], [3, 4], [5, 2], [6, 4], [3, 8, 2], [1, 7, 4], [6, 8, 7, 4]]
theorem Ops.runs {g : Rn → Rn} {k : Nat} {d : Int} {P : Nat → List Int → Prop} {W R : List Int → Prop} (O : Ops g k d P W) (h1 : 1 ≤ k) {most : Nat} (hm : 40 + 8 * k ≤ most) (hR : ∀ L, P 0 L → R L) {Z : List Int} (hZ : P 0 Z) :
    ∀ l, l ∈ opLists → ∃ E, Runs g k d most l Z E ∧ R E := by
  have hk : 0 < k := h1
  have e := runs_nil (g := g) (n := k) (d := d) (most := most) hR
  have rd := fun op h => O.read 0 0 op hk (by omega) h
  intro l hl
  simp only [opLists, List.mem_cons, List.not_mem_nil, or_false] at hl
  rcases hl with rfl | rfl | rfl | rfl | rfl | rfl | rfl
  · exact runs_cons (rd 1 (Or.inl rfl)) hm (runs_cons (O.give 0 0 hk (by omega)) hm e) Z hZ
  · exact runs_cons (O.lock 0 hk) hm (runs_cons (O.unlock 0 hk) hm e) Z hZ
  · exact runs_cons (rd 5 (Or.inr rfl)) hm (runs_cons (O.give 0 0 hk (by omega)) hm e) Z hZ
  · exact runs_cons (O.tryw 0 hk) hm (runs_cons (O.unlock 0 hk) hm e) Z hZ
  · exact runs_cons (O.lock 0 hk) hm (runs_cons (O.down 0 hk) hm (runs_cons (O.give 0 0 hk (by omega)) hm e)) Z hZ
  · exact runs_cons (rd 1 (Or.inl rfl)) hm (runs_cons (O.up 0 hk) hm (runs_cons (O.unlock 0 hk) hm e)) Z hZ
  · exact runs_cons (O.tryw 0 hk) hm (runs_cons (O.down 0 hk) hm (runs_cons (O.up 0 hk) hm (runs_cons (O.unlock 0 hk) hm e))) Z hZ

/-- What one holds, what is tried, what that tells, what gives back. -/
def opTry : List (Int × Int × Int × Int) := [(3, 5, 1, 4), (3, 6, 1, 4), (1, 6, 1, 2), (1, 5, 2, 2)]
theorem Ops.tries {g : Rn → Rn} {k : Nat} {d : Int} {P : Nat → List Int → Prop} {W : List Int → Prop} (O : Ops g k d P W) (h1 : 1 ≤ k) {most : Nat} (hm : 40 + 8 * k ≤ most) {Z : List Int} (hZ : P 0 Z) :
    ∀ x0 x1 x2 x3, (x0, x1, x2, x3) ∈ opTry → ∃ s1 s2 s3, aloneA g most (start k d x0 Z) = (2, s1) ∧ aloneA g most (start k d x1 s1.L) = (x2, s2) ∧
      aloneA g most (start k d x3 s2.L) = (2, s3) ∧ (x2 = 1 → ∃ s4, aloneA g most (start k d 6 s3.L) = (2, s4)) := by
  have hk : 0 < k := h1
  intro x0 x1 x2 x3 hx
  simp only [opTry, List.mem_cons, List.not_mem_nil, or_false, Prod.mk.injEq] at hx
  rcases hx with ⟨rfl, rfl, rfl, rfl⟩ | ⟨rfl, rfl, rfl, rfl⟩ | ⟨rfl, rfl, rfl, rfl⟩ | ⟨rfl, rfl, rfl, rfl⟩
  · obtain ⟨s1, a1, b1⟩ := (O.lock 0 hk).alone hm hZ
    obtain ⟨s2, a2, b2⟩ := (O.norW 0 hk).alone hm b1
    obtain ⟨s3, a3, b3⟩ := (O.unlock 0 hk).alone hm b2
    obtain ⟨s4, a4, b4⟩ := (O.tryw 0 hk).alone hm b3
    exact ⟨s1, s2, s3, a1, a2, a3, fun _ => ⟨s4, a4⟩⟩
  · obtain ⟨s1, a1, b1⟩ := (O.lock 0 hk).alone hm hZ
    obtain ⟨s2, a2, b2⟩ := (O.noW 0 hk).alone hm b1
    obtain ⟨s3, a3, b3⟩ := (O.unlock 0 hk).alone hm b2
    obtain ⟨s4, a4, b4⟩ := (O.tryw 0 hk).alone hm b3
    exact ⟨s1, s2, s3, a1, a2, a3, fun _ => ⟨s4, a4⟩⟩
  · obtain ⟨s1, a1, b1⟩ := (O.read 0 0 1 hk (by omega) (Or.inl rfl)).alone hm hZ
    obtain ⟨s2, a2, b2⟩ := (O.no 0 0 hk (by omega)).alone hm b1
    obtain ⟨s3, a3, b3⟩ := (O.give 0 0 hk (by omega)).alone hm b2
    obtain ⟨s4, a4, b4⟩ := (O.tryw 0 hk).alone hm b3
    exact ⟨s1, s2, s3, a1, a2, a3, fun _ => ⟨s4, a4⟩⟩
  · obtain ⟨s1, a1, b1⟩ := (O.read 0 0 1 hk (by omega) (Or.inl rfl)).alone hm hZ
    obtain ⟨s2, a2, b2⟩ := (O.read 0 1 5 hk (by omega) (Or.inr rfl)).alone hm b1
    obtain ⟨s3, a3, b3⟩ := (O.give 0 1 hk (by omega)).alone hm b2
    exact ⟨s1, s2, s3, a1, a2, a3, fun h => absurd h (by decide)⟩

end Go.Proofs.Ytmbbcgkfankiaaa.Z

/- A wake-up that finds nobody, in the middle of an operation. No lock in sight. -/
set_option linter.unusedVariables false
set_option linter.unusedSimpArgs false
namespace Go.Proofs.Ytmbbcgkfankiaaa.Z
open Go.RowKit

theorem does_wakes_mid (g : Rn → Rn) (c : Int) : ∀ (d : Nat) (s : Rn) (i : Int), s.f.wk = ⟨true, c, i, false⟩ → 0 ≤ i → i + d = s.n → 1 ≤ d → NoWatch s.n c s.L → s.f.ret = 0 → s.f.op ≠ 0 →
    ∃ s2, s2.fresh = s.rests ∧ ∀ n s', Does g n s2 s' → Does g (n + d) s s' := by
  intro d
  induction d with
  | zero => intro s i hw h0 h1 h2; omega
  | succ d ih =>
    intro s i hw h0 h1 _ hc hr ho
    obtain ⟨e1, e2, e3, e4, e5, e6⟩ := woke_calm hw h0 (by omega) hc
    have hst : stepR g s = s.woke := by unfold stepR; rw [hw]; rfl
    have hf : Free s := Or.inl (by rw [hw])
    have hov : s.woke.over = false := by unfold Rn.over; rw [show s.woke.f.ret = 0 from by rw [e2]; exact hr]; rfl
    have hop : s.woke.f.op ≠ 0 := by rw [e2]; exact ho
    by_cases hd : d = 0
    · subst hd
      rw [if_pos (by omega)] at e2
      refine ⟨s.woke, ?_, fun n s' h => Does.more hf hst hov hop h⟩
      unfold Rn.fresh Rn.rests
      rw [e1, e2, e4, e5, e6]
    · rw [if_neg (by omega)] at e2
      obtain ⟨s2, k1, k2⟩ := ih s.woke (i + 1) (by rw [e2]) (by omega) (by rw [e4]; omega) (by omega) (by rw [e4, e1]; exact hc) (by rw [e2]; exact hr) hop
      refine ⟨s2, ?_, fun n s' h => Does.more hf hst hov hop (k2 n s' h)⟩
      rw [k1]
      unfold Rn.rests
      rw [e1, e2, e4, e5, e6]

theorem AtT.mid {n mode : Int} {t : Nat} {s s1 : Rn} {op line a b line' a' b' : Int} {L L' : List Int} {g : Rn → Rn} (h : AtT n mode t s op line a b L) (c : Int) (hg : g (RnT n mode t op line a b L) = s1) (hr : s1.rests = RnT n mode t op line' a' b' L') (ho : op ≠ 0) (hk : s1.f.wk = beginA mode c) (h1 : 1 ≤ n) (hc : NoWatch n c L') :
    ∃ q s2, q ≤ n.toNat + 1 ∧ AtT n mode t s2 op line' a' b' L' ∧ ∀ m s', Does g m s2 s' → Does g (m + q) s s' := by
  have hL : s1.L = L' := congrArg (fun x => x.L) hr
  have hn : s1.n = n := congrArg (fun x => x.n) hr
  have hret : s1.f.ret = 0 := congrArg (fun x => x.f.ret) hr
  have hop : s1.f.op = op := congrArg (fun x => x.f.op) hr
  have hov : s1.over = false := by unfold Rn.over; rw [hret]; rfl
  have hst : stepR g s = s1 := h.step.trans hg
  unfold beginA at hk
  split at hk
  · obtain ⟨s2, k1, k2⟩ := does_wakes_mid g c n.toNat s1 0 hk (Int.le_refl _) (by omega) (by omega) (by rw [hn, hL]; exact hc) hret (by rw [hop]; exact ho)
    exact ⟨n.toNat + 1, s2, Nat.le_refl _, k1.trans hr, fun m s' hd => Does.more h.free hst hov (by rw [hop]; exact ho) (k2 m s' hd)⟩
  · refine ⟨1, s1, by omega, ?_, fun m s' hd => Does.more h.free hst hov (by rw [hop]; exact ho) hd⟩
    unfold AtT
    rw [← hr]
    unfold Rn.fresh Rn.rests
    rw [← hk]

end Go.Proofs.Ytmbbcgkfankiaaa.Z

/- The phase-fair lock: its operations, each whole. No program is in sight. Written by genpfops.py. -/
set_option linter.unusedVariables false
set_option linter.unusedSimpArgs false
namespace Go.Proofs.Ytmbbcgkfankiaaa.Z
open Go.RowKit

/-- Five cells, and nothing besides. -/
def W5 (N : Nat) (a b c d e : Int) : List Int := a :: b :: c :: d :: e :: List.replicate N 0
theorem w5_len (N : Nat) (a b c d e : Int) : (W5 N a b c d e).length = N + 5 := by simp [W5]
section
variable (N : Nat) (a b c d e x y : Int)

theorem w5_ld0 : doA (W5 N a b c d e) ⟨1, 0, 0, 0, 0⟩ = (⟨1, 0, 0, 0, a⟩, true, W5 N a b c d e) := by
  unfold doA
  rw [if_pos (by rw [w5_len]; dsimp only; omega)]
  simp [W5]
theorem w5_add0 : doA (W5 N a b c d e) ⟨3, 0, x, 0, 0⟩ = (⟨3, 0, x, 0, a⟩, true, W5 N ((a + x) % 4294967296) b c d e) := by
  unfold doA
  rw [if_pos (by rw [w5_len]; dsimp only; omega)]
  simp [W5]
theorem w5_st0 : doA (W5 N a b c d e) ⟨2, 0, x, 0, 0⟩ = (⟨2, 0, x, 0, a⟩, true, W5 N x b c d e) := by
  unfold doA
  rw [if_pos (by rw [w5_len]; dsimp only; omega)]
  simp [W5]
theorem w5_cas0 : doA (W5 N a b c d e) ⟨5, 0, x, y, 0⟩ = (⟨5, 0, x, y, a⟩, true, if a = x then W5 N y b c d e else W5 N a b c d e) := by
  unfold doA
  rw [if_pos (by rw [w5_len]; dsimp only; omega)]
  by_cases h : a = x
  · simp [W5, h]
  · simp [W5, h]
theorem w5_casB0 : casB (W5 N a b c d e) 0 x y = (a == x) := by
  unfold casB
  rw [w5_cas0]
  simp
theorem w5_ldA0 : ldA (W5 N a b c d e) 0 = a := by
  unfold ldA
  rw [if_pos (by rw [w5_len]; omega)]
  simp [W5]
theorem w5_wait0 (n mode task : Int) (p : Int → Bool) (hp : p a = true) : waitA (W5 N a b c d e) n mode task 0 0 p = ⟨0, ⟨1, 0, 0, 0, a⟩, true, true, W5 N a b c d e⟩ := by
  rw [wait_hit (by rw [w5_ld0]; exact hp), w5_ld0]

theorem w5_ld1 : doA (W5 N a b c d e) ⟨1, 1, 0, 0, 0⟩ = (⟨1, 1, 0, 0, b⟩, true, W5 N a b c d e) := by
  unfold doA
  rw [if_pos (by rw [w5_len]; dsimp only; omega)]
  simp [W5]
theorem w5_add1 : doA (W5 N a b c d e) ⟨3, 1, x, 0, 0⟩ = (⟨3, 1, x, 0, b⟩, true, W5 N a ((b + x) % 4294967296) c d e) := by
  unfold doA
  rw [if_pos (by rw [w5_len]; dsimp only; omega)]
  simp [W5]
theorem w5_st1 : doA (W5 N a b c d e) ⟨2, 1, x, 0, 0⟩ = (⟨2, 1, x, 0, b⟩, true, W5 N a x c d e) := by
  unfold doA
  rw [if_pos (by rw [w5_len]; dsimp only; omega)]
  simp [W5]
theorem w5_cas1 : doA (W5 N a b c d e) ⟨5, 1, x, y, 0⟩ = (⟨5, 1, x, y, b⟩, true, if b = x then W5 N a y c d e else W5 N a b c d e) := by
  unfold doA
  rw [if_pos (by rw [w5_len]; dsimp only; omega)]
  by_cases h : b = x
  · simp [W5, h]
  · simp [W5, h]
theorem w5_casB1 : casB (W5 N a b c d e) 1 x y = (b == x) := by
  unfold casB
  rw [w5_cas1]
  simp
theorem w5_ldA1 : ldA (W5 N a b c d e) 1 = b := by
  unfold ldA
  rw [if_pos (by rw [w5_len]; omega)]
  simp [W5]
theorem w5_wait1 (n mode task : Int) (p : Int → Bool) (hp : p b = true) : waitA (W5 N a b c d e) n mode task 0 1 p = ⟨0, ⟨1, 1, 0, 0, b⟩, true, true, W5 N a b c d e⟩ := by
  rw [wait_hit (by rw [w5_ld1]; exact hp), w5_ld1]

theorem w5_ld2 : doA (W5 N a b c d e) ⟨1, 2, 0, 0, 0⟩ = (⟨1, 2, 0, 0, c⟩, true, W5 N a b c d e) := by
  unfold doA
  rw [if_pos (by rw [w5_len]; dsimp only; omega)]
  simp [W5]
theorem w5_add2 : doA (W5 N a b c d e) ⟨3, 2, x, 0, 0⟩ = (⟨3, 2, x, 0, c⟩, true, W5 N a b ((c + x) % 4294967296) d e) := by
  unfold doA
  rw [if_pos (by rw [w5_len]; dsimp only; omega)]
  simp [W5]
theorem w5_st2 : doA (W5 N a b c d e) ⟨2, 2, x, 0, 0⟩ = (⟨2, 2, x, 0, c⟩, true, W5 N a b x d e) := by
  unfold doA
  rw [if_pos (by rw [w5_len]; dsimp only; omega)]
  simp [W5]
theorem w5_cas2 : doA (W5 N a b c d e) ⟨5, 2, x, y, 0⟩ = (⟨5, 2, x, y, c⟩, true, if c = x then W5 N a b y d e else W5 N a b c d e) := by
  unfold doA
  rw [if_pos (by rw [w5_len]; dsimp only; omega)]
  by_cases h : c = x
  · simp [W5, h]
  · simp [W5, h]
theorem w5_casB2 : casB (W5 N a b c d e) 2 x y = (c == x) := by
  unfold casB
  rw [w5_cas2]
  simp
theorem w5_ldA2 : ldA (W5 N a b c d e) 2 = c := by
  unfold ldA
  rw [if_pos (by rw [w5_len]; omega)]
  simp [W5]
theorem w5_wait2 (n mode task : Int) (p : Int → Bool) (hp : p c = true) : waitA (W5 N a b c d e) n mode task 0 2 p = ⟨0, ⟨1, 2, 0, 0, c⟩, true, true, W5 N a b c d e⟩ := by
  rw [wait_hit (by rw [w5_ld2]; exact hp), w5_ld2]

theorem w5_ld3 : doA (W5 N a b c d e) ⟨1, 3, 0, 0, 0⟩ = (⟨1, 3, 0, 0, d⟩, true, W5 N a b c d e) := by
  unfold doA
  rw [if_pos (by rw [w5_len]; dsimp only; omega)]
  simp [W5]
theorem w5_add3 : doA (W5 N a b c d e) ⟨3, 3, x, 0, 0⟩ = (⟨3, 3, x, 0, d⟩, true, W5 N a b c ((d + x) % 4294967296) e) := by
  unfold doA
  rw [if_pos (by rw [w5_len]; dsimp only; omega)]
  simp [W5]
theorem w5_st3 : doA (W5 N a b c d e) ⟨2, 3, x, 0, 0⟩ = (⟨2, 3, x, 0, d⟩, true, W5 N a b c x e) := by
  unfold doA
  rw [if_pos (by rw [w5_len]; dsimp only; omega)]
  simp [W5]
theorem w5_cas3 : doA (W5 N a b c d e) ⟨5, 3, x, y, 0⟩ = (⟨5, 3, x, y, d⟩, true, if d = x then W5 N a b c y e else W5 N a b c d e) := by
  unfold doA
  rw [if_pos (by rw [w5_len]; dsimp only; omega)]
  by_cases h : d = x
  · simp [W5, h]
  · simp [W5, h]
theorem w5_casB3 : casB (W5 N a b c d e) 3 x y = (d == x) := by
  unfold casB
  rw [w5_cas3]
  simp
theorem w5_ldA3 : ldA (W5 N a b c d e) 3 = d := by
  unfold ldA
  rw [if_pos (by rw [w5_len]; omega)]
  simp [W5]
theorem w5_wait3 (n mode task : Int) (p : Int → Bool) (hp : p d = true) : waitA (W5 N a b c d e) n mode task 0 3 p = ⟨0, ⟨1, 3, 0, 0, d⟩, true, true, W5 N a b c d e⟩ := by
  rw [wait_hit (by rw [w5_ld3]; exact hp), w5_ld3]

theorem w5_ld4 : doA (W5 N a b c d e) ⟨1, 4, 0, 0, 0⟩ = (⟨1, 4, 0, 0, e⟩, true, W5 N a b c d e) := by
  unfold doA
  rw [if_pos (by rw [w5_len]; dsimp only; omega)]
  simp [W5]
theorem w5_add4 : doA (W5 N a b c d e) ⟨3, 4, x, 0, 0⟩ = (⟨3, 4, x, 0, e⟩, true, W5 N a b c d ((e + x) % 4294967296)) := by
  unfold doA
  rw [if_pos (by rw [w5_len]; dsimp only; omega)]
  simp [W5]
theorem w5_st4 : doA (W5 N a b c d e) ⟨2, 4, x, 0, 0⟩ = (⟨2, 4, x, 0, e⟩, true, W5 N a b c d x) := by
  unfold doA
  rw [if_pos (by rw [w5_len]; dsimp only; omega)]
  simp [W5]
theorem w5_cas4 : doA (W5 N a b c d e) ⟨5, 4, x, y, 0⟩ = (⟨5, 4, x, y, e⟩, true, if e = x then W5 N a b c d y else W5 N a b c d e) := by
  unfold doA
  rw [if_pos (by rw [w5_len]; dsimp only; omega)]
  by_cases h : e = x
  · simp [W5, h]
  · simp [W5, h]
theorem w5_casB4 : casB (W5 N a b c d e) 4 x y = (e == x) := by
  unfold casB
  rw [w5_cas4]
  simp
theorem w5_ldA4 : ldA (W5 N a b c d e) 4 = e := by
  unfold ldA
  rw [if_pos (by rw [w5_len]; omega)]
  simp [W5]
theorem w5_wait4 (n mode task : Int) (p : Int → Bool) (hp : p e = true) : waitA (W5 N a b c d e) n mode task 0 4 p = ⟨0, ⟨1, 4, 0, 0, e⟩, true, true, W5 N a b c d e⟩ := by
  rw [wait_hit (by rw [w5_ld4]; exact hp), w5_ld4]

end
theorem w5_nowatch (n c : Int) (h1 : 1 ≤ n) (h2 : n ≤ 64) (hc : 0 ≤ c ∧ c ≤ 4) (x0 x1 x2 x3 x4 : Int) : NoWatch n c (W5 ((8 + 4 * n).toNat - 5) x0 x1 x2 x3 x4) := by
  intro i h0 hi
  have hcl : cellP n 2 i = 8 + 2 * n + i := by unfold cellP; rw [if_pos (by omega)]
  have hlt : 0 ≤ 8 + 2 * n + i ∧ 8 + 2 * n + i < ((W5 ((8 + 4 * n).toNat - 5) x0 x1 x2 x3 x4).length : Int) := by rw [w5_len]; omega
  obtain ⟨j, hj⟩ : ∃ j : Nat, (8 + 2 * n + i).toNat = j + 5 := ⟨(8 + 2 * n + i).toNat - 5, by omega⟩
  have hg : (W5 ((8 + 4 * n).toNat - 5) x0 x1 x2 x3 x4).getD (8 + 2 * n + i).toNat 0 = 0 := by
    rw [hj]
    show (List.replicate _ (0 : Int)).getD j 0 = 0
    rw [List.getD_eq_getElem?_getD, List.getElem?_replicate]
    split <;> rfl
  rw [hcl]
  unfold doA
  rw [if_pos hlt]
  refine ⟨by simp, ?_⟩
  simp only [if_true]
  rw [hg]
  omega

/-- So many read: as many more came than went; no writer is present. -/
def PfReads (N : Nat) (j : Nat) (L : List Int) : Prop := ∃ q w p : Int, L = W5 N ((q + 256 * j) % 4294967296) q w w p ∧ (0 ≤ q ∧ q < 4294967296) ∧ q % 256 = 0 ∧ (0 ≤ w ∧ w < 4294967296) ∧ (0 ≤ p ∧ p < 4294967296)
/-- One writes. -/
def PfWrites (N : Nat) (L : List Int) : Prop := ∃ q w p : Int, L = W5 N ((q + pfP p) % 4294967296) q ((w + 1) % 4294967296) w p ∧ (0 ≤ q ∧ q < 4294967296) ∧ q % 256 = 0 ∧ (0 ≤ w ∧ w < 4294967296) ∧ (0 ≤ p ∧ p < 4294967296)
theorem pfP_is (p : Int) : pfP p = 2 ∨ pfP p = 3 := by unfold pfP; omega


set_option maxHeartbeats 1600000 in
theorem pf_ops (k : Nat) (d : Int) (h1 : 1 ≤ k) (h2 : k ≤ 64) : Ops pfA k d (PfReads ((8 + 4 * (k : Int)).toNat - 5)) (PfWrites ((8 + 4 * (k : Int)).toNat - 5)) := by
  have hnw : ∀ c x0 x1 x2 x3 x4, 0 ≤ c ∧ c ≤ 4 → NoWatch k c (W5 ((8 + 4 * (k : Int)).toNat - 5) x0 x1 x2 x3 x4) := fun c x0 x1 x2 x3 x4 hc => w5_nowatch k c (by omega) (by omega) hc x0 x1 x2 x3 x4
  generalize (8 + 4 * (k : Int)).toNat - 5 = N at hnw
  refine ⟨pf_step_same, ?_, ?_, ?_, ?_, ?_, ?_, ?_, ?_, ?_, ?_⟩
  · rintro i j op hi hj hop L ⟨q, w, p, rfl, hq, hq4, hw, hp⟩
    have hm : (q + 256 * (j : Int)) % 4294967296 % 4 = 0 := by omega
    have hn : ((q + 256 * (j : Int)) % 4294967296 + 256) % 4294967296 = (q + 256 * ((j + 1 : Nat) : Int)) % 4294967296 := by omega
    generalize hx : (q + 256 * (j : Int)) % 4294967296 = x at hm hn
    have hx0 : 0 ≤ x ∧ x < 4294967296 := by omega
    rcases hop with rfl | rfl
    · obtain ⟨s1, e1⟩ : ∃ s1, pfA (RnT k d i 1 0 0 0 (W5 N x q w w p)) = s1 := ⟨_, rfl⟩
      have e2 := e1
      simp [AtT, RnT, pfA, pfR10, Rn.fresh, Rn.rests, Rn.did, Rn.setA, Rn.setB, Rn.note, Rn.goto, Rn.fin, Rn.wake, Rn.waited, Rn.pfPass, pfIn6, pfIn7, pfLast6, pfLast7, Wk.zero, w5_ld0, w5_add0, w5_st0, w5_cas0, w5_casB0, w5_ld1, w5_add1, w5_st1, w5_cas1, w5_casB1, w5_ld2, w5_add2, w5_st2, w5_cas2, w5_casB2, w5_ld3, w5_add3, w5_st3, w5_cas3, w5_casB3, w5_ld4, w5_add4, w5_st4, w5_cas4, w5_casB4, hm] at e2
      subst e2
      refine ⟨1, _, by omega, ((startT_at k d i 1 (W5 N x q w w p)).fin (by rw [e1]; simp) (by rw [e1]; rfl)), by rw [e1], by rw [e1], ?_⟩
      rw [e1]
      exact ⟨q, w, p, by rw [← hn], hq, hq4, hw, hp⟩
    · have k1 : AtT k d i (pfA (RnT k d i 5 0 0 0 (W5 N x q w w p))) 5 1 x 0 (W5 N x q w w p) := by simp [AtT, RnT, pfA, pfR50, Rn.fresh, Rn.rests, Rn.did, Rn.setA, Rn.setB, Rn.note, Rn.goto, Rn.fin, Rn.wake, Rn.waited, Rn.pfPass, pfIn6, pfIn7, pfLast6, pfLast7, Wk.zero, w5_ld0, w5_add0, w5_st0, w5_cas0, w5_casB0, w5_ld1, w5_add1, w5_st1, w5_cas1, w5_casB1, w5_ld2, w5_add2, w5_st2, w5_cas2, w5_casB2, w5_ld3, w5_add3, w5_st3, w5_cas3, w5_casB3, w5_ld4, w5_add4, w5_st4, w5_cas4, w5_casB4, hm]
      obtain ⟨s1, e1⟩ : ∃ s1, pfA (RnT k d i 5 1 x 0 (W5 N x q w w p)) = s1 := ⟨_, rfl⟩
      have e2 := e1
      simp [AtT, RnT, pfA, pfR51, Rn.fresh, Rn.rests, Rn.did, Rn.setA, Rn.setB, Rn.note, Rn.goto, Rn.fin, Rn.wake, Rn.waited, Rn.pfPass, pfIn6, pfIn7, pfLast6, pfLast7, Wk.zero, w5_ld0, w5_add0, w5_st0, w5_cas0, w5_casB0, w5_ld1, w5_add1, w5_st1, w5_cas1, w5_casB1, w5_ld2, w5_add2, w5_st2, w5_cas2, w5_casB2, w5_ld3, w5_add3, w5_st3, w5_cas3, w5_casB3, w5_ld4, w5_add4, w5_st4, w5_cas4, w5_casB4, hm] at e2
      subst e2
      refine ⟨2, _, by omega, ((startT_at k d i 5 (W5 N x q w w p)).go k1 (by decide) (k1.fin (by rw [e1]; simp) (by rw [e1]; rfl))), by rw [e1], by rw [e1], ?_⟩
      rw [e1]
      exact ⟨q, w, p, by rw [← hn], hq, hq4, hw, hp⟩
  · rintro i j hi hj L ⟨q, w, p, rfl, hq, hq4, hw, hp⟩
    have hn : (q + 256 * ((j + 1 : Nat) : Int)) % 4294967296 = ((q + 256) % 4294967296 + 256 * (j : Int)) % 4294967296 := by omega
    generalize (q + 256 * ((j + 1 : Nat) : Int)) % 4294967296 = x at hn
    obtain ⟨s1, e1⟩ : ∃ s1, pfA (RnT k d i 2 0 0 0 (W5 N x q w w p)) = s1 := ⟨_, rfl⟩
    have e2 := e1
    simp [AtT, RnT, pfA, pfR20, Rn.fresh, Rn.rests, Rn.did, Rn.setA, Rn.setB, Rn.note, Rn.goto, Rn.fin, Rn.wake, Rn.waited, Rn.pfPass, pfIn6, pfIn7, pfLast6, pfLast7, Wk.zero, w5_ld0, w5_add0, w5_st0, w5_cas0, w5_casB0, w5_ld1, w5_add1, w5_st1, w5_cas1, w5_casB1, w5_ld2, w5_add2, w5_st2, w5_cas2, w5_casB2, w5_ld3, w5_add3, w5_st3, w5_cas3, w5_casB3, w5_ld4, w5_add4, w5_st4, w5_cas4, w5_casB4] at e2
    subst e2
    obtain ⟨n, s', h3, h4, h5, h6, h7⟩ := AtT.ends (g := pfA) (startT_at k d i 2 (W5 N x q w w p)) 1 e1 (by simp) (by simp) rfl (by simp; omega) (hnw 1 _ _ _ _ _ (by omega))
    refine ⟨_, s', by simp at h3; omega, h4, h6, h7, ?_⟩
    rw [h5]
    exact ⟨(q + 256) % 4294967296, w, p, by rw [← hn], by omega, by omega, hw, hp⟩
  · rintro i hi L ⟨q, w, p, rfl, hq, hq4, hw, hp⟩
    have hz : (q + 256 * ((0 : Nat) : Int)) % 4294967296 = q := by omega
    rw [hz]
    have k1 : AtT k d i (pfA (RnT k d i 3 0 0 0 (W5 N q q w w p))) 3 1 w 0 (W5 N q q ((w + 1) % 4294967296) w p) := by simp [AtT, RnT, pfA, pf30, Rn.fresh, Rn.rests, Rn.did, Rn.setA, Rn.setB, Rn.note, Rn.goto, Rn.fin, Rn.wake, Rn.waited, Rn.pfPass, pfIn6, pfIn7, pfLast6, pfLast7, Wk.zero, w5_ld0, w5_add0, w5_st0, w5_cas0, w5_casB0, w5_ld1, w5_add1, w5_st1, w5_cas1, w5_casB1, w5_ld2, w5_add2, w5_st2, w5_cas2, w5_casB2, w5_ld3, w5_add3, w5_st3, w5_cas3, w5_casB3, w5_ld4, w5_add4, w5_st4, w5_cas4, w5_casB4]
    have hw1 := w5_wait3 N q q ((w + 1) % 4294967296) w p k d i (fun v => v == w) (by simp)
    have k2 : AtT k d i (pfA (RnT k d i 3 1 w 0 (W5 N q q ((w + 1) % 4294967296) w p))) 3 2 w 0 (W5 N q q ((w + 1) % 4294967296) w p) := by simp [AtT, RnT, pfA, pf31, Rn.fresh, Rn.rests, Rn.did, Rn.setA, Rn.setB, Rn.note, Rn.goto, Rn.fin, Rn.wake, Rn.waited, Rn.pfPass, pfIn6, pfIn7, pfLast6, pfLast7, Wk.zero, w5_ld0, w5_add0, w5_st0, w5_cas0, w5_casB0, w5_ld1, w5_add1, w5_st1, w5_cas1, w5_casB1, w5_ld2, w5_add2, w5_st2, w5_cas2, w5_casB2, w5_ld3, w5_add3, w5_st3, w5_cas3, w5_casB3, w5_ld4, w5_add4, w5_st4, w5_cas4, w5_casB4, hw1]
    have k3 : AtT k d i (pfA (RnT k d i 3 2 w 0 (W5 N q q ((w + 1) % 4294967296) w p))) 3 3 w p (W5 N q q ((w + 1) % 4294967296) w p) := by simp [AtT, RnT, pfA, pf32, Rn.fresh, Rn.rests, Rn.did, Rn.setA, Rn.setB, Rn.note, Rn.goto, Rn.fin, Rn.wake, Rn.waited, Rn.pfPass, pfIn6, pfIn7, pfLast6, pfLast7, Wk.zero, w5_ld0, w5_add0, w5_st0, w5_cas0, w5_casB0, w5_ld1, w5_add1, w5_st1, w5_cas1, w5_casB1, w5_ld2, w5_add2, w5_st2, w5_cas2, w5_casB2, w5_ld3, w5_add3, w5_st3, w5_cas3, w5_casB3, w5_ld4, w5_add4, w5_st4, w5_cas4, w5_casB4]
    have k4 : AtT k d i (pfA (RnT k d i 3 3 w p (W5 N q q ((w + 1) % 4294967296) w p))) 3 4 q p (W5 N ((q + pfP p) % 4294967296) q ((w + 1) % 4294967296) w p) := by simp [AtT, RnT, pfA, pf33, Rn.fresh, Rn.rests, Rn.did, Rn.setA, Rn.setB, Rn.note, Rn.goto, Rn.fin, Rn.wake, Rn.waited, Rn.pfPass, pfIn6, pfIn7, pfLast6, pfLast7, Wk.zero, w5_ld0, w5_add0, w5_st0, w5_cas0, w5_casB0, w5_ld1, w5_add1, w5_st1, w5_cas1, w5_casB1, w5_ld2, w5_add2, w5_st2, w5_cas2, w5_casB2, w5_ld3, w5_add3, w5_st3, w5_cas3, w5_casB3, w5_ld4, w5_add4, w5_st4, w5_cas4, w5_casB4]
    have hw2 := w5_wait1 N ((q + pfP p) % 4294967296) q ((w + 1) % 4294967296) w p k d i (fun v => v == q) (by simp)
    obtain ⟨s1, e1⟩ : ∃ s1, pfA (RnT k d i 3 4 q p (W5 N ((q + pfP p) % 4294967296) q ((w + 1) % 4294967296) w p)) = s1 := ⟨_, rfl⟩
    have e2 := e1
    simp [AtT, RnT, pfA, pf34, Rn.fresh, Rn.rests, Rn.did, Rn.setA, Rn.setB, Rn.note, Rn.goto, Rn.fin, Rn.wake, Rn.waited, Rn.pfPass, pfIn6, pfIn7, pfLast6, pfLast7, Wk.zero, w5_ld0, w5_add0, w5_st0, w5_cas0, w5_casB0, w5_ld1, w5_add1, w5_st1, w5_cas1, w5_casB1, w5_ld2, w5_add2, w5_st2, w5_cas2, w5_casB2, w5_ld3, w5_add3, w5_st3, w5_cas3, w5_casB3, w5_ld4, w5_add4, w5_st4, w5_cas4, w5_casB4, hw2] at e2
    subst e2
    refine ⟨5, _, by omega, ((startT_at k d i 3 (W5 N q q w w p)).go k1 (by decide) (k1.go k2 (by decide) (k2.go k3 (by decide) (k3.go k4 (by decide) (k4.fin (by rw [e1]; simp) (by rw [e1]; rfl)))))), by rw [e1], by rw [e1], ?_⟩
    rw [e1]
    exact ⟨q, w, p, rfl, hq, hq4, hw, hp⟩
  · rintro i hi L ⟨q, w, p, rfl, hq, hq4, hw, hp⟩
    have k1 : AtT k d i (pfA (RnT k d i 4 0 0 0 (W5 N ((q + pfP p) % 4294967296) q ((w + 1) % 4294967296) w p))) 4 1 0 p (W5 N ((q + pfP p) % 4294967296) q ((w + 1) % 4294967296) w p) := by simp [AtT, RnT, pfA, pf40, Rn.fresh, Rn.rests, Rn.did, Rn.setA, Rn.setB, Rn.note, Rn.goto, Rn.fin, Rn.wake, Rn.waited, Rn.pfPass, pfIn6, pfIn7, pfLast6, pfLast7, Wk.zero, w5_ld0, w5_add0, w5_st0, w5_cas0, w5_casB0, w5_ld1, w5_add1, w5_st1, w5_cas1, w5_casB1, w5_ld2, w5_add2, w5_st2, w5_cas2, w5_casB2, w5_ld3, w5_add3, w5_st3, w5_cas3, w5_casB3, w5_ld4, w5_add4, w5_st4, w5_cas4, w5_casB4]
    have hb : (((q + pfP p) % 4294967296) + -pfP p % 4294967296) % 4294967296 = q := by have := pfP_is p; omega
    obtain ⟨s1, e1⟩ : ∃ s1, pfA (RnT k d i 4 1 0 p (W5 N ((q + pfP p) % 4294967296) q ((w + 1) % 4294967296) w p)) = s1 := ⟨_, rfl⟩
    have e2 := e1
    simp [AtT, RnT, pfA, pf41, Rn.fresh, Rn.rests, Rn.did, Rn.setA, Rn.setB, Rn.note, Rn.goto, Rn.fin, Rn.wake, Rn.waited, Rn.pfPass, pfIn6, pfIn7, pfLast6, pfLast7, Wk.zero, w5_ld0, w5_add0, w5_st0, w5_cas0, w5_casB0, w5_ld1, w5_add1, w5_st1, w5_cas1, w5_casB1, w5_ld2, w5_add2, w5_st2, w5_cas2, w5_casB2, w5_ld3, w5_add3, w5_st3, w5_cas3, w5_casB3, w5_ld4, w5_add4, w5_st4, w5_cas4, w5_casB4] at e2
    have hb2 := hb
    simp only [Int.emod_add_emod, Int.add_emod_emod] at hb2
    obtain ⟨qm, s2, hqm, k2, hgo⟩ := AtT.mid (g := pfA) k1 (line' := 2) (a' := 0) (b' := p) (L' := W5 N q q ((w + 1) % 4294967296) w p) 0 e1 (by rw [← e2]; simp [Rn.rests, RnT, Wk.zero]; rw [hb2]; try simp) (by decide) (by rw [← e2]) (by omega) (hnw 0 _ _ _ _ _ (by omega))
    have k3 : AtT k d i (pfA (RnT k d i 4 2 0 p (W5 N q q ((w + 1) % 4294967296) w p))) 4 3 0 p (W5 N q q ((w + 1) % 4294967296) w ((p + 1) % 4294967296)) := by simp [AtT, RnT, pfA, pf42, Rn.fresh, Rn.rests, Rn.did, Rn.setA, Rn.setB, Rn.note, Rn.goto, Rn.fin, Rn.wake, Rn.waited, Rn.pfPass, pfIn6, pfIn7, pfLast6, pfLast7, Wk.zero, w5_ld0, w5_add0, w5_st0, w5_cas0, w5_casB0, w5_ld1, w5_add1, w5_st1, w5_cas1, w5_casB1, w5_ld2, w5_add2, w5_st2, w5_cas2, w5_casB2, w5_ld3, w5_add3, w5_st3, w5_cas3, w5_casB3, w5_ld4, w5_add4, w5_st4, w5_cas4, w5_casB4]
    obtain ⟨s3, e3⟩ : ∃ s3, pfA (RnT k d i 4 3 0 p (W5 N q q ((w + 1) % 4294967296) w ((p + 1) % 4294967296))) = s3 := ⟨_, rfl⟩
    have e4 := e3
    simp [AtT, RnT, pfA, pf43, Rn.fresh, Rn.rests, Rn.did, Rn.setA, Rn.setB, Rn.note, Rn.goto, Rn.fin, Rn.wake, Rn.waited, Rn.pfPass, pfIn6, pfIn7, pfLast6, pfLast7, Wk.zero, w5_ld0, w5_add0, w5_st0, w5_cas0, w5_casB0, w5_ld1, w5_add1, w5_st1, w5_cas1, w5_casB1, w5_ld2, w5_add2, w5_st2, w5_cas2, w5_casB2, w5_ld3, w5_add3, w5_st3, w5_cas3, w5_casB3, w5_ld4, w5_add4, w5_st4, w5_cas4, w5_casB4] at e4
    subst e4
    obtain ⟨n, s', h3, h4, h5, h6, h7⟩ := AtT.ends (g := pfA) k3 3 e3 (by simp) (by simp) rfl (by simp; omega) (hnw 3 _ _ _ _ _ (by omega))
    refine ⟨_, s', ?_, (startT_at k d i 4 _).go k1 (by decide) (hgo _ _ (k2.go k3 (by decide) h4)), h6, h7, ?_⟩
    · simp at h3; omega
    rw [h5]
    exact ⟨q, ((w + 1) % 4294967296), ((p + 1) % 4294967296), by rw [show (q + 256 * ((0 : Nat) : Int)) % 4294967296 = q from by omega], hq, hq4, by omega, by omega⟩
  · rintro i hi L ⟨q, w, p, rfl, hq, hq4, hw, hp⟩
    have hz : (q + 256 * ((0 : Nat) : Int)) % 4294967296 = q := by omega
    rw [hz]
    have ha0 : aheadA w w = 0 := by unfold aheadA; omega
    have ha1 : aheadA q q = 0 := by unfold aheadA; omega
    have k1 : AtT k d i (pfA (RnT k d i 6 0 0 0 (W5 N q q w w p))) 6 1 w 0 (W5 N q q w w p) := by simp [AtT, RnT, pfA, pft0, Rn.fresh, Rn.rests, Rn.did, Rn.setA, Rn.setB, Rn.note, Rn.goto, Rn.fin, Rn.wake, Rn.waited, Rn.pfPass, pfIn6, pfIn7, pfLast6, pfLast7, Wk.zero, w5_ld0, w5_add0, w5_st0, w5_cas0, w5_casB0, w5_ld1, w5_add1, w5_st1, w5_cas1, w5_casB1, w5_ld2, w5_add2, w5_st2, w5_cas2, w5_casB2, w5_ld3, w5_add3, w5_st3, w5_cas3, w5_casB3, w5_ld4, w5_add4, w5_st4, w5_cas4, w5_casB4]
    have k2 : AtT k d i (pfA (RnT k d i 6 1 w 0 (W5 N q q w w p))) 6 2 w w (W5 N q q w w p) := by simp [AtT, RnT, pfA, pft1, Rn.fresh, Rn.rests, Rn.did, Rn.setA, Rn.setB, Rn.note, Rn.goto, Rn.fin, Rn.wake, Rn.waited, Rn.pfPass, pfIn6, pfIn7, pfLast6, pfLast7, Wk.zero, w5_ld0, w5_add0, w5_st0, w5_cas0, w5_casB0, w5_ld1, w5_add1, w5_st1, w5_cas1, w5_casB1, w5_ld2, w5_add2, w5_st2, w5_cas2, w5_casB2, w5_ld3, w5_add3, w5_st3, w5_cas3, w5_casB3, w5_ld4, w5_add4, w5_st4, w5_cas4, w5_casB4, ha0]
    have k3 : AtT k d i (pfA (RnT k d i 6 2 w w (W5 N q q w w p))) 6 3 w w (W5 N q q ((w + 1) % 4294967296) w p) := by simp [AtT, RnT, pfA, pft2, Rn.fresh, Rn.rests, Rn.did, Rn.setA, Rn.setB, Rn.note, Rn.goto, Rn.fin, Rn.wake, Rn.waited, Rn.pfPass, pfIn6, pfIn7, pfLast6, pfLast7, Wk.zero, w5_ld0, w5_add0, w5_st0, w5_cas0, w5_casB0, w5_ld1, w5_add1, w5_st1, w5_cas1, w5_casB1, w5_ld2, w5_add2, w5_st2, w5_cas2, w5_casB2, w5_ld3, w5_add3, w5_st3, w5_cas3, w5_casB3, w5_ld4, w5_add4, w5_st4, w5_cas4, w5_casB4]
    have k4 : AtT k d i (pfA (RnT k d i 6 3 w w (W5 N q q ((w + 1) % 4294967296) w p))) 6 4 q w (W5 N q q ((w + 1) % 4294967296) w p) := by simp [AtT, RnT, pfA, pft3, Rn.fresh, Rn.rests, Rn.did, Rn.setA, Rn.setB, Rn.note, Rn.goto, Rn.fin, Rn.wake, Rn.waited, Rn.pfPass, pfIn6, pfIn7, pfLast6, pfLast7, Wk.zero, w5_ld0, w5_add0, w5_st0, w5_cas0, w5_casB0, w5_ld1, w5_add1, w5_st1, w5_cas1, w5_casB1, w5_ld2, w5_add2, w5_st2, w5_cas2, w5_casB2, w5_ld3, w5_add3, w5_st3, w5_cas3, w5_casB3, w5_ld4, w5_add4, w5_st4, w5_cas4, w5_casB4]
    have k5 : AtT k d i (pfA (RnT k d i 6 4 q w (W5 N q q ((w + 1) % 4294967296) w p))) 6 5 q q (W5 N q q ((w + 1) % 4294967296) w p) := by simp [AtT, RnT, pfA, pft46, Rn.fresh, Rn.rests, Rn.did, Rn.setA, Rn.setB, Rn.note, Rn.goto, Rn.fin, Rn.wake, Rn.waited, Rn.pfPass, pfIn6, pfIn7, pfLast6, pfLast7, Wk.zero, w5_ld0, w5_add0, w5_st0, w5_cas0, w5_casB0, w5_ld1, w5_add1, w5_st1, w5_cas1, w5_casB1, w5_ld2, w5_add2, w5_st2, w5_cas2, w5_casB2, w5_ld3, w5_add3, w5_st3, w5_cas3, w5_casB3, w5_ld4, w5_add4, w5_st4, w5_cas4, w5_casB4, ha1]
    have k6 : AtT k d i (pfA (RnT k d i 6 5 q q (W5 N q q ((w + 1) % 4294967296) w p))) 6 6 q p (W5 N q q ((w + 1) % 4294967296) w p) := by simp [AtT, RnT, pfA, pft5, Rn.fresh, Rn.rests, Rn.did, Rn.setA, Rn.setB, Rn.note, Rn.goto, Rn.fin, Rn.wake, Rn.waited, Rn.pfPass, pfIn6, pfIn7, pfLast6, pfLast7, Wk.zero, w5_ld0, w5_add0, w5_st0, w5_cas0, w5_casB0, w5_ld1, w5_add1, w5_st1, w5_cas1, w5_casB1, w5_ld2, w5_add2, w5_st2, w5_cas2, w5_casB2, w5_ld3, w5_add3, w5_st3, w5_cas3, w5_casB3, w5_ld4, w5_add4, w5_st4, w5_cas4, w5_casB4]
    have k7 : AtT k d i (pfA (RnT k d i 6 6 q p (W5 N q q ((w + 1) % 4294967296) w p))) 6 7 q p (W5 N ((q + pfP p) % 4294967296) q ((w + 1) % 4294967296) w p) := by simp [AtT, RnT, pfA, pft6, Rn.fresh, Rn.rests, Rn.did, Rn.setA, Rn.setB, Rn.note, Rn.goto, Rn.fin, Rn.wake, Rn.waited, Rn.pfPass, pfIn6, pfIn7, pfLast6, pfLast7, Wk.zero, w5_ld0, w5_add0, w5_st0, w5_cas0, w5_casB0, w5_ld1, w5_add1, w5_st1, w5_cas1, w5_casB1, w5_ld2, w5_add2, w5_st2, w5_cas2, w5_casB2, w5_ld3, w5_add3, w5_st3, w5_cas3, w5_casB3, w5_ld4, w5_add4, w5_st4, w5_cas4, w5_casB4]
    have hw2 := w5_wait1 N ((q + pfP p) % 4294967296) q ((w + 1) % 4294967296) w p k d i (fun v => v == q) (by simp)
    obtain ⟨s1, e1⟩ : ∃ s1, pfA (RnT k d i 6 7 q p (W5 N ((q + pfP p) % 4294967296) q ((w + 1) % 4294967296) w p)) = s1 := ⟨_, rfl⟩
    have e2 := e1
    simp [AtT, RnT, pfA, pft76, Rn.fresh, Rn.rests, Rn.did, Rn.setA, Rn.setB, Rn.note, Rn.goto, Rn.fin, Rn.wake, Rn.waited, Rn.pfPass, pfIn6, pfIn7, pfLast6, pfLast7, Wk.zero, w5_ld0, w5_add0, w5_st0, w5_cas0, w5_casB0, w5_ld1, w5_add1, w5_st1, w5_cas1, w5_casB1, w5_ld2, w5_add2, w5_st2, w5_cas2, w5_casB2, w5_ld3, w5_add3, w5_st3, w5_cas3, w5_casB3, w5_ld4, w5_add4, w5_st4, w5_cas4, w5_casB4, hw2] at e2
    subst e2
    refine ⟨8, _, by omega, ((startT_at k d i 6 (W5 N q q w w p)).go k1 (by decide) (k1.go k2 (by decide) (k2.go k3 (by decide) (k3.go k4 (by decide) (k4.go k5 (by decide) (k5.go k6 (by decide) (k6.go k7 (by decide) (k7.fin (by rw [e1]; simp) (by rw [e1]; rfl))))))))), by rw [e1], by rw [e1], ?_⟩
    rw [e1]
    exact ⟨q, w, p, rfl, hq, hq4, hw, hp⟩
  · rintro i j hi hj L ⟨q, w, p, rfl, hq, hq4, hw, hp⟩
    have ha0 : aheadA w w = 0 := by unfold aheadA; omega
    have ha1 : 0 < aheadA ((q + 256 * ((j + 1 : Nat) : Int)) % 4294967296) q := by unfold aheadA; omega
    have hx0 : (q + 256 * ((j + 1 : Nat) : Int)) % 4294967296 = (q + 256 * ((j + 1 : Nat) : Int)) % 4294967296 := rfl
    generalize hx : (q + 256 * ((j + 1 : Nat) : Int)) % 4294967296 = x at ha1
    have k1 : AtT k d i (pfA (RnT k d i 6 0 0 0 (W5 N x q w w p))) 6 1 w 0 (W5 N x q w w p) := by simp [AtT, RnT, pfA, pft0, Rn.fresh, Rn.rests, Rn.did, Rn.setA, Rn.setB, Rn.note, Rn.goto, Rn.fin, Rn.wake, Rn.waited, Rn.pfPass, pfIn6, pfIn7, pfLast6, pfLast7, Wk.zero, w5_ld0, w5_add0, w5_st0, w5_cas0, w5_casB0, w5_ld1, w5_add1, w5_st1, w5_cas1, w5_casB1, w5_ld2, w5_add2, w5_st2, w5_cas2, w5_casB2, w5_ld3, w5_add3, w5_st3, w5_cas3, w5_casB3, w5_ld4, w5_add4, w5_st4, w5_cas4, w5_casB4]
    have k2 : AtT k d i (pfA (RnT k d i 6 1 w 0 (W5 N x q w w p))) 6 2 w w (W5 N x q w w p) := by simp [AtT, RnT, pfA, pft1, Rn.fresh, Rn.rests, Rn.did, Rn.setA, Rn.setB, Rn.note, Rn.goto, Rn.fin, Rn.wake, Rn.waited, Rn.pfPass, pfIn6, pfIn7, pfLast6, pfLast7, Wk.zero, w5_ld0, w5_add0, w5_st0, w5_cas0, w5_casB0, w5_ld1, w5_add1, w5_st1, w5_cas1, w5_casB1, w5_ld2, w5_add2, w5_st2, w5_cas2, w5_casB2, w5_ld3, w5_add3, w5_st3, w5_cas3, w5_casB3, w5_ld4, w5_add4, w5_st4, w5_cas4, w5_casB4, ha0]
    have k3 : AtT k d i (pfA (RnT k d i 6 2 w w (W5 N x q w w p))) 6 3 w w (W5 N x q ((w + 1) % 4294967296) w p) := by simp [AtT, RnT, pfA, pft2, Rn.fresh, Rn.rests, Rn.did, Rn.setA, Rn.setB, Rn.note, Rn.goto, Rn.fin, Rn.wake, Rn.waited, Rn.pfPass, pfIn6, pfIn7, pfLast6, pfLast7, Wk.zero, w5_ld0, w5_add0, w5_st0, w5_cas0, w5_casB0, w5_ld1, w5_add1, w5_st1, w5_cas1, w5_casB1, w5_ld2, w5_add2, w5_st2, w5_cas2, w5_casB2, w5_ld3, w5_add3, w5_st3, w5_cas3, w5_casB3, w5_ld4, w5_add4, w5_st4, w5_cas4, w5_casB4]
    have k4 : AtT k d i (pfA (RnT k d i 6 3 w w (W5 N x q ((w + 1) % 4294967296) w p))) 6 4 x w (W5 N x q ((w + 1) % 4294967296) w p) := by simp [AtT, RnT, pfA, pft3, Rn.fresh, Rn.rests, Rn.did, Rn.setA, Rn.setB, Rn.note, Rn.goto, Rn.fin, Rn.wake, Rn.waited, Rn.pfPass, pfIn6, pfIn7, pfLast6, pfLast7, Wk.zero, w5_ld0, w5_add0, w5_st0, w5_cas0, w5_casB0, w5_ld1, w5_add1, w5_st1, w5_cas1, w5_casB1, w5_ld2, w5_add2, w5_st2, w5_cas2, w5_casB2, w5_ld3, w5_add3, w5_st3, w5_cas3, w5_casB3, w5_ld4, w5_add4, w5_st4, w5_cas4, w5_casB4]
    have k5 : AtT k d i (pfA (RnT k d i 6 4 x w (W5 N x q ((w + 1) % 4294967296) w p))) 6 9 x q (W5 N x q ((w + 1) % 4294967296) w p) := by simp [AtT, RnT, pfA, pft46, Rn.fresh, Rn.rests, Rn.did, Rn.setA, Rn.setB, Rn.note, Rn.goto, Rn.fin, Rn.wake, Rn.waited, Rn.pfPass, pfIn6, pfIn7, pfLast6, pfLast7, Wk.zero, w5_ld0, w5_add0, w5_st0, w5_cas0, w5_casB0, w5_ld1, w5_add1, w5_st1, w5_cas1, w5_casB1, w5_ld2, w5_add2, w5_st2, w5_cas2, w5_casB2, w5_ld3, w5_add3, w5_st3, w5_cas3, w5_casB3, w5_ld4, w5_add4, w5_st4, w5_cas4, w5_casB4, ha1]
    obtain ⟨s1, e1⟩ : ∃ s1, pfA (RnT k d i 6 9 x q (W5 N x q ((w + 1) % 4294967296) w p)) = s1 := ⟨_, rfl⟩
    have e2 := e1
    simp [AtT, RnT, pfA, pft9, Rn.fresh, Rn.rests, Rn.did, Rn.setA, Rn.setB, Rn.note, Rn.goto, Rn.fin, Rn.wake, Rn.waited, Rn.pfPass, pfIn6, pfIn7, pfLast6, pfLast7, Wk.zero, w5_ld0, w5_add0, w5_st0, w5_cas0, w5_casB0, w5_ld1, w5_add1, w5_st1, w5_cas1, w5_casB1, w5_ld2, w5_add2, w5_st2, w5_cas2, w5_casB2, w5_ld3, w5_add3, w5_st3, w5_cas3, w5_casB3, w5_ld4, w5_add4, w5_st4, w5_cas4, w5_casB4] at e2
    subst e2
    obtain ⟨n, s', h3, h4, h5, h6, h7⟩ := AtT.ends (g := pfA) k5 3 e1 (by simp) (by simp) rfl (by simp; omega) (hnw 3 _ _ _ _ _ (by omega))
    refine ⟨_, s', by simp at h3; omega, ((startT_at k d i 6 (W5 N x q w w p)).go k1 (by decide) (k1.go k2 (by decide) (k2.go k3 (by decide) (k3.go k4 (by decide) (k4.go k5 (by decide) h4))))), h6, h7, ?_⟩
    rw [h5]
    exact ⟨q, ((w + 1) % 4294967296), p, by rw [hx], hq, hq4, by omega, hp⟩
  · rintro i hi L ⟨q, w, p, rfl, hq, hq4, hw, hp⟩
    have ha0 : 0 < aheadA ((w + 1) % 4294967296) w := by unfold aheadA; omega
    have k1 : AtT k d i (pfA (RnT k d i 6 0 0 0 (W5 N ((q + pfP p) % 4294967296) q ((w + 1) % 4294967296) w p))) 6 1 ((w + 1) % 4294967296) 0 (W5 N ((q + pfP p) % 4294967296) q ((w + 1) % 4294967296) w p) := by simp [AtT, RnT, pfA, pft0, Rn.fresh, Rn.rests, Rn.did, Rn.setA, Rn.setB, Rn.note, Rn.goto, Rn.fin, Rn.wake, Rn.waited, Rn.pfPass, pfIn6, pfIn7, pfLast6, pfLast7, Wk.zero, w5_ld0, w5_add0, w5_st0, w5_cas0, w5_casB0, w5_ld1, w5_add1, w5_st1, w5_cas1, w5_casB1, w5_ld2, w5_add2, w5_st2, w5_cas2, w5_casB2, w5_ld3, w5_add3, w5_st3, w5_cas3, w5_casB3, w5_ld4, w5_add4, w5_st4, w5_cas4, w5_casB4]
    obtain ⟨s1, e1⟩ : ∃ s1, pfA (RnT k d i 6 1 ((w + 1) % 4294967296) 0 (W5 N ((q + pfP p) % 4294967296) q ((w + 1) % 4294967296) w p)) = s1 := ⟨_, rfl⟩
    have e2 := e1
    simp [AtT, RnT, pfA, pft1, Rn.fresh, Rn.rests, Rn.did, Rn.setA, Rn.setB, Rn.note, Rn.goto, Rn.fin, Rn.wake, Rn.waited, Rn.pfPass, pfIn6, pfIn7, pfLast6, pfLast7, Wk.zero, w5_ld0, w5_add0, w5_st0, w5_cas0, w5_casB0, w5_ld1, w5_add1, w5_st1, w5_cas1, w5_casB1, w5_ld2, w5_add2, w5_st2, w5_cas2, w5_casB2, w5_ld3, w5_add3, w5_st3, w5_cas3, w5_casB3, w5_ld4, w5_add4, w5_st4, w5_cas4, w5_casB4, ha0] at e2
    subst e2
    refine ⟨2, _, by omega, ((startT_at k d i 6 (W5 N ((q + pfP p) % 4294967296) q ((w + 1) % 4294967296) w p)).go k1 (by decide) (k1.fin (by rw [e1]; simp) (by rw [e1]; rfl))), by rw [e1], by rw [e1], ?_⟩
    rw [e1]
    exact ⟨q, w, p, rfl, hq, hq4, hw, hp⟩
  · rintro i hi L ⟨q, w, p, rfl, hq, hq4, hw, hp⟩
    have hm : ¬ ((q + pfP p) % 4294967296) % 4 = 0 := by have := pfP_is p; omega
    generalize hx : ((q + pfP p) % 4294967296) = x at hm
    obtain ⟨s1, e1⟩ : ∃ s1, pfA (RnT k d i 5 0 0 0 (W5 N x q ((w + 1) % 4294967296) w p)) = s1 := ⟨_, rfl⟩
    have e2 := e1
    simp [AtT, RnT, pfA, pfR50, Rn.fresh, Rn.rests, Rn.did, Rn.setA, Rn.setB, Rn.note, Rn.goto, Rn.fin, Rn.wake, Rn.waited, Rn.pfPass, pfIn6, pfIn7, pfLast6, pfLast7, Wk.zero, w5_ld0, w5_add0, w5_st0, w5_cas0, w5_casB0, w5_ld1, w5_add1, w5_st1, w5_cas1, w5_casB1, w5_ld2, w5_add2, w5_st2, w5_cas2, w5_casB2, w5_ld3, w5_add3, w5_st3, w5_cas3, w5_casB3, w5_ld4, w5_add4, w5_st4, w5_cas4, w5_casB4, hm] at e2
    subst e2
    refine ⟨1, _, by omega, ((startT_at k d i 5 (W5 N x q ((w + 1) % 4294967296) w p)).fin (by rw [e1]; simp) (by rw [e1]; rfl)), by rw [e1], by rw [e1], ?_⟩
    rw [e1]
    exact ⟨q, w, p, by rw [hx], hq, hq4, hw, hp⟩
  · rintro i hi L ⟨q, w, p, rfl, hq, hq4, hw, hp⟩
    have k1 : AtT k d i (pfA (RnT k d i 8 0 0 0 (W5 N ((q + pfP p) % 4294967296) q ((w + 1) % 4294967296) w p))) 8 1 0 p (W5 N ((q + pfP p) % 4294967296) q ((w + 1) % 4294967296) w p) := by simp [AtT, RnT, pfA, pf80, Rn.fresh, Rn.rests, Rn.did, Rn.setA, Rn.setB, Rn.note, Rn.goto, Rn.fin, Rn.wake, Rn.waited, Rn.pfPass, pfIn6, pfIn7, pfLast6, pfLast7, Wk.zero, w5_ld0, w5_add0, w5_st0, w5_cas0, w5_casB0, w5_ld1, w5_add1, w5_st1, w5_cas1, w5_casB1, w5_ld2, w5_add2, w5_st2, w5_cas2, w5_casB2, w5_ld3, w5_add3, w5_st3, w5_cas3, w5_casB3, w5_ld4, w5_add4, w5_st4, w5_cas4, w5_casB4]
    have hb : (((q + pfP p) % 4294967296) + (256 - pfP p) % 4294967296) % 4294967296 = ((q + 256 * ((1 : Nat) : Int)) % 4294967296) := by have := pfP_is p; omega
    obtain ⟨s1, e1⟩ : ∃ s1, pfA (RnT k d i 8 1 0 p (W5 N ((q + pfP p) % 4294967296) q ((w + 1) % 4294967296) w p)) = s1 := ⟨_, rfl⟩
    have e2 := e1
    simp [AtT, RnT, pfA, pf81, Rn.fresh, Rn.rests, Rn.did, Rn.setA, Rn.setB, Rn.note, Rn.goto, Rn.fin, Rn.wake, Rn.waited, Rn.pfPass, pfIn6, pfIn7, pfLast6, pfLast7, Wk.zero, w5_ld0, w5_add0, w5_st0, w5_cas0, w5_casB0, w5_ld1, w5_add1, w5_st1, w5_cas1, w5_casB1, w5_ld2, w5_add2, w5_st2, w5_cas2, w5_casB2, w5_ld3, w5_add3, w5_st3, w5_cas3, w5_casB3, w5_ld4, w5_add4, w5_st4, w5_cas4, w5_casB4] at e2
    have hb2 := hb
    simp only [Int.emod_add_emod, Int.add_emod_emod] at hb2
    obtain ⟨qm, s2, hqm, k2, hgo⟩ := AtT.mid (g := pfA) k1 (line' := 2) (a' := 0) (b' := p) (L' := W5 N ((q + 256 * ((1 : Nat) : Int)) % 4294967296) q ((w + 1) % 4294967296) w p) 0 e1 (by rw [← e2]; simp [Rn.rests, RnT, Wk.zero]; rw [hb2]; try simp) (by decide) (by rw [← e2]) (by omega) (hnw 0 _ _ _ _ _ (by omega))
    generalize hx : ((q + 256 * ((1 : Nat) : Int)) % 4294967296) = x at k2 hgo
    have k3 : AtT k d i (pfA (RnT k d i 8 2 0 p (W5 N x q ((w + 1) % 4294967296) w p))) 8 3 0 p (W5 N x q ((w + 1) % 4294967296) w ((p + 1) % 4294967296)) := by simp [AtT, RnT, pfA, pf82, Rn.fresh, Rn.rests, Rn.did, Rn.setA, Rn.setB, Rn.note, Rn.goto, Rn.fin, Rn.wake, Rn.waited, Rn.pfPass, pfIn6, pfIn7, pfLast6, pfLast7, Wk.zero, w5_ld0, w5_add0, w5_st0, w5_cas0, w5_casB0, w5_ld1, w5_add1, w5_st1, w5_cas1, w5_casB1, w5_ld2, w5_add2, w5_st2, w5_cas2, w5_casB2, w5_ld3, w5_add3, w5_st3, w5_cas3, w5_casB3, w5_ld4, w5_add4, w5_st4, w5_cas4, w5_casB4]
    obtain ⟨s3, e3⟩ : ∃ s3, pfA (RnT k d i 8 3 0 p (W5 N x q ((w + 1) % 4294967296) w ((p + 1) % 4294967296))) = s3 := ⟨_, rfl⟩
    have e4 := e3
    simp [AtT, RnT, pfA, pf83, Rn.fresh, Rn.rests, Rn.did, Rn.setA, Rn.setB, Rn.note, Rn.goto, Rn.fin, Rn.wake, Rn.waited, Rn.pfPass, pfIn6, pfIn7, pfLast6, pfLast7, Wk.zero, w5_ld0, w5_add0, w5_st0, w5_cas0, w5_casB0, w5_ld1, w5_add1, w5_st1, w5_cas1, w5_casB1, w5_ld2, w5_add2, w5_st2, w5_cas2, w5_casB2, w5_ld3, w5_add3, w5_st3, w5_cas3, w5_casB3, w5_ld4, w5_add4, w5_st4, w5_cas4, w5_casB4] at e4
    subst e4
    obtain ⟨n, s', h3, h4, h5, h6, h7⟩ := AtT.ends (g := pfA) k3 3 e3 (by simp) (by simp) rfl (by simp; omega) (hnw 3 _ _ _ _ _ (by omega))
    refine ⟨_, s', ?_, (startT_at k d i 8 _).go k1 (by decide) (hgo _ _ (k2.go k3 (by decide) h4)), h6, h7, ?_⟩
    · simp at h3; omega
    rw [h5]
    exact ⟨q, ((w + 1) % 4294967296), ((p + 1) % 4294967296), by rw [hx], hq, hq4, by omega, by omega⟩
  · rintro i hi L ⟨q, w, p, rfl, hq, hq4, hw, hp⟩
    have ha0 : aheadA w w = 0 := by unfold aheadA; omega
    have ha1 : ¬ 256 < aheadA ((q + 256 * ((1 : Nat) : Int)) % 4294967296) q := by unfold aheadA; omega
    have hb : (((q + 256 * ((1 : Nat) : Int)) % 4294967296) - 256) % 4294967296 = q := by omega
    have hc : (((q + 256 * ((1 : Nat) : Int)) % 4294967296) + pfP p) % 4294967296 = ((q + 256) % 4294967296 + pfP p) % 4294967296 := by omega
    generalize hx : ((q + 256 * ((1 : Nat) : Int)) % 4294967296) = x at ha1 hb hc
    have k1 : AtT k d i (pfA (RnT k d i 7 0 0 0 (W5 N x q w w p))) 7 1 w 0 (W5 N x q w w p) := by simp [AtT, RnT, pfA, pft0, Rn.fresh, Rn.rests, Rn.did, Rn.setA, Rn.setB, Rn.note, Rn.goto, Rn.fin, Rn.wake, Rn.waited, Rn.pfPass, pfIn6, pfIn7, pfLast6, pfLast7, Wk.zero, w5_ld0, w5_add0, w5_st0, w5_cas0, w5_casB0, w5_ld1, w5_add1, w5_st1, w5_cas1, w5_casB1, w5_ld2, w5_add2, w5_st2, w5_cas2, w5_casB2, w5_ld3, w5_add3, w5_st3, w5_cas3, w5_casB3, w5_ld4, w5_add4, w5_st4, w5_cas4, w5_casB4]
    have k2 : AtT k d i (pfA (RnT k d i 7 1 w 0 (W5 N x q w w p))) 7 2 w w (W5 N x q w w p) := by simp [AtT, RnT, pfA, pft1, Rn.fresh, Rn.rests, Rn.did, Rn.setA, Rn.setB, Rn.note, Rn.goto, Rn.fin, Rn.wake, Rn.waited, Rn.pfPass, pfIn6, pfIn7, pfLast6, pfLast7, Wk.zero, w5_ld0, w5_add0, w5_st0, w5_cas0, w5_casB0, w5_ld1, w5_add1, w5_st1, w5_cas1, w5_casB1, w5_ld2, w5_add2, w5_st2, w5_cas2, w5_casB2, w5_ld3, w5_add3, w5_st3, w5_cas3, w5_casB3, w5_ld4, w5_add4, w5_st4, w5_cas4, w5_casB4, ha0]
    have k3 : AtT k d i (pfA (RnT k d i 7 2 w w (W5 N x q w w p))) 7 3 w w (W5 N x q ((w + 1) % 4294967296) w p) := by simp [AtT, RnT, pfA, pft2, Rn.fresh, Rn.rests, Rn.did, Rn.setA, Rn.setB, Rn.note, Rn.goto, Rn.fin, Rn.wake, Rn.waited, Rn.pfPass, pfIn6, pfIn7, pfLast6, pfLast7, Wk.zero, w5_ld0, w5_add0, w5_st0, w5_cas0, w5_casB0, w5_ld1, w5_add1, w5_st1, w5_cas1, w5_casB1, w5_ld2, w5_add2, w5_st2, w5_cas2, w5_casB2, w5_ld3, w5_add3, w5_st3, w5_cas3, w5_casB3, w5_ld4, w5_add4, w5_st4, w5_cas4, w5_casB4]
    have k4 : AtT k d i (pfA (RnT k d i 7 3 w w (W5 N x q ((w + 1) % 4294967296) w p))) 7 4 x w (W5 N x q ((w + 1) % 4294967296) w p) := by simp [AtT, RnT, pfA, pft3, Rn.fresh, Rn.rests, Rn.did, Rn.setA, Rn.setB, Rn.note, Rn.goto, Rn.fin, Rn.wake, Rn.waited, Rn.pfPass, pfIn6, pfIn7, pfLast6, pfLast7, Wk.zero, w5_ld0, w5_add0, w5_st0, w5_cas0, w5_casB0, w5_ld1, w5_add1, w5_st1, w5_cas1, w5_casB1, w5_ld2, w5_add2, w5_st2, w5_cas2, w5_casB2, w5_ld3, w5_add3, w5_st3, w5_cas3, w5_casB3, w5_ld4, w5_add4, w5_st4, w5_cas4, w5_casB4]
    have k5 : AtT k d i (pfA (RnT k d i 7 4 x w (W5 N x q ((w + 1) % 4294967296) w p))) 7 5 x q (W5 N x q ((w + 1) % 4294967296) w p) := by simp [AtT, RnT, pfA, pft47, Rn.fresh, Rn.rests, Rn.did, Rn.setA, Rn.setB, Rn.note, Rn.goto, Rn.fin, Rn.wake, Rn.waited, Rn.pfPass, pfIn6, pfIn7, pfLast6, pfLast7, Wk.zero, w5_ld0, w5_add0, w5_st0, w5_cas0, w5_casB0, w5_ld1, w5_add1, w5_st1, w5_cas1, w5_casB1, w5_ld2, w5_add2, w5_st2, w5_cas2, w5_casB2, w5_ld3, w5_add3, w5_st3, w5_cas3, w5_casB3, w5_ld4, w5_add4, w5_st4, w5_cas4, w5_casB4, ha1]
    have k6 : AtT k d i (pfA (RnT k d i 7 5 x q (W5 N x q ((w + 1) % 4294967296) w p))) 7 6 x p (W5 N x q ((w + 1) % 4294967296) w p) := by simp [AtT, RnT, pfA, pft5, Rn.fresh, Rn.rests, Rn.did, Rn.setA, Rn.setB, Rn.note, Rn.goto, Rn.fin, Rn.wake, Rn.waited, Rn.pfPass, pfIn6, pfIn7, pfLast6, pfLast7, Wk.zero, w5_ld0, w5_add0, w5_st0, w5_cas0, w5_casB0, w5_ld1, w5_add1, w5_st1, w5_cas1, w5_casB1, w5_ld2, w5_add2, w5_st2, w5_cas2, w5_casB2, w5_ld3, w5_add3, w5_st3, w5_cas3, w5_casB3, w5_ld4, w5_add4, w5_st4, w5_cas4, w5_casB4]
    have k7 : AtT k d i (pfA (RnT k d i 7 6 x p (W5 N x q ((w + 1) % 4294967296) w p))) 7 7 x p (W5 N ((x + pfP p) % 4294967296) q ((w + 1) % 4294967296) w p) := by simp [AtT, RnT, pfA, pft6, Rn.fresh, Rn.rests, Rn.did, Rn.setA, Rn.setB, Rn.note, Rn.goto, Rn.fin, Rn.wake, Rn.waited, Rn.pfPass, pfIn6, pfIn7, pfLast6, pfLast7, Wk.zero, w5_ld0, w5_add0, w5_st0, w5_cas0, w5_casB0, w5_ld1, w5_add1, w5_st1, w5_cas1, w5_casB1, w5_ld2, w5_add2, w5_st2, w5_cas2, w5_casB2, w5_ld3, w5_add3, w5_st3, w5_cas3, w5_casB3, w5_ld4, w5_add4, w5_st4, w5_cas4, w5_casB4]
    have hw2 := w5_wait1 N ((x + pfP p) % 4294967296) q ((w + 1) % 4294967296) w p k d i (fun v => v == (x - 256) % 4294967296) (by simp [hb])
    have k8 : AtT k d i (pfA (RnT k d i 7 7 x p (W5 N ((x + pfP p) % 4294967296) q ((w + 1) % 4294967296) w p))) 7 8 x p (W5 N ((x + pfP p) % 4294967296) q ((w + 1) % 4294967296) w p) := by simp [AtT, RnT, pfA, pft77, Rn.fresh, Rn.rests, Rn.did, Rn.setA, Rn.setB, Rn.note, Rn.goto, Rn.fin, Rn.wake, Rn.waited, Rn.pfPass, pfIn6, pfIn7, pfLast6, pfLast7, Wk.zero, w5_ld0, w5_add0, w5_st0, w5_cas0, w5_casB0, w5_ld1, w5_add1, w5_st1, w5_cas1, w5_casB1, w5_ld2, w5_add2, w5_st2, w5_cas2, w5_casB2, w5_ld3, w5_add3, w5_st3, w5_cas3, w5_casB3, w5_ld4, w5_add4, w5_st4, w5_cas4, w5_casB4, hw2]
    obtain ⟨s1, e1⟩ : ∃ s1, pfA (RnT k d i 7 8 x p (W5 N ((x + pfP p) % 4294967296) q ((w + 1) % 4294967296) w p)) = s1 := ⟨_, rfl⟩
    have e2 := e1
    simp [AtT, RnT, pfA, pft87, Rn.fresh, Rn.rests, Rn.did, Rn.setA, Rn.setB, Rn.note, Rn.goto, Rn.fin, Rn.wake, Rn.waited, Rn.pfPass, pfIn6, pfIn7, pfLast6, pfLast7, Wk.zero, w5_ld0, w5_add0, w5_st0, w5_cas0, w5_casB0, w5_ld1, w5_add1, w5_st1, w5_cas1, w5_casB1, w5_ld2, w5_add2, w5_st2, w5_cas2, w5_casB2, w5_ld3, w5_add3, w5_st3, w5_cas3, w5_casB3, w5_ld4, w5_add4, w5_st4, w5_cas4, w5_casB4] at e2
    subst e2
    refine ⟨9, _, by omega, ((startT_at k d i 7 (W5 N x q w w p)).go k1 (by decide) (k1.go k2 (by decide) (k2.go k3 (by decide) (k3.go k4 (by decide) (k4.go k5 (by decide) (k5.go k6 (by decide) (k6.go k7 (by decide) (k7.go k8 (by decide) (k8.fin (by rw [e1]; simp) (by rw [e1]; rfl)))))))))), by rw [e1], by rw [e1], ?_⟩
    rw [e1]
    exact ⟨(q + 256) % 4294967296, w, p, by rw [hc], by omega, by omega, hw, hp⟩


def pfLists : List (List Int) := [[1, 2], [3, 4], [5, 2], [6, 4], [3, 8, 2], [1, 7, 4], [6, 8, 7, 4]]
def pfTry : List (Int × Int × Int × Int) := [(3, 5, 1, 4), (3, 6, 1, 4), (1, 6, 1, 2), (1, 5, 2, 2)]
/-- Those that came and those that went are alike, and so are the tickets. -/
def pfEnd (base : Int) (E : List Int) : Prop := ldA E 0 = ldA E 1 ∧ ldA E 2 = ldA E 3
theorem pf_first (k : Nat) (base : Int) (h1 : 1 ≤ k) (h2 : k ≤ 64) (hb : 0 ≤ base ∧ base < 4294967296) : PfReads ((8 + 4 * (k : Int)).toNat - 5) 0 (own2 base ++ List.replicate ((8 + 4 * (k : Int)).toNat - 5) 0) :=
  ⟨base * 256 % 4294967296, base, base, by rw [show (base * 256 % 4294967296 + 256 * ((0 : Nat) : Int)) % 4294967296 = base * 256 % 4294967296 from by omega]; rfl, by omega, by omega, hb, hb⟩
theorem pf_runs (n d base : Int) (most : Nat) (h1 : 1 ≤ n) (h2 : n ≤ 64) (hb : 0 ≤ base ∧ base < 4294967296) (hm : 40 + 8 * n ≤ most) :
    ∀ l, l ∈ pfLists → ∃ E, Runs pfA n d most l (own2 base ++ List.replicate ((8 + 4 * n).toNat - 5) 0) E ∧ pfEnd base E := by
  obtain ⟨k, rfl⟩ : ∃ k : Nat, n = k := ⟨n.toNat, by omega⟩
  refine (pf_ops k d (by omega) (by omega)).runs (by omega) (by omega) ?_ (pf_first k base (by omega) (by omega) hb)
  rintro L ⟨q, w, p, rfl, hq, hq4, hw, hp⟩
  unfold pfEnd
  rw [w5_ldA0, w5_ldA1, w5_ldA2, w5_ldA3]
  exact ⟨by omega, rfl⟩
theorem pf_tries (n d base : Int) (most : Nat) (h1 : 1 ≤ n) (h2 : n ≤ 64) (hb : 0 ≤ base ∧ base < 4294967296) (hm : 40 + 8 * n ≤ most) : ∀ x0 x1 x2 x3, (x0, x1, x2, x3) ∈ pfTry → ∃ s1 s2 s3, aloneA pfA most (start n d x0 (own2 base ++ List.replicate ((8 + 4 * n).toNat - 5) 0)) = (2, s1) ∧ aloneA pfA most (start n d x1 s1.L) = (x2, s2) ∧
    aloneA pfA most (start n d x3 s2.L) = (2, s3) ∧ (x2 = 1 → ∃ s4, aloneA pfA most (start n d 6 s3.L) = (2, s4)) := by
  obtain ⟨k, rfl⟩ : ∃ k : Nat, n = k := ⟨n.toNat, by omega⟩
  exact (pf_ops k d (by omega) (by omega)).tries (by omega) (by omega) (pf_first k base (by omega) (by omega) hb)
theorem pf_together (k : Nat) (d op : Int) (h1 : 2 ≤ k) (h2 : k ≤ 16) (hop : op = 1 ∨ op = 5) : Together pfA k d op (PfReads ((8 + 4 * (k : Int)).toNat - 5)) :=
  (pf_ops k d (by omega) (by omega)).together h1 h2 hop

end Go.Proofs.Ytmbbcgkfankiaaa.Z

/- Law 11: the statement PfTogether. Written by genmat.py. -/
set_option linter.unusedVariables false
set_option linter.unusedSimpArgs false
namespace Go.Proofs.Ytmbbcgkfankiaaa.Z
open Go.RowKit

theorem pfTogether_any (n mode base : Int) (try_ : Bool) (w : World) (hn : 0 ≤ n ∧ n < 256) (hm : 0 ≤ mode ∧ mode < 256) (hb : 0 ≤ base ∧ base < 4294967296) :
    Calls Try.prog 11 #[.int .u8 n, .int .u8 mode, .int .u32 base, .bool try_] w fun e w' => e = .returned (.bool true) ∧ Touch [] w w' := by
  refine pf_together_walk n mode base try_ w hb hn hm (if try_ then 5 else 1) rfl fun k hk => ?_
  have hop : (if try_ = true then (5 : Int) else 1) = 1 ∨ (if try_ = true then (5 : Int) else 1) = 5 := by cases try_ <;> simp
  exact together_ok hop (pf_together k (1 + mode % 2) _ (by omega) (by omega) hop) (pf_first k base (by omega) (by omega) hb) (by omega)

end Go.Proofs.Ytmbbcgkfankiaaa.Z

/- Arguments opened: whole numbers, structs of whole numbers, slices of these. No statement is in sight. -/
set_option linter.unusedVariables false
set_option linter.unusedSimpArgs false
namespace Go.Proofs.Ytmbbcgkfankiaaa.Z
open Go.RowKit Go.ChangeShapes Go.WideShapes Go.ChangeAt Go.Deep

/-- Whatever reads as a value of type t has cells of this form. -/
def Flat (P : Program) (t : TypeId) (ok : List Value → Prop) : Prop :=
  ∀ (H : Type) (enc : TypeId × Value → H) (w : World) (base : Nat) (spare : Nat → Bool) (held : Bool) (fuel : Nat) (cs : List Value) (x : DataW H × List MemPlace),
    DataW.trod enc P w base spare held fuel t cs = some x → ok cs

theorem flat_int {P : Program} {t : TypeId} {k : IntKind} (ht : P.underlying t = some (.int k)) : Flat P t (fun cs => ∃ n, cs = [.int k n] ∧ (Lit.int k n).wf = true) := by
  intro H enc w base spare held fuel cs x h
  obtain ⟨n, h1, _, h2⟩ := DataW.trod_int ht h
  exact ⟨n, h1, h2⟩

theorem flat_bool {P : Program} {t : TypeId} (ht : P.underlying t = some .bool) : Flat P t (fun cs => ∃ b, cs = [.bool b]) := by
  intro H enc w base spare held fuel cs x h
  obtain ⟨n, h1, _⟩ := DataW.trod_bool ht h
  exact ⟨n, h1⟩

theorem flat_mono {P : Program} {t : TypeId} {ok ok' : List Value → Prop} (h : Flat P t ok) (hm : ∀ cs, ok cs → ok' cs) : Flat P t ok' :=
  fun H enc w base spare held fuel cs x hx => hm _ (h H enc w base spare held fuel cs x hx)

/-- A struct: each field's cells are of that field's form. -/
theorem flat_struct {P : Program} {t : TypeId} {fs : Array Field} (ht : P.underlying t = some (.struct fs)) :
    Flat P t (fun cs => cs.length = P.cellsOf t ∧ ∀ (i : Nat) (f : Field) (ok : List Value → Prop), fs[i]? = some f → Flat P f.type ok → ok ((cs.drop f.offset).take (P.cellsOf f.type))) := by
  intro H enc w base spare held fuel cs x h
  obtain ⟨xs, n, _, _, hl, hxl, hf⟩ := DataW.trod_struct ht h
  refine ⟨hl, fun i f ok hi hok => ?_⟩
  have hil : i < fs.size := (Array.getElem?_eq_some_iff.1 hi).1
  have := hf i f hi
  rw [List.getElem?_eq_getElem (by omega)] at this
  exact hok H enc w base spare held n _ _ this

theorem wf_u32 {n : Int} (h : (Lit.int .u32 n).wf = true) : 0 ≤ n ∧ n < 4294967296 := by
  simp [Lit.wf, IntKind.min, IntKind.max, IntKind.signed, IntKind.bits] at h; omega
theorem wf_u8 {n : Int} (h : (Lit.int .u8 n).wf = true) : 0 ≤ n ∧ n < 256 := by
  simp [Lit.wf, IntKind.min, IntKind.max, IntKind.signed, IntKind.bits] at h; omega
theorem wf_i64 {n : Int} (h : (Lit.int .i64 n).wf = true) : -9223372036854775808 ≤ n ∧ n ≤ 9223372036854775807 := by
  simp [Lit.wf, IntKind.min, IntKind.max, IntKind.signed, IntKind.bits] at h; omega
theorem wf_i32 {n : Int} (h : (Lit.int .i32 n).wf = true) : -2147483648 ≤ n ∧ n < 2147483648 := by
  simp [Lit.wf, IntKind.min, IntKind.max, IntKind.signed, IntKind.bits] at h; omega

theorem flatMap_at {α : Type} {dec : α → List Value} {size : Nat} (hs : 0 < size) (hlen : ∀ a, (dec a).length = size) : ∀ (l : List α) (i j : Nat) (h : i < l.length), j < size → (l.flatMap dec)[i * size + j]? = (dec l[i])[j]? := by
  intro l
  induction l with
  | nil => intro i j h; simp at h
  | cons a l ih =>
    intro i j h hj
    rw [List.flatMap_cons]
    cases i with
    | zero =>
      rw [List.getElem?_append_left (by rw [hlen]; omega)]
      simp
    | succ i =>
      rw [List.getElem?_append_right (by rw [hlen, Nat.succ_mul]; omega), hlen, show (i + 1) * size + j - size = i * size + j by rw [Nat.succ_mul]; omega, ih i j (by simpa using h) hj]
      rfl

theorem flatMap_length {α : Type} {dec : α → List Value} {size : Nat} (hlen : ∀ a, (dec a).length = size) (l : List α) : (l.flatMap dec).length = l.length * size := by
  induction l with
  | nil => simp
  | cons a l ih => rw [List.flatMap_cons, List.length_append, ih, hlen, List.length_cons, Nat.succ_mul]; omega

/-- A slice of flat elements, as a list. -/
theorem open_list {P : Program} {H : Type} {enc : TypeId × Value → H} {w : World} {t e : TypeId} {α : Type} {dec : α → List Value} {ok : α → Prop} {size : Nat} {A : Option Addr} {n c : Nat} {d : DataW H} {p : List MemPlace}
    (ht : P.underlying t = some (.slice e)) (hF : Flat P e (fun cs => ∃ a, ok a ∧ cs = dec a)) (hC : P.cellsOf e = size) (hs : 0 < size) (hlen : ∀ a, (dec a).length = size)
    (h : DataW.Trod enc P w 0 (fun _ => true) true t (.slice A n c) d p) (lt : ∀ x ∈ p, x.block < w.heap.size) :
    ∃ l : List α, l.length = n ∧ (∀ a, a ∈ l → ok a) ∧ Rd w size A n (l.flatMap dec) ∧ n ≤ c ∧ c ≤ 9223372036854775807 := by
  obtain ⟨fuel, hf⟩ := h
  rcases open_slice ht hf with ⟨hcs, _⟩ | ⟨a, len, cap, m, n', D, Pl, hcs, hb, hl, hm, hmm, hx, hi⟩
  · simp [Value.cells] at hcs
    obtain ⟨rfl, rfl, rfl⟩ := hcs
    exact ⟨[], rfl, by simp, Rd.nil _ _ _, Nat.le_refl _, by decide⟩
  · simp [Value.cells] at hcs
    obtain ⟨rfl, rfl, rfl⟩ := hcs
    simp at hmm
    subst hmm
    have hE : ∀ i, i < n → ∃ y : α, ok y ∧ ∀ j, j < size → w.cell? (a.add (i * size + j)) = (dec y)[j]? := by
      intro i hin
      obtain ⟨cs', hc, htr⟩ := hi i (by omega)
      obtain ⟨y, hy, rfl⟩ := hF H enc w 0 _ true n' cs' _ htr
      rw [hC] at hc
      obtain ⟨_, hcl, hat⟩ := World.cells?_some hc
      exact ⟨y, hy, fun j hj => by rw [← Go.Deep.add_add]; exact hat j hj⟩
    have hL : ∀ n0, n0 ≤ n → ∃ l : List α, l.length = n0 ∧ ∀ i (h : i < l.length), ok l[i] ∧ ∀ j, j < size → w.cell? (a.add (i * size + j)) = (dec l[i])[j]? := by
      intro n0
      induction n0 with
      | zero => intro _; exact ⟨[], rfl, fun i h => by simp at h⟩
      | succ k ih =>
        intro hk
        obtain ⟨l, hl, hlp⟩ := ih (by omega)
        obtain ⟨y, hy, hyc⟩ := hE k (by omega)
        refine ⟨l ++ [y], by simp [hl], fun i h => ?_⟩
        by_cases hik : i < l.length
        · rw [List.getElem_append_left hik]; exact hlp i hik
        · have : i = k := by simp at h; omega
          subst this
          rw [List.getElem_append_right (by omega)]
          simp [hl]
          exact ⟨hy, hyc⟩
    obtain ⟨l, hll, hlp⟩ := hL n (Nat.le_refl _)
    refine ⟨l, hll, fun y hy => ?_, ⟨by rw [flatMap_length hlen, hll], fun h0 => ⟨a, rfl, ?_, fun j u hu => ?_⟩⟩, hl, hm⟩
    · obtain ⟨i, hi, rfl⟩ := List.getElem_of_mem hy
      exact (hlp i hi).1
    · have := (hlp 0 (by omega)).2 0 hs
      have h1 : (dec l[0])[0]? = some ((dec l[0])[0]'(by rw [hlen]; exact hs)) := List.getElem?_eq_getElem _
      rw [h1] at this
      have := World.block_lt_of_cell? w _ this
      rw [addr_block] at this
      exact this
    · have hj : j < l.length * size := by
        have := (List.getElem?_eq_some_iff.1 hu).1
        rwa [flatMap_length hlen] at this
      have e := Nat.div_add_mod j size
      have hd : j / size < l.length := Nat.div_lt_of_lt_mul (by rw [Nat.mul_comm]; exact hj)
      have hm := Nat.mod_lt j hs
      rw [Nat.mul_comm] at e
      have := (hlp _ hd).2 _ hm
      rw [e] at this
      rw [this, ← flatMap_at hs hlen l _ _ hd hm, e, hu]

/-- A struct by value, as its cells. -/
theorem open_flat {P : Program} {H : Type} {enc : TypeId × Value → H} {w : World} {t : TypeId} {fs : Array Field} {α : Type} {dec : α → List Value} {ok : α → Prop} {v : Value} {d : DataW H} {p : List MemPlace} {r : Reach} {base : Nat}
    (ht : P.underlying t = some (.struct fs)) (hF : Flat P t (fun cs => ∃ a, ok a ∧ cs = dec a)) (hv : Value.okWide P w r base t v) (h : DataW.Trod enc P w 0 (fun _ => true) true t v d p) :
    ∃ a, ok a ∧ v = .agg (dec a).toArray := by
  obtain ⟨cs, rfl, _⟩ := okWide_struct ht hv
  obtain ⟨fuel, hf⟩ := h
  obtain ⟨a, ha, hc⟩ := hF H enc w 0 _ true fuel _ _ hf
  refine ⟨a, ha, ?_⟩
  rw [← hc]
  simp [Value.cells]

/-- A number's value, its data left as they are. -/
theorem open_num {P : Program} {H : Type} {enc : TypeId × Value → H} {w : World} {t : TypeId} {k : IntKind} {v : Value} {d : DataW H} {p : List MemPlace} {r : Reach} {base : Nat}
    (ht : P.underlying t = some (.int k)) (hv : Value.okWide P w r base t v) (h : DataW.Trod enc P w 0 (fun _ => true) true t v d p) : ∃ n, v = .int k n ∧ (Lit.int k n).wf = true := by
  obtain ⟨n, h1, _, _, h2⟩ := open_int ht hv h
  exact ⟨n, h1, h2⟩

theorem open_truth {P : Program} {H : Type} {enc : TypeId × Value → H} {w : World} {t : TypeId} {v : Value} {d : DataW H} {p : List MemPlace} {r : Reach} {base : Nat}
    (ht : P.underlying t = some .bool) (hv : Value.okWide P w r base t v) (h : DataW.Trod enc P w 0 (fun _ => true) true t v d p) : ∃ b, v = .bool b := by
  obtain ⟨n, h1, _⟩ := open_bool ht hv h
  exact ⟨n, h1⟩

end Go.Proofs.Ytmbbcgkfankiaaa.Z
