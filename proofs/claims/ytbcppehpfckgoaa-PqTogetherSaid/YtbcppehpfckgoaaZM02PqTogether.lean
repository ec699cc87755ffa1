/- 6 texts of this claim, joined: what each shows stands at its own head. -/
import Derived.Test.YtbcppehpfckgoaaZMat2
import Derived.Test.YtbcppehpfckgoaaZM01PqTogether
import Derived.Test.YtbcppehpfckgoaaZAlone
import Derived.Test.YtbcppehpfckgoaaZHas3
/- A task that is let go on alone, from its operation's beginning to its end; many that read. No lock in sight. -/
set_option linter.unusedVariables false
set_option linter.unusedSimpArgs false
namespace Go.Proofs.Ytbcppehpfckgoaa.Z
open Go.RowKit

/-- A run that waits for no permit here. -/
def Free (s : Rn) : Prop := s.f.wk.on = true ∨ s.f.st = 0
theorem free_stuck {s : Rn} (h : Free s) (L : List Int) (n mode task : Int) : (!s.f.wk.on && stuckA L n mode task s.f.st) = false := by
  rcases h with h | h
  · rw [h]; rfl
  · rw [h]
    unfold stuckA
    rw [stageA_0]
    simp

/-- In so many steps an operation ends. -/
inductive Does (g : Rn → Rn) : Nat → Rn → Rn → Prop
  | last {s s' : Rn} : Free s → stepR g s = s' → s'.over = true → Does g 1 s s'
  | more {n : Nat} {s s1 s' : Rn} : Free s → stepR g s = s1 → s1.over = false → s1.f.op ≠ 0 → Does g n s1 s' → Does g (n + 1) s s'

def Same (g : Rn → Rn) : Prop := ∀ s, (stepR g s).n = s.n ∧ (stepR g s).mode = s.mode ∧ (stepR g s).task = s.task

theorem run_fresh {s : Rn} {M : Mt} {i : Nat} {f : Fr} (h1 : s.n = M.n) (h2 : s.mode = M.mode) (h3 : s.task = i) (h4 : s.f = f) (h5 : s.L = M.L) : s.fresh = M.run i f := by
  obtain ⟨n, mode, task, f', acc, notes, L⟩ := s
  simp only at h1 h2 h3 h4 h5
  subst h1 h2 h3 h4 h5
  rfl
theorem step_of_fresh {g : Rn → Rn} {s : Rn} {M : Mt} {i : Nat} {f : Fr} (h : s.fresh = M.run i f) {s1 : Rn} (hs : stepR g s = s1) : stepR g (M.run i f) = s1 := by
  rw [← h, ← stepR_fresh, hs]

theorem put_put (M : Mt) (i : Nat) (f f' : Fr) (h h' : Int) (L L' : List Int) : (M.put i f h L).put i f' h' L' = M.put i f' h' L' := by
  unfold Mt.put
  simp [List.set_set]

theorem getD_set_self {α : Type} {l : List α} {i : Nat} {v d : α} (h : i < l.length) : (l.set i v).getD i d = v := by
  simp [List.getD, h]

/-- Of a task that is with an operation: let go on, it ends it. -/
theorem while_does {g : Rn → Rn} (hg : Same g) : ∀ {n : Nat} {s s' : Rn}, Does g n s s' → ∀ {M : Mt} {i m : Nat}, i < M.fs.length → M.hold.length = M.fs.length → s.fresh = M.run i s.f → M.fs.getD i Fr.zero = s.f → s.f.op ≠ 0 → n ≤ m →
    whileA g i m M = M.put i Fr.zero (behindA s'.f.op s'.f.ret (M.hold.getD i 0)) s'.L := by
  intro n s s' h
  induction h with
  | @last s s' hf hs ho =>
    intro M i m hi hh hr hM hop hm
    obtain ⟨m, rfl⟩ : ∃ j, m = j + 1 := ⟨m - 1, by omega⟩
    have hst := goes_of (h := M.hold.getD i 0) (step_of_fresh hr hs)
    rw [if_neg (by rw [free_stuck hf]; decide), if_pos ho] at hst
    unfold whileA
    rw [hM, if_neg hop]
    have hp : M.play g i 0 = M.put i Fr.zero (behindA s'.f.op s'.f.ret (M.hold.getD i 0)) s'.L := by
      unfold Mt.play
      rw [hM, if_neg hop, hst]
    rw [hp]
    cases m with
    | zero => rfl
    | succ m =>
      unfold whileA
      rw [if_pos]
      show ((M.fs.set i Fr.zero).getD i Fr.zero).op = 0
      rw [getD_set_self hi]
      rfl
  | @more n s s1 s' hf hs ho hop1 hd ih =>
    intro M i m hi hh hr hM hop hm
    obtain ⟨m, rfl⟩ : ∃ j, m = j + 1 := ⟨m - 1, by omega⟩
    have hst := goes_of (h := M.hold.getD i 0) (step_of_fresh hr hs)
    rw [if_neg (by rw [free_stuck hf]; decide), if_neg (by rw [ho]; decide)] at hst
    unfold whileA
    rw [hM, if_neg hop]
    have hp : M.play g i 0 = M.put i s1.f (M.hold.getD i 0) s1.L := by
      unfold Mt.play
      rw [hM, if_neg hop, hst]
    rw [hp]
    have hsm := hg s
    rw [hs] at hsm
    have hn : s.n = M.n ∧ s.mode = M.mode ∧ s.task = i := ⟨congrArg Rn.n hr, congrArg Rn.mode hr, congrArg Rn.task hr⟩
    have := ih (M := M.put i s1.f (M.hold.getD i 0) s1.L) (i := i) (m := m) (by simp [Mt.put]; exact hi) (by simp [Mt.put]; exact hh)
      (run_fresh (hsm.1.trans hn.1) (hsm.2.1.trans hn.2.1) (hsm.2.2.trans hn.2.2) rfl rfl) (getD_set_self hi) hop1 (by omega)
    rw [this, put_put]
    congr 2
    exact getD_set_self (by rw [hh]; exact hi)

/-- AN OPERATION, WHOLE. -/
theorem whole_does {g : Rn → Rn} (hg : Same g) {n : Nat} {s s' : Rn} (hd : Does g n s s') {M : Mt} {i : Nat} {op : Int} (hi : i < M.fs.length) (hh : M.hold.length = M.fs.length) (hM : M.fs.getD i Fr.zero = Fr.zero) (hmay : mayB op (M.hold.getD i 0) = true)
    (hr : s.fresh = M.run i (frOp op)) (hn : n ≤ 201) : wholeA g M i op = M.put i Fr.zero (behindA s'.f.op s'.f.ret (fromA op (M.hold.getD i 0))) s'.L := by
  have hsf : s.f = frOp op := congrArg Rn.f hr
  have hplay : M.play g i op = M.goes g i (frOp op) (fromA op (M.hold.getD i 0)) := by
    unfold Mt.play
    rw [hM, if_pos (show Fr.zero.op = 0 from rfl), if_pos hmay]
  unfold wholeA
  rw [hplay]
  cases hd with
  | last hf hs ho =>
    have hst := goes_of (h := fromA op (M.hold.getD i 0)) (step_of_fresh hr hs)
    rw [← hsf, if_neg (by rw [free_stuck hf]; decide), if_pos ho, hsf] at hst
    rw [hst]
    show whileA g i (199 + 1) _ = _
    unfold whileA
    rw [if_pos]
    show ((M.fs.set i Fr.zero).getD i Fr.zero).op = 0
    rw [getD_set_self hi]
    rfl
  | @more n _ s1 _ hf hs ho hop1 hd2 =>
    have hst := goes_of (h := fromA op (M.hold.getD i 0)) (step_of_fresh hr hs)
    rw [← hsf, if_neg (by rw [free_stuck hf]; decide), if_neg (by rw [ho]; decide), hsf] at hst
    rw [hst]
    have hsm := hg s
    rw [hs] at hsm
    have hn1 : s.n = M.n ∧ s.mode = M.mode ∧ s.task = i := ⟨congrArg Rn.n hr, congrArg Rn.mode hr, congrArg Rn.task hr⟩
    have := while_does hg hd2 (M := M.put i s1.f (fromA op (M.hold.getD i 0)) s1.L) (i := i) (m := 200) (by simp [Mt.put]; exact hi) (by simp [Mt.put]; exact hh)
      (run_fresh (hsm.1.trans hn1.1) (hsm.2.1.trans hn1.2.1) (hsm.2.2.trans hn1.2.2) rfl rfl) (getD_set_self hi) hop1 (by omega)
    rw [this, put_put]
    congr 2
    exact getD_set_self (by rw [hh]; exact hi)

/-- An operation of a task, from its beginning. -/
def startT (n mode : Int) (t : Nat) (op : Int) (L : List Int) : Rn := ⟨n, mode, t, frOp op, Acc.zero, [], L⟩

/-- Tasks that are idle. -/
structure Idle (M : Mt) (k : Nat) (d : Int) (f : Nat → Int) (L : List Int) : Prop where
  n : M.n = k
  mode : M.mode = d
  fs : M.fs = List.replicate k Fr.zero
  hold : M.hold = (List.range k).map f
  words : M.L = L

theorem range_set (k : Nat) (f : Nat → Int) (i : Nat) (v : Int) : ((List.range k).map f).set i v = (List.range k).map (fun x => if x = i then v else f x) := by
  refine List.ext_getElem? fun j => ?_
  rw [List.getElem?_set]
  by_cases hj : j < k
  · by_cases hij : i = j
    · subst hij
      simp [hj]
    · simp [hj, hij, Ne.symm hij]
  · by_cases hij : i = j
    · subst hij
      simp [hj]
    · simp [hj, hij]
theorem range_get {k : Nat} {f : Nat → Int} {i : Nat} (h : i < k) : ((List.range k).map f).getD i 0 = f i := by
  simp [List.getD, h]
theorem range_count (f : Nat → Int) (what : Int) (j : Nat) : ∀ k, (∀ i, i < k → (f i = what ↔ i < j)) → ((List.range k).map f).countP (· == what) = min j k := by
  intro k
  induction k with
  | zero => intro _; simp
  | succ k ih =>
    intro h
    rw [List.range_succ, List.map_append, List.countP_append, ih (fun i hi => h i (by omega))]
    have hk := h k (by omega)
    by_cases h1 : k < j
    · simp [hk.2 h1]; omega
    · have : ¬ f k = what := fun e => h1 (hk.1 e)
      simp [this]; omega

theorem Idle.whole {g : Rn → Rn} (hg : Same g) {M : Mt} {k : Nat} {d : Int} {f : Nat → Int} {L : List Int} (h : Idle M k d f L) {i : Nat} (hi : i < k) {op : Int} (hmay : mayB op (f i) = true) {n : Nat} {s' : Rn} (hn : n ≤ 201) (hd : Does g n (startT k d i op L) s') :
    Idle (wholeA g M i op) k d (fun x => if x = i then behindA s'.f.op s'.f.ret (fromA op (f i)) else f x) s'.L := by
  have hlen : M.fs.length = k := by rw [h.fs]; simp
  have hhl : M.hold.length = M.fs.length := by rw [h.hold, h.fs]; simp
  have hget : M.hold.getD i 0 = f i := by rw [h.hold]; exact range_get hi
  have hz : M.fs.getD i Fr.zero = Fr.zero := by rw [h.fs]; simp [List.getD, hi]
  have := whole_does hg hd (M := M) (i := i) (op := op) (by omega) hhl hz (by rw [hget]; exact hmay) (run_fresh h.n.symm h.mode.symm rfl rfl h.words.symm) hn
  rw [this, hget]
  refine ⟨h.n, h.mode, ?_, ?_, rfl⟩
  · show M.fs.set i Fr.zero = _
    rw [h.fs]
    refine List.ext_getElem? fun j => ?_
    rw [List.getElem?_set]
    split
    · rename_i hij
      subst hij
      simp [hi]
    · rfl
  · show M.hold.set i _ = _
    rw [h.hold, range_set]

/-- What is asked of a lock: of words at which so many read. -/
structure Together (g : Rn → Rn) (k : Nat) (d op : Int) (P : Nat → List Int → Prop) : Prop where
  same : Same g
  read : ∀ i j L, i < k → j + 1 < k → P j L → ∃ n s', n ≤ 201 ∧ Does g n (startT k d i op L) s' ∧ s'.f.ret = 2 ∧ (s'.f.op = 1 ∨ s'.f.op = 5) ∧ P (j + 1) s'.L
  refused : ∀ i j L, i < k → j + 1 < k → P (j + 1) L → ∃ n s', n ≤ 201 ∧ Does g n (startT k d i 6 L) s' ∧ s'.f.ret ≠ 2 ∧ P (j + 1) s'.L
  give : ∀ i j L, i < k → j + 1 < k → P (j + 1) L → ∃ n s', n ≤ 201 ∧ Does g n (startT k d i 2 L) s' ∧ s'.f.op = 2 ∧ P j s'.L
  take : ∀ i L, i < k → P 0 L → ∃ n s', n ≤ 201 ∧ Does g n (startT k d i 6 L) s' ∧ s'.f.ret = 2 ∧ s'.f.op = 6

theorem together_ok {g : Rn → Rn} {k : Nat} {d op : Int} {P : Nat → List Int → Prop} (hop : op = 1 ∨ op = 5) (T : Together g k d op P) {Z : List Int} (hZ : P 0 Z) (hk : 2 ≤ k) : TogetherOk g k op (Mt.start k d Z) := by
  have h0 : Idle (Mt.start k d Z) k d (fun _ => 0) Z := ⟨rfl, rfl, rfl, by simp [Mt.start, List.map_const'], rfl⟩
  have hmay : mayB op 0 = true := by rcases hop with rfl | rfl <;> decide
  have hR : ∀ j, j ≤ k - 1 → ∃ L, P j L ∧ Idle (readsA g op (Mt.start k d Z) j) k d (fun i => if i < j then 1 else 0) L := by
    intro j
    induction j with
    | zero => intro _; exact ⟨Z, hZ, by show Idle (Mt.start k d Z) _ _ _ _; simpa using h0⟩
    | succ j ih =>
      intro hj
      obtain ⟨L, hP, hI⟩ := ih (by omega)
      obtain ⟨n, s', hn, hd, hr, ho, hP'⟩ := T.read j j L (by omega) (by omega) hP
      refine ⟨s'.L, hP', ?_⟩
      have := hI.whole T.same (i := j) (by omega) (op := op) (by simpa using hmay) hn hd
      have e : (fun x => if x = j then behindA s'.f.op s'.f.ret (fromA op (if j < j then 1 else 0)) else if x < j then (1 : Int) else 0) = fun i => if i < j + 1 then 1 else 0 := by
        funext x
        by_cases h1 : x = j
        · subst h1
          have : behindA s'.f.op 2 (fromA op (if x < x then 1 else 0)) = 1 := by
            unfold behindA
            rcases ho with ho | ho <;> simp [ho]
          rw [if_pos rfl, hr, this, if_pos (Nat.lt_succ_self _)]
        · by_cases h2 : x < j
          · simp [h1, h2, Nat.lt_succ_of_lt h2]
          · have : ¬ x < j + 1 := by omega
            simp [h1, h2, this]
      rw [e] at this
      exact this
  have hG : ∀ j, j ≤ k - 1 → ∃ L, P (k - 1 - j) L ∧ Idle (givesA g k (readsA g op (Mt.start k d Z) (k - 1)) j) k d (fun i => if i < k - 1 then (if i < j then 0 else 1) else 0) L ∧
      (j < k - 1 → (wholeA g (givesA g k (readsA g op (Mt.start k d Z) (k - 1)) j) (k - 1) 6).hold.getD (k - 1) 0 = 0) := by
    have hno : ∀ j M L, j < k - 1 → P (k - 1 - j) L → Idle M k d (fun i => if i < k - 1 then (if i < j then 0 else 1) else 0) L →
        ∃ L', P (k - 1 - j) L' ∧ Idle (wholeA g M (k - 1) 6) k d (fun i => if i < k - 1 then (if i < j then 0 else 1) else 0) L' := by
      intro j M L hj hP hI
      obtain ⟨c, hc⟩ : ∃ c, k - 1 - j = c + 1 := ⟨k - 1 - j - 1, by omega⟩
      rw [hc] at hP ⊢
      obtain ⟨n, s', hn, hd, hr, hP'⟩ := T.refused (k - 1) c L (by omega) (by omega) hP
      refine ⟨s'.L, hP', ?_⟩
      have := hI.whole T.same (i := k - 1) (by omega) (op := 6) (by simp; decide) hn hd
      have e : (fun x => if x = k - 1 then behindA s'.f.op s'.f.ret (fromA 6 (if k - 1 < k - 1 then (if k - 1 < j then 0 else 1) else 0)) else if x < k - 1 then (if x < j then (0 : Int) else 1) else 0) = fun i => if i < k - 1 then (if i < j then 0 else 1) else 0 := by
        funext x
        by_cases h1 : x = k - 1
        · subst h1
          have : ∀ h, behindA s'.f.op s'.f.ret (fromA 6 h) = h := by
            intro h
            unfold behindA
            rw [if_pos hr]
            rfl
          rw [if_pos rfl, this]
        · simp [h1]
      rw [e] at this
      exact this
    intro j
    induction j with
    | zero =>
      intro _
      obtain ⟨L, hP, hI⟩ := hR (k - 1) (by omega)
      have hI' : Idle (givesA g k (readsA g op (Mt.start k d Z) (k - 1)) 0) k d (fun i => if i < k - 1 then (if i < 0 then 0 else 1) else 0) L := by
        have e : (fun i : Nat => if i < k - 1 then (if i < 0 then (0 : Int) else 1) else 0) = fun i => if i < k - 1 then 1 else 0 := by funext i; simp
        rw [e]
        exact hI
      refine ⟨L, hP, hI', fun hj => ?_⟩
      obtain ⟨L', _, h2⟩ := hno 0 _ L hj (by simpa using hP) hI'
      rw [h2.hold, range_get (by omega)]
      simp
    | succ j ih =>
      intro hj
      obtain ⟨L, hP, hI, _⟩ := ih (by omega)
      obtain ⟨L1, hP1, hI1⟩ := hno j _ L (by omega) hP hI
      obtain ⟨c, hc⟩ : ∃ c, k - 1 - j = c + 1 := ⟨k - 1 - j - 1, by omega⟩
      rw [hc] at hP1
      obtain ⟨n, s', hn, hd, ho, hP'⟩ := T.give j c L1 (by omega) (by omega) hP1
      have h3 := hI1.whole T.same (i := j) (by omega) (op := 2) (by rw [if_pos (by omega)]; simp; decide) hn hd
      have e : (fun x => if x = j then behindA s'.f.op s'.f.ret (fromA 2 (if j < k - 1 then (if j < j then 0 else 1) else 0)) else if x < k - 1 then (if x < j then (0 : Int) else 1) else 0) = fun i => if i < k - 1 then (if i < j + 1 then 0 else 1) else 0 := by
        funext x
        by_cases h1 : x = j
        · subst h1
          have : ∀ h, behindA s'.f.op s'.f.ret (fromA 2 h) = 0 := by
            intro h
            unfold behindA fromA
            rw [ho]
            split <;> simp
          rw [if_pos rfl, this, if_pos (by omega), if_pos (by omega)]
        · by_cases h2 : x < k - 1
          · by_cases h4 : x < j
            · simp [h1, h2, h4, Nat.lt_succ_of_lt h4]
            · have : ¬ x < j + 1 := by omega
              simp [h1, h2, h4, this]
          · simp [h1, h2]
      rw [e] at h3
      refine ⟨s'.L, by rw [show k - 1 - (j + 1) = c from by omega]; exact hP', h3, fun hj2 => ?_⟩
      obtain ⟨L', _, h2⟩ := hno (j + 1) _ s'.L hj2 (by rw [show k - 1 - (j + 1) = c from by omega]; exact hP') h3
      rw [show givesA g k (readsA g op (Mt.start k d Z) (k - 1)) (j + 1) = wholeA g (wholeA g (givesA g k (readsA g op (Mt.start k d Z) (k - 1)) j) (k - 1) 6) j 2 from rfl, h2.hold, range_get (by omega)]
      simp
  refine ⟨fun j hj => ?_, fun j hj => (hG j (by omega)).choose_spec.2.2 hj, ?_⟩
  · obtain ⟨L, _, hI⟩ := hR (j + 1) (by omega)
    unfold Mt.many
    rw [hI.hold, range_count _ 1 (j + 1) k (fun i hi => by by_cases h : i < j + 1 <;> simp [h])]
    omega
  · obtain ⟨L, hP, hI, _⟩ := hG (k - 1) (Nat.le_refl _)
    rw [Nat.sub_self] at hP
    obtain ⟨n, s', hn, hd, hr, ho⟩ := T.take (k - 1) L (by omega) hP
    have h3 := hI.whole T.same (i := k - 1) (by omega) (op := 6) (by simp; decide) hn hd
    have hb : ∀ h, behindA s'.f.op s'.f.ret h = 2 := by
      intro h
      unfold behindA
      rw [ho, hr]
      simp
    refine ⟨?_, ?_⟩
    · rw [h3.hold, range_get (by omega), if_pos rfl, hb]
    · unfold Mt.many
      rw [h3.hold, range_count _ 1 0 k (fun i hi => ?_)]
      · omega
      · by_cases h1 : i = k - 1
        · simp [h1, hb]
        · simp [h1]
          intro h2
          omega

/-- A wake-up that finds nobody, at an operation's end. -/
theorem does_wakes (g : Rn → Rn) (c : Int) : ∀ (d : Nat) (s : Rn) (i : Int), s.f.wk = ⟨true, c, i, false⟩ → 0 ≤ i → i + d = s.n → 1 ≤ d → NoWatch s.n c s.L → s.f.ret ≠ 0 → s.f.op ≠ 0 →
    ∃ s', Does g d s s' ∧ s'.L = s.L ∧ s'.f.ret = s.f.ret ∧ s'.f.op = s.f.op := by
  intro d
  induction d with
  | zero => intro s i hw h0 h1 h2; omega
  | succ d ih =>
    intro s i hw h0 h1 _ hc hr ho
    obtain ⟨e1, e2, e3, e4, e5, e6⟩ := woke_calm hw h0 (by omega) hc
    have hst : stepR g s = s.woke := by unfold stepR; rw [hw]; rfl
    have hf : Free s := Or.inl (by rw [hw])
    by_cases hd : d = 0
    · subst hd
      rw [if_pos (by omega)] at e2
      exact ⟨s.woke, Does.last hf hst (by unfold Rn.over; rw [e2]; simpa [Wk.zero] using hr), e1, by rw [e2], by rw [e2]⟩
    · rw [if_neg (by omega)] at e2
      obtain ⟨s', k1, k2, k3, k4⟩ := ih s.woke (i + 1) (by rw [e2]) (by omega) (by rw [e4]; omega) (by omega) (by rw [e4, e1]; exact hc) (by rw [e2]; exact hr) (by rw [e2]; exact ho)
      exact ⟨s', Does.more hf hst (by unfold Rn.over; rw [e2]; simp) (by rw [e2]; exact ho) k1, k2.trans e1, by rw [k3, e2], by rw [k4, e2]⟩

theorem does_ends {g : Rn → Rn} {s s1 : Rn} (c : Int) (hf : Free s) (hs : stepR g s = s1) (hk : s1.f.wk = beginA s1.mode c) (hr : s1.f.ret ≠ 0) (ho : s1.f.op ≠ 0) (h1 : 1 ≤ s1.n) (hc : NoWatch s1.n c s1.L) :
    ∃ n s', n ≤ s1.n.toNat + 1 ∧ Does g n s s' ∧ s'.L = s1.L ∧ s'.f.ret = s1.f.ret ∧ s'.f.op = s1.f.op := by
  unfold beginA at hk
  split at hk
  · obtain ⟨s', k1, k2, k3, k4⟩ := does_wakes g c s1.n.toNat s1 0 hk (Int.le_refl _) (by omega) (by omega) hc hr ho
    exact ⟨_, s', Nat.le_refl _, Does.more hf hs (by unfold Rn.over; rw [hk]; simp) ho k1, k2, k3, k4⟩
  · exact ⟨1, s1, by omega, Does.last hf hs (by unfold Rn.over; rw [hk]; simpa [Wk.zero] using hr), rfl, rfl, rfl⟩

/-- A task's run at a line, afresh. -/
def RnT (n mode : Int) (t : Nat) (op line a b : Int) (L : List Int) : Rn := ⟨n, mode, t, ⟨op, line, a, b, 0, Wk.zero, 0⟩, Acc.zero, [], L⟩
def AtT (n mode : Int) (t : Nat) (s : Rn) (op line a b : Int) (L : List Int) : Prop := s.fresh = RnT n mode t op line a b L
theorem startT_at (n mode : Int) (t : Nat) (op : Int) (L : List Int) : AtT n mode t (startT n mode t op L) op 0 0 0 L := rfl
section
variable {n mode : Int} {t : Nat} {s : Rn} {op line a b line' a' b' : Int} {L L' : List Int} {g : Rn → Rn}
theorem AtT.wk (h : AtT n mode t s op line a b L) : s.f.wk = Wk.zero := congrArg (fun x => x.f.wk) h
theorem AtT.free (h : AtT n mode t s op line a b L) : Free s := Or.inr (congrArg (fun x => x.f.st) h)
theorem AtT.step (h : AtT n mode t s op line a b L) : stepR g s = g (RnT n mode t op line a b L) := by
  unfold stepR
  rw [h.wk]
  show g s.fresh = _
  rw [show s.fresh = _ from h]
theorem AtT.over (h : AtT n mode t s op line a b L) : s.over = false := by unfold Rn.over; rw [show s.f.ret = 0 from congrArg (fun x => x.f.ret) h]; rfl
theorem AtT.op_ (h : AtT n mode t s op line a b L) : s.f.op = op := congrArg (fun x => x.f.op) h
/-- A line, and on. -/
theorem AtT.go {q : Nat} {s' : Rn} (h : AtT n mode t s op line a b L) (h1 : AtT n mode t (g (RnT n mode t op line a b L)) op line' a' b' L') (ho : op ≠ 0) (hd : Does g q (g (RnT n mode t op line a b L)) s') : Does g (q + 1) s s' :=
  Does.more h.free h.step h1.over (by rw [h1.op_]; exact ho) hd
/-- A line that ends the operation. -/
theorem AtT.fin (h : AtT n mode t s op line a b L) (hr : (g (RnT n mode t op line a b L)).f.ret ≠ 0) (hk : (g (RnT n mode t op line a b L)).f.wk = Wk.zero) : Does g 1 s (g (RnT n mode t op line a b L)) :=
  Does.last h.free h.step (by unfold Rn.over; rw [hk]; simpa [Wk.zero] using hr)
/-- A line that ends the operation, and begins a wake-up that finds nobody. -/
theorem AtT.ends {s1 : Rn} (h : AtT n mode t s op line a b L) (c : Int) (hg : g (RnT n mode t op line a b L) = s1) (hr : s1.f.ret ≠ 0) (ho : s1.f.op ≠ 0) (hk : s1.f.wk = beginA s1.mode c) (h1 : 1 ≤ s1.n) (hc : NoWatch s1.n c s1.L) :
    ∃ q s', q ≤ s1.n.toNat + 1 ∧ Does g q s s' ∧ s'.L = s1.L ∧ s'.f.ret = s1.f.ret ∧ s'.f.op = s1.f.op := does_ends c h.free (h.step.trans hg) hk hr ho h1 hc
end

end Go.Proofs.Ytbcppehpfckgoaa.Z

/- Package pq: what a line keeps. Written by genpqfine.py. -/
set_option linter.unusedVariables false
set_option linter.unusedSimpArgs false
namespace Go.Proofs.Ytbcppehpfckgoaa.Z
open Go.RowKit


variable {s : Rn}
section
theorem pfR10_fk (hw : Words s.L) (h : (0 ≤ s.f.a ∧ s.f.a < 4294967296) ∧ (0 ≤ s.f.b ∧ s.f.b < 4294967296)) : FK 2 s (pfR10 s) := by
  have R := FK.refl h
  have hold := fun b => doA_old s.L hw b
  unfold pfR10
  dsimp only
  split
  · exact (((((R.did _).setA (hold _)).note _ _).note _ _).fin _).more (by decide)
  · exact ((((R.did _).setA (hold _)).note _ _).goto _).more (by decide)

theorem pfR11_fk (hw : Words s.L) (h : (0 ≤ s.f.a ∧ s.f.a < 4294967296) ∧ (0 ≤ s.f.b ∧ s.f.b < 4294967296)) : FK 2 s (pfR11 s) := by
  have R := FK.refl h
  have hold := fun b => doA_old s.L hw b
  unfold pfR11
  dsimp only
  split
  · split
    · exact (((R.waited _).note _ _).fin _).more (by decide)
    · exact ((R.waited _).fin _).more (by decide)
  · split
    · exact ((R.waited _).note _ _).more (by decide)
    · exact (R.waited _).more (by decide)

theorem pfR20_fk (hw : Words s.L) (h : (0 ≤ s.f.a ∧ s.f.a < 4294967296) ∧ (0 ≤ s.f.b ∧ s.f.b < 4294967296)) : FK 2 s (pfR20 s) := by
  have R := FK.refl h
  have hold := fun b => doA_old s.L hw b
  unfold pfR20
  exact ((((R.did _).note _ _).wake _).fin _).more (by decide)

theorem pfR50_fk (hw : Words s.L) (h : (0 ≤ s.f.a ∧ s.f.a < 4294967296) ∧ (0 ≤ s.f.b ∧ s.f.b < 4294967296)) : FK 2 s (pfR50 s) := by
  have R := FK.refl h
  have hold := fun b => doA_old s.L hw b
  unfold pfR50
  dsimp only
  split
  · exact (((R.did _).setA (hold _)).goto _).more (by decide)
  · exact ((((R.did _).setA (hold _)).note _ _).fin _).more (by decide)

theorem pfR51_fk (hw : Words s.L) (h : (0 ≤ s.f.a ∧ s.f.a < 4294967296) ∧ (0 ≤ s.f.b ∧ s.f.b < 4294967296)) : FK 2 s (pfR51 s) := by
  have R := FK.refl h
  have hold := fun b => doA_old s.L hw b
  unfold pfR51
  split
  · exact ((((R.did _).note _ _).note _ _).fin _).more (by decide)
  · exact ((R.did _).goto _).more (by decide)

theorem pqEnter_fk (hw : Words s.L) (h : (0 ≤ s.f.a ∧ s.f.a < 4294967296) ∧ (0 ≤ s.f.b ∧ s.f.b < 4294967296)) : FK 2 s (pqEnter s) := by
  have R := FK.refl h
  have hold := fun b => doA_old s.L hw b
  have Q := mxEnter_fk (s := s) 2 2 hw h
  unfold pqEnter
  split
  · exact (Q.goto _).more (by decide)
  · exact (Q).more (by decide)

theorem pqGive_fk (q : Int) (ok : Bool) (hw : Words s.L) (h : (0 ≤ s.f.a ∧ s.f.a < 4294967296) ∧ (0 ≤ s.f.b ∧ s.f.b < 4294967296)) : FK 2 s (pqGive q ok s) := by
  have R := FK.refl h
  have hold := fun b => doA_old s.L hw b
  have Q := mxGive_fk (s := s) 2 q [8] hw h
  unfold pqGive
  split
  · exact (Q.fin _).more (by decide)
  · exact (Q).more (by decide)

theorem pqTry_fk (hw : Words s.L) (h : (0 ≤ s.f.a ∧ s.f.a < 4294967296) ∧ (0 ≤ s.f.b ∧ s.f.b < 4294967296)) : FK 2 s (pqTry s) := by
  have R := FK.refl h
  have hold := fun b => doA_old s.L hw b
  have Q := mxTry_fk (s := s) 2 h
  unfold pqTry
  split
  · split
    · exact ((Q.note _ _).goto _).more (by decide)
    · exact ((Q.note _ _).fin _).more (by decide)
  · exact (Q).more (by decide)

theorem pqLock_fk (hw : Words s.L) (h : (0 ≤ s.f.a ∧ s.f.a < 4294967296) ∧ (0 ≤ s.f.b ∧ s.f.b < 4294967296)) : FK 2 s (pqLock s) := by
  have R := FK.refl h
  have hold := fun b => doA_old s.L hw b
  unfold pqLock
  split
  · exact (((R.did _).setB (hold _)).goto _).more (by decide)
  split
  · exact ((((R.did _).setA (hold _)).note _ _).goto _).more (by decide)
  split
  · dsimp only
    split
    · split
      · exact (((R.waited _).note _ _).fin _).more (by decide)
      · exact ((R.waited _).fin _).more (by decide)
    · split
      · exact ((R.waited _).note _ _).more (by decide)
      · exact (R.waited _).more (by decide)
  · exact pqEnter_fk hw h

theorem pqLeave_fk (hw : Words s.L) (h : (0 ≤ s.f.a ∧ s.f.a < 4294967296) ∧ (0 ≤ s.f.b ∧ s.f.b < 4294967296)) : FK 2 s (pqLeave s) := by
  have R := FK.refl h
  have hold := fun b => doA_old s.L hw b
  unfold pqLeave
  split
  · exact (((R.did _).setB (hold _)).goto _).more (by decide)
  split
  · exact (((R.did _).setB (hold _)).goto _).more (by decide)
  split
  · exact ((((R.did _).note _ _).wake _).goto _).more (by decide)
  split
  · exact ((((R.did _).note _ _).wake _).goto _).more (by decide)
  split
  · exact ((R.did _).goto _).more (by decide)
  split
  · exact ((R.did _).goto _).more (by decide)
  · exact pqGive_fk _ _ hw h

theorem pqIn6_fk (hw : Words s.L) (h : (0 ≤ s.f.a ∧ s.f.a < 4294967296) ∧ (0 ≤ s.f.b ∧ s.f.b < 4294967296)) : FK 2 s (pqIn6 s) := by
  have R := FK.refl h
  have hold := fun b => doA_old s.L hw b
  unfold pqIn6
  dsimp only
  split
  · exact ((((R.did _).setB (hold _)).note _ _).goto _).more (by decide)
  · exact (((R.did _).setB (hold _)).goto _).more (by decide)

theorem pqLast6_fk (hw : Words s.L) (h : (0 ≤ s.f.a ∧ s.f.a < 4294967296) ∧ (0 ≤ s.f.b ∧ s.f.b < 4294967296)) : FK 2 s (pqLast6 s) := by
  have R := FK.refl h
  have hold := fun b => doA_old s.L hw b
  unfold pqLast6
  dsimp only
  split
  · split
    · exact (((R.waited _).note _ _).fin _).more (by decide)
    · exact ((R.waited _).fin _).more (by decide)
  · split
    · exact ((R.waited _).note _ _).more (by decide)
    · exact (R.waited _).more (by decide)

theorem pqIn7_fk (hw : Words s.L) (h : (0 ≤ s.f.a ∧ s.f.a < 4294967296) ∧ (0 ≤ s.f.b ∧ s.f.b < 4294967296)) : FK 2 s (pqIn7 s) := by
  have R := FK.refl h
  have hold := fun b => doA_old s.L hw b
  unfold pqIn7
  dsimp only
  split
  · exact ((((R.did _).setB (hold _)).note _ _).goto _).more (by decide)
  · exact (((R.did _).setB (hold _)).goto _).more (by decide)

theorem pqLast7_fk (hw : Words s.L) (h : (0 ≤ s.f.a ∧ s.f.a < 4294967296) ∧ (0 ≤ s.f.b ∧ s.f.b < 4294967296)) : FK 2 s (pqLast7 s) := by
  have R := FK.refl h
  have hold := fun b => doA_old s.L hw b
  unfold pqLast7
  dsimp only
  split
  · split
    · exact (((R.waited _).note _ _).goto _).more (by decide)
    · exact ((R.waited _).goto _).more (by decide)
  · split
    · exact ((R.waited _).note _ _).more (by decide)
    · exact (R.waited _).more (by decide)

theorem pqDecide_fk (hw : Words s.L) (h : (0 ≤ s.f.a ∧ s.f.a < 4294967296) ∧ (0 ≤ s.f.b ∧ s.f.b < 4294967296)) : FK 2 s (pqDecide s) := by
  have R := FK.refl h
  have hold := fun b => doA_old s.L hw b
  unfold pqDecide
  split
  · exact (((R.did _).setA (hold _)).goto _).more (by decide)
  split
  · split
    · exact pqIn7_fk hw h
    · exact pqIn6_fk hw h
  split
  · exact (((R.did _).setB (hold _)).goto _).more (by decide)
  split
  · exact ((((R.did _).setA (hold _)).note _ _).goto _).more (by decide)
  split
  · split
    · exact pqLast7_fk hw h
    · exact pqLast6_fk hw h
  split
  · split
    · exact ((R.did _).fin _).more (by decide)
    · exact (R).more (by decide)
  · exact pqGive_fk _ _ hw h

theorem pqA_fk (hw : Words s.L) (h : (0 ≤ s.f.a ∧ s.f.a < 4294967296) ∧ (0 ≤ s.f.b ∧ s.f.b < 4294967296)) : FK 2 s (pqA s) := by
  have R := FK.refl h
  have hold := fun b => doA_old s.L hw b
  unfold pqA
  split
  · exact pfR10_fk hw h
  split
  · exact pfR11_fk hw h
  split
  · exact pfR20_fk hw h
  split
  · exact pfR50_fk hw h
  split
  · exact pfR51_fk hw h
  split
  · exact pqLock_fk hw h
  split
  · exact pqLeave_fk hw h
  split
  · exact pqLeave_fk hw h
  split
  · split
    · exact pqTry_fk hw h
    · exact pqDecide_fk hw h
  split
  · split
    · exact pqTry_fk hw h
    · exact pqDecide_fk hw h
  · exact (R).more (by decide)
end
theorem pqA_fine (s : Rn) (hw : Words s.L) (h : I64 s.n ∧ (0 ≤ s.f.a ∧ s.f.a < 4294967296) ∧ (0 ≤ s.f.b ∧ s.f.b < 4294967296)) : Fine s (pqA s) := by
  have F := pqA_fk hw h.2
  exact fine_mk ⟨⟨by rw [F.1.1]; exact h.1, F.2.1⟩, by have := F.2.2; omega⟩
end Go.Proofs.Ytbcppehpfckgoaa.Z

/- Law 14: a step; an operation by itself. Written by genlaw.py. -/
set_option linter.unusedVariables false
set_option linter.unusedSimpArgs false
namespace Go.Proofs.Ytbcppehpfckgoaa.Z
open Go.RowKit

theorem pq_stepR {S0 : List Nat} {w0 w : World} {m a r : Nat} {rs : List Res} {s : Rn} (H : RunHas S0 w0 m a r rs s w) (hok : s.ok) :
    Calls Try.prog 18 #[.pointer (some ⟨r, 0, none⟩), .func (.func 64) #[] #[]] w fun e w' => e = .returned (.bool (stepR pqA s).over) ∧ RunHas S0 w0 m a r rs (stepR pqA s) w' := by
  cases hw : s.f.wk.on with
  | true =>
    have e : stepR pqA s = s.woke := by unfold stepR; rw [hw]; rfl
    rw [e]
    exact run_step_wake H hw hok.1 _
  | false =>
    have e : stepR pqA s = pqA s.fresh := by unfold stepR; rw [hw]; rfl
    rw [e]
    exact run_step_lines H hw 64 #[] #[] (enters_of Try.func64 (by kernel_rfl) rfl) (fun W HW => pq_lines HW hok.1 hok.2.1 hok.2.2 (by simp [Rn.fresh]))

theorem pq_stepok {s : Rn} (hw : Words s.L) (h : s.ok) : (stepR pqA s).ok ∧ (stepR pqA s).notes.length ≤ 10 := by
  unfold stepR
  split
  · exact ⟨woke_ok h, by simp [Rn.woke]⟩
  · have := pqA_fine s.fresh hw (fresh_ok h)
    exact ⟨this.1, by simpa [Rn.fresh] using this.2⟩

set_option maxHeartbeats 3200000 in
set_option maxRecDepth 100000 in
theorem pq_alone {S0 : List Nat} {w0 w : World} {m a : Nat} {L : List Int} {rs : List Res} (H : Has S0 w0 w (.mem m a L :: rs)) (n mode op : Int) (hn : I64 n) (most : Nat) (hm : most ≤ 2000) :
    Calls Try.prog 30 #[.pointer (some ⟨m, 0, none⟩), .int .i64 n, .int .i64 mode, .int .i64 op, .int .i64 most] w
      (AloneEnd S0 w0 m a rs (aloneA pqA most (start n mode op L))) := by
  have hnew := RunHas.fresh_ (rs := .own 112 4 (.slice none 0 0) 0 [] :: rs) (start n mode op L) (H.ownNil 112 4).swap rfl 52
  obtain ⟨i0, hi0, hz0, hz1, hz2⟩ := info_parts note_info
  have HI := Lib.hid (show _ ∧ _ ∧ _ ∧ _ from ⟨hi0, hz0, hz1, hz2⟩)
  have hok0 := start_ok hn mode op L
  generalize hR : aloneA pqA most (start n mode op L) = R
  have HN := Lib.hid hnew
  have HR := Lib.hid hR
  have HOK := Lib.hid hok0
  clear H hnew hi0 hz0 hz1 hz2 hR hok0 hn
  go_enter Try.func30, Try.ntmps30
  go_wp2_with fail
  refine wp_from (Facts := fun W => RunHas S0 w0 m a w.heap.size (.own 112 4 (.slice none 0 0) 0 [] :: rs) (start n mode op L) W) ?_ HN.out
  intro W HW
  clear HN
  generalize w.heap.size = B at HW ⊢
  have HV := Lib.hid HW
  clear HW
  go_loopw [13, 14] (fun nt i wr => ∃ (k : Nat) (s : Rn) (nn : Nat) (xs : List Value), k ≤ most ∧ i = .int .i64 k ∧ RunHas S0 w0 m a B (.own 112 4 nt nn xs :: rs) s wr ∧ s.ok ∧ nn ≤ 10 * k ∧ aloneA pqA (most - k) s = R) (fun _ i _ => most - (intOf i).toNat)
  case atStart => exact ⟨0, _, 0, [], Nat.zero_le _, rfl, HV.out, HOK.out, by simp, HR.out⟩
  case round =>
    obtain ⟨k, s, nn, xs, hk, rfl, hH, hok, hnn, hal⟩ := hrel
    clear HV HR HOK
    by_cases hlt : k < most
    · obtain ⟨q, hq⟩ : ∃ q, most - k = q + 1 := ⟨most - k - 1, by omega⟩
      rw [hq] at hal
      have hal2 : (if (stepR pqA s).over then ((stepR pqA s).f.ret, stepR pqA s) else aloneA pqA q (stepR pqA s)) = R := hal
      have hso := pq_stepok hH.words hok
      have hst := pq_stepR hH hok
      cases hov : (stepR pqA s).over with
      | true =>
        rw [hov] at hst hal2
        simp only [if_true] at hal2
        subst hal2
        generalize stepR pqA s = s2 at hst hso
        have HST := Lib.hid hst
        have HSO := Lib.hid hso
        have HNN := Lib.hid hnn
        clear hst hso hH hok hnn hal hov
        have hi : (k : Int) < (most : Int) := by omega
        go_wp2_with fail
        refine HST.out.mono ?_
        rintro e w1 ⟨rfl, nv, H3⟩
        obtain ⟨pn, cn, rfl⟩ := owns_slice H3.own3
        have c19 : w1.cell? ⟨B, 19, none⟩ = some (.slice pn s2.notes.length cn) := H3.blk1.cell 19
        go_wp2_with (at_builtin; refine wpList_append_rd (P := Try.prog) _ rfl (.tmp 31) (.tmp 35) _ rfl 0 112 i0 _ 4 32 Try.underlying32 HI.out.1 HI.out.2.1 HI.out.2.2.1 HI.out.2.2.2 rfl (by omega) _ nn xs rfl (Has.ownAt H3 3 rfl) pn s2.notes.length cn (nts s2.notes) rfl (Rd.own H3.own3) (nts_one _) (by have h1 := HSO.out.2; have h2 := HNN.out; simp only [maxLen]; omega) (by have h1 := HSO.out.2; have h2 := HNN.out; omega) (by omega) ?_; intro v' w' hown hg hat; have H4 := H3.grown4 hown hg hat; clear H3 hown hg hat c19; have c13 : w'.cell? ⟨B, 13, none⟩ = some (.int .i64 s2.f.ret) := H4.blk1.cell 13)
        go_wp2
        go_ret2
        exact ⟨_, rfl, H4.cut3⟩
      | false =>
        rw [hov] at hst hal2
        simp only [Bool.false_eq_true, if_false] at hal2
        generalize stepR pqA s = s2 at hst hso hal2
        have HST := Lib.hid hst
        have HSO := Lib.hid hso
        have HNN := Lib.hid hnn
        have HAL := Lib.hid hal2
        clear hst hso hH hok hnn hal hov hal2
        have hi : (k : Int) < (most : Int) := by omega
        go_wp2_with fail
        refine HST.out.mono ?_
        rintro e w1 ⟨rfl, nv, H3⟩
        obtain ⟨pn, cn, rfl⟩ := owns_slice H3.own3
        have c19 : w1.cell? ⟨B, 19, none⟩ = some (.slice pn s2.notes.length cn) := H3.blk1.cell 19
        go_wp2_with (at_builtin; refine wpList_append_rd (P := Try.prog) _ rfl (.tmp 31) (.tmp 35) _ rfl 0 112 i0 _ 4 32 Try.underlying32 HI.out.1 HI.out.2.1 HI.out.2.2.1 HI.out.2.2.2 rfl (by omega) _ nn xs rfl (Has.ownAt H3 3 rfl) pn s2.notes.length cn (nts s2.notes) rfl (Rd.own H3.own3) (nts_one _) (by have h1 := HSO.out.2; have h2 := HNN.out; simp only [maxLen]; omega) (by have h1 := HSO.out.2; have h2 := HNN.out; omega) (by omega) ?_; intro v' w' hown hg hat; have H4 := H3.grown4 hown hg hat; clear H3 hown hg hat c19)
        go_wp2
        go_roundw
        case rel => exact ⟨k + 1, s2, nn + s2.notes.length, xs ++ nts s2.notes, by omega, by go_num, ⟨_, H4⟩, HSO.out.1, by have h1 := HSO.out.2; have h2 := HNN.out; omega, by rw [show most - (k + 1) = q from by omega]; exact HAL.out⟩
        case measure => simp [intOf]; omega
    · have hkm : k = most := by omega
      subst hkm
      rw [Nat.sub_self] at hal
      have hal2 : ((0 : Int), s) = R := hal
      subst hal2
      have HH := Lib.hid hH
      clear hH hok hnn hal hk hlt
      have hi : (k : Int) ≤ (k : Int) := Int.le_refl _
      go_wp2_with fail
      go_ret2
      obtain ⟨nv, H4⟩ := HH.out
      exact ⟨_, rfl, H4.cut3⟩

end Go.Proofs.Ytbcppehpfckgoaa.Z

/- Law 14: the document's example. Written by genlaw.py. -/
set_option linter.unusedVariables false
set_option linter.unusedSimpArgs false
namespace Go.Proofs.Ytbcppehpfckgoaa.Z
open Go.RowKit

theorem pq_awake_pure : (aloneA pqA 7 (start 1 1 6 (own3 1 ++ List.replicate ((8 + 4 * (1 : Int)).toNat - 4) 0))).1 = 2 ∧ (ldA (aloneA pqA 7 (start 1 1 6 (own3 1 ++ List.replicate ((8 + 4 * (1 : Int)).toNat - 4) 0))).2.L 2 = 1 ∧ ldA (aloneA pqA 7 (start 1 1 6 (own3 1 ++ List.replicate ((8 + 4 * (1 : Int)).toNat - 4) 0))).2.L 0 = 259) := by
  decide +kernel

set_option maxHeartbeats 1600000 in
theorem pq_awake (w : World) : Calls Try.prog 31 #[] w fun e w' => e = .returned (.bool true) ∧ Touch [] w w' := by
  have hp := pq_awake_pure
  have hf := fun W => first3 1 1 W (by decide) (by decide)
  generalize hL : own3 1 ++ List.replicate ((8 + 4 * (1 : Int)).toNat - 4) 0 = L at hf hp
  have HF := Lib.hid hf
  clear hf hL
  go_enter Try.func31, Try.ntmps31
  go_wp2_with fail
  refine (HF.out _).mono ?_
  rintro e w1 h1
  obtain ⟨p, g, cap, rfl, H1⟩ := has_newwords (Has.start [] w) h1
  clear h1
  go_wp2_with fail
  refine (fromRow_has H1 rfl).mono ?_
  rintro e w2 ⟨m, a, rfl, H2⟩
  clear H1
  go_wp2_with fail
  refine (pq_alone H2 1 1 6 (by unfold I64; decide) 7 (by decide)).mono ?_
  rintro e w3 ⟨v, he, H3⟩
  generalize aloneA pqA 7 (start 1 1 6 L) = R at hp he H3
  obtain ⟨r1, s3⟩ := R
  obtain ⟨rfl, hp2⟩ := hp
  simp only at he H3 hp2
  subst he
  clear H2
  have hld := fun (c : Int) W (H : Has [] w W (.mem m a s3.L :: .row p g cap L :: [])) => load_has H c
  have hl0 := hld 2
  have hl1 := hld 0
  rw [hp2.1] at hl0
  rw [hp2.2] at hl1
  have HL0 := Lib.hid hl0
  have HL1 := Lib.hid hl1
  clear hld hl0 hl1 hp2
  go_wp2_with fail
  refine (HL0.out _ H3).mono ?_
  rintro e w4 ⟨rfl, G4⟩
  go_wp2_with fail
  refine (HL1.out _ G4).mono ?_
  rintro e w5 ⟨rfl, H4⟩
  go_wp2_with fail
  go_ret
  exact ⟨by simp, H4.touch⟩

end Go.Proofs.Ytbcppehpfckgoaa.Z

/- Law 14: how many hold something; how a match begins. Written by genmat.py. -/
set_option linter.unusedVariables false
set_option linter.unusedSimpArgs false
namespace Go.Proofs.Ytbcppehpfckgoaa.Z
open Go.RowKit

set_option maxHeartbeats 1600000 in
theorem pq_many {S0 : List Nat} {w0 w : World} {m a x hb : Nat} {rs : List Res} {M : Mt} (H : MatchHas S0 w0 m a x hb rs M w) (what : Int) :
    Calls Try.prog 34 #[.pointer (some ⟨x, 0, none⟩), .int .i64 what] w fun e w' => e = .returned (.int .i64 (M.many what)) ∧ w = w' := by
  obtain ⟨hf1, hf2, hf3, hf4⟩ := H.fit
  obtain ⟨x0, x1, x2, x3⟩ := H.held
  generalize hk : M.fs.length = k at hf1 hf4 x1 x3
  have HX3 := Lib.hid x3
  have HL := Lib.hid hf1
  have HK := Lib.hid hf4
  clear hf1 hf2 hf3 hf4 x3 hk H
  go_enter Try.func34, Try.ntmps34
  go_wp2_with fail
  go_loopw [5, 6] (fun c i wr => wr = w ∧ ∃ j : Nat, j ≤ k ∧ i = .int .i64 j ∧ c = .int .i64 ((M.hold.take j).countP (· == what) : Nat)) (fun _ i _ => k - (intOf i).toNat)
  case atStart => exact ⟨rfl, 0, Nat.zero_le _, rfl, by simp⟩
  case round =>
    obtain ⟨rfl, j, hj, rfl, rfl⟩ := hrel
    by_cases hjk : j < k
    · have hc := HX3.out j hjk
      have hcs := count_snoc M.hold what j (by rw [HL.out]; exact hjk)
      have hcl : (M.hold.take j).countP (· == what) ≤ k := Nat.le_trans List.countP_le_length (by rw [List.length_take]; omega)
      have hk64 := HK.out
      generalize (M.hold.take j).countP (· == what) = cnt at hcs hcl ⊢
      generalize M.hold.getD j 0 = v at hc hcs
      have HCS := Lib.hid hcs
      have hi1 : (0 : Int) ≤ (j : Int) := Int.natCast_nonneg _
      have hi2 : (j : Int) < (k : Int) := by omega
      clear hcs
      by_cases hv : v = what
      · subst hv
        go_wp2
        go_roundw
        case rel => exact ⟨trivial, j + 1, by omega, by go_num, by rw [HCS.out, if_pos rfl]; go_num⟩
        case measure => simp [intOf]; omega
      · have hv2 : (v == what) = false := by simpa using hv
        have HV := Lib.hid hv
        clear hv
        go_wp2
        go_roundw
        case rel => exact ⟨trivial, j + 1, by omega, by go_num, by rw [HCS.out, if_neg HV.out, Nat.add_zero]⟩
        case measure => simp [intOf]; omega
    · have hjk2 : j = k := by omega
      subst hjk2
      have e : (M.hold.take j).countP (· == what) = M.many what := by unfold Mt.many; rw [← HL.out, List.take_length]
      rw [e]
      clear HX3 HL e
      have hi2 : (j : Int) ≤ (j : Int) := Int.le_refl _
      go_wp2
      go_ret
      exact ⟨rfl, rfl⟩

theorem ptr_info : (Try.prog.info? 46).map (fun i => (i.zero, i.size, i.bytes)) = some (some (.pointer none), 1, 8) := by kernel_rfl
theorem int_info : (Try.prog.info? 3).map (fun i => (i.zero, i.size, i.bytes)) = some (some (.int .i64 0), 1, 8) := by kernel_rfl

def PqBegun (S0 : List Nat) (w0 : World) (k : Nat) (mode : Int) (Z : List Int) (rs : List Res) (e : Ending) (w' : World) : Prop :=
  ∃ x m a hb p g cap, e = .returned (.pointer (some ⟨x, 0, none⟩)) ∧ MatchHas S0 w0 m a x hb (.row p g cap Z :: rs) (Mt.start k mode Z) w'

set_option maxHeartbeats 3200000 in
set_option maxRecDepth 100000 in
theorem pq_begun {S0 : List Nat} {w0 w : World} {rs : List Res} (H : Has S0 w0 w rs) (k : Nat) (h1 : 1 ≤ k) (h2 : k ≤ 64) (mode base : Int) (hb : 0 ≤ base ∧ base < 4294967296) :
    Calls Try.prog 32 #[.int .i64 k, .int .i64 mode, .int .u32 base] w (PqBegun S0 w0 k mode (own3 base ++ List.replicate ((8 + 4 * (k : Int)).toNat - 4) 0) rs) := by
  have hf := fun W => first3 k base W ⟨by omega, by omega⟩ hb
  generalize own3 base ++ List.replicate ((8 + 4 * (k : Int)).toNat - 4) 0 = Z at hf
  obtain ⟨i0, hi0, hz0, hz1, hz2⟩ := info_parts ptr_info
  have HI := Lib.hid (show _ ∧ _ ∧ _ ∧ _ from ⟨hi0, hz0, hz1, hz2⟩)
  clear hi0 hz0 hz1 hz2
  obtain ⟨j0, hj0, hy0, hy1, hy2⟩ := info_parts int_info
  have HJ := Lib.hid (show _ ∧ _ ∧ _ ∧ _ from ⟨hj0, hy0, hy1, hy2⟩)
  clear hj0 hy0 hy1 hy2
  have HF := Lib.hid hf
  have HH := Lib.hid H
  clear hf H
  go_enter Try.func32, Try.ntmps32
  go_wp2_with fail
  refine (HF.out _).mono ?_
  rintro e w1 g1
  obtain ⟨p, g, cap, rfl, H1⟩ := has_newwords HH.out g1
  clear g1
  go_wp2_with fail
  refine (fromRow_has H1 rfl).mono ?_
  rintro e w2 ⟨m, a, rfl, H2⟩
  clear H1
  have HS2 := Lib.hid H2
  clear H2
  go_wp2_with (at_make; refine wpList_make_full _ rfl _ _ 23 rfl 0 3 j0 _ 1 Try.underlying23 HJ.out.1 HJ.out.2.1 HJ.out.2.2.1 _ _ _ _ k rfl rfl rfl rfl (by rw [HJ.out.2.2.2]; omega) (by unfold maxLen; omega) (Nat.zero_le _) ?_; intro w4 hown hg)
  have hB := own_full hown
  rw [Nat.mul_one, show (madeCells (Value.int IntKind.i64 0).cells k).toList = List.replicate k (Value.int .i64 0) from toList_madeCells_one _ k] at hB
  have hz : (List.replicate k (Value.int .i64 0)).toArray = (i64s (List.replicate k 0)).toArray := by simp [i64s]
  rw [hz] at hB
  have H3 := HS2.out.came (.blk w2.heap.size (i64s (List.replicate k 0)).toArray) ((Touch.refl [] w2).grown hg (by simp)) (by simp) hB (by intro b hb; simp [Res.foot] at hb; omega)
  have H4 := (H3.new rfl #[.slice none 0 0, .slice (some ⟨w2.heap.size, 0, none⟩) k k] 81).ownNil 46 1
  have H5 := (((H4.front 2 (by simp)).front 1 (by simp)).front 2 (by simp)).front 3 (by simp)
  have HB0 : BegunHas S0 w0 m a w4.heap.size w2.heap.size k k mode Z (.row p g cap Z :: rs) 0 (w4.alloc (.cells #[.slice none 0 0, .slice (some ⟨w2.heap.size, 0, none⟩) k k] 81)) :=
    ⟨.slice none 0 0, [], rfl, by simp, H5⟩
  clear hown hg hB hz H3 H4 H5 HS2
  refine wp_from (Facts := fun W => BegunHas S0 w0 m a w4.heap.size w2.heap.size k k mode Z (.row p g cap Z :: rs) 0 W) ?_ HB0
  clear HB0
  intro W HW
  generalize w4.heap.size = X at HW ⊢
  generalize w2.heap.size = B at HW ⊢
  have HV := Lib.hid HW
  clear HW
  go_loopw [12] (fun i wr => ∃ j : Nat, j ≤ k ∧ i = .int .i64 j ∧ BegunHas S0 w0 m a X B k k mode Z (.row p g cap Z :: rs) j wr) (fun i _ => k - (intOf i).toNat)
  case atStart => exact ⟨0, Nat.zero_le _, rfl, HV.out⟩
  case round =>
    obtain ⟨j, hj, rfl, hR⟩ := hrel
    clear HV
    by_cases hjk : j < k
    · obtain ⟨lv, ts, hl, hts, hH⟩ := hR
      obtain ⟨x0, x1, x2⟩ := hH.blk1.own
      have HL := Lib.hid hl
      have HTS := Lib.hid hts
      have HR := Lib.hid hH
      have hi1 : (0 : Int) ≤ (j : Int) := Int.natCast_nonneg _
      have hi2 : (j : Int) < (k : Int) := by omega
      clear hl hts hH
      go_wp2_with (at_builtin; refine wpList_from (Facts := fun W => Has S0 w0 W (.blk (wr.heap.size + 1) #[.pointer (some ⟨wr.heap.size, 0, none⟩)] :: .blk wr.heap.size (rcells m ⟨k, mode, j, Fr.zero, Acc.zero, [], Z⟩ (.slice none 0 0)) :: .mem m a Z :: .blk X #[lv, .slice (some ⟨B, 0, none⟩) k k] :: .own 46 1 lv j (ts.map Tk.ptr) :: .blk B (i64s (List.replicate k 0)).toArray :: (tksRes m ts ++ .row p g cap Z :: rs))) ?_ ((HR.out.new rfl _ _).new (by simp) _ _); intro W HW; refine wpList_append_rd (P := Try.prog) _ rfl (.tmp 43) (.tmp 51) _ rfl 0 46 i0 _ 1 8 Try.underlying71 HI.out.1 HI.out.2.1 HI.out.2.2.1 HI.out.2.2.2 rfl (by omega) lv j (ts.map Tk.ptr) rfl (Has.ownAt HW 4 rfl) (some ⟨wr.heap.size + 1, 0, none⟩) 1 1 [.pointer (some ⟨wr.heap.size, 0, none⟩)] rfl (rd_cells (HW.at_ 0 rfl)) (by simp [Value.oneCell']) (by simp only [maxLen]; omega) (by omega) (by omega) ?_; intro v' w' hown hg hat; obtain ⟨p', c', rfl⟩ := owns_slice hown; have HB := begun_more HL.out HTS.out HW hown hg hat; have HG := Has.grown1 4 (by simp) HW rfl hown hg hat; clear x0 x1 x2; obtain ⟨y0, y1, y2⟩ := (HG.at_ 4 rfl).own; clear HG hown hg hat HW)
      go_roundw
      case rel => exact ⟨j + 1, by omega, by go_num, HB⟩
      case measure => simp [intOf]; omega
    · have hjk2 : j = k := by omega
      subst hjk2
      have HR := Lib.hid hR
      clear hR
      have hi2 : (j : Int) ≤ (j : Int) := Int.le_refl _
      go_wp2
      go_ret
      exact ⟨X, m, a, B, p, g, cap, rfl, begun_done h2 HR.out⟩

end Go.Proofs.Ytbcppehpfckgoaa.Z

/- Package pq: a line leaves whose run it is. Written by genpqfine.py. -/
set_option linter.unusedVariables false
set_option linter.unusedSimpArgs false
namespace Go.Proofs.Ytbcppehpfckgoaa.Z
open Go.RowKit

def SK (k : Nat) (s s' : Rn) : Prop := s'.n = s.n ∧ s'.mode = s.mode ∧ s'.task = s.task
section
variable {k : Nat} {s s' : Rn}
theorem SK.refl (h : True) : SK 0 s s := ⟨rfl, rfl, rfl⟩
theorem SK.goto (h : SK k s s') (l : Int) : SK k s (s'.goto l) := h
theorem SK.fin (h : SK k s s') (b : Bool) : SK k s (s'.fin b) := h
theorem SK.wake (h : SK k s s') (c : Int) : SK k s (s'.wake c) := h
theorem SK.did (h : SK k s s') (R : Acc × Bool × List Int) : SK k s (s'.did R) := h
theorem SK.waited (h : SK k s s') (R : WaitR) : SK k s (s'.waited R) := h
theorem SK.setA (h : SK k s s') {v : Int} (hv : True) : SK k s (s'.setA v) := h
theorem SK.setB (h : SK k s s') {v : Int} (hv : True) : SK k s (s'.setB v) := h
theorem SK.note (h : SK k s s') (x y : Int) : SK (k + 1) s (s'.note x y) := h
theorem SK.more (h : SK k s s') {j : Nat} (hj : k ≤ j) : SK j s s' := h
theorem SK.noted (h : SK k s s') (l : List Int) : SK (k + l.length) s (s'.noted l) := by
  induction l generalizing s' k with
  | nil => exact h
  | cons x l ih => exact ih (h.note x 0)
theorem SK.keep (h : SK k s s') (hw : True) (n mode task st c : Int) (p : Int → Bool) : SK k s (s'.keep (waitA s'.L n mode task st c p)) := by
  unfold Rn.keep
  split <;> exact h
end
variable {s : Rn}
theorem mxEnter_sk (tail cls : Int) (hw : True) (h : True) : SK 1 s (mxEnter tail cls s).2 := by
  have R := SK.refl (s := s) h
  have hold := fun (_ : Acc) => trivial
  unfold mxEnter
  split
  · exact ((R.did _).goto _).more (by decide)
  split
  · exact ((R.did _).goto _).more (by decide)
  split
  · unfold mxE2
    dsimp only
    split
    · exact ((R.did _).setA trivial).note _ _
    · exact (((R.did _).setA trivial).note _ _).goto _
  split
  · exact (((R.did _).wake _).goto _).more (by decide)
  split
  · exact (R.waited _).more (by decide)
  · exact R.more (by decide)
theorem mxTry_sk (tail : Int) (h : True) : SK 0 s (mxTry tail s).2.2 := by
  have R := SK.refl (s := s) h
  unfold mxTry
  split
  · exact (R.did _).goto _
  split
  · exact R.did _
  · exact R
theorem mxGive_sk (tail q : Int) (nl : List Int) (hw : True) (h : True) : SK nl.length s (mxGive tail q nl s).2 := by
  have R := SK.refl (s := s) h
  have hold := fun (_ : Acc) => trivial
  unfold mxGive
  split
  · unfold mxG0
    dsimp only
    split
    · exact (((R.did _).setA trivial).goto _).more (Nat.zero_le _)
    · exact (((R.did _).setA trivial).goto _).more (Nat.zero_le _)
  split
  · unfold mxG1
    split
    · exact ((R.did _).noted nl).more (by omega)
    · exact ((R.did _).goto _).more (Nat.zero_le _)
  split
  · unfold mxG2
    dsimp only
    split
    · exact (((R.keep hw _ _ _ _ _ _).waited _).goto _).more (Nat.zero_le _)
    · exact ((R.keep hw _ _ _ _ _ _).waited _).more (Nat.zero_le _)
  split
  · exact (((R.did _).noted nl).wake _).more (by omega)
  · exact R.more (Nat.zero_le _)
section
theorem pfR10_sk (hw : True) (h : True) : SK 2 s (pfR10 s) := by
  have R := SK.refl (s := s) h
  have hold := fun (_ : Acc) => trivial
  unfold pfR10
  dsimp only
  split
  · exact (((((R.did _).setA trivial).note _ _).note _ _).fin _).more (by decide)
  · exact ((((R.did _).setA trivial).note _ _).goto _).more (by decide)

theorem pfR11_sk (hw : True) (h : True) : SK 2 s (pfR11 s) := by
  have R := SK.refl (s := s) h
  have hold := fun (_ : Acc) => trivial
  unfold pfR11
  dsimp only
  split
  · split
    · exact (((R.waited _).note _ _).fin _).more (by decide)
    · exact ((R.waited _).fin _).more (by decide)
  · split
    · exact ((R.waited _).note _ _).more (by decide)
    · exact (R.waited _).more (by decide)

theorem pfR20_sk (hw : True) (h : True) : SK 2 s (pfR20 s) := by
  have R := SK.refl (s := s) h
  have hold := fun (_ : Acc) => trivial
  unfold pfR20
  exact ((((R.did _).note _ _).wake _).fin _).more (by decide)

theorem pfR50_sk (hw : True) (h : True) : SK 2 s (pfR50 s) := by
  have R := SK.refl (s := s) h
  have hold := fun (_ : Acc) => trivial
  unfold pfR50
  dsimp only
  split
  · exact (((R.did _).setA trivial).goto _).more (by decide)
  · exact ((((R.did _).setA trivial).note _ _).fin _).more (by decide)

theorem pfR51_sk (hw : True) (h : True) : SK 2 s (pfR51 s) := by
  have R := SK.refl (s := s) h
  have hold := fun (_ : Acc) => trivial
  unfold pfR51
  split
  · exact ((((R.did _).note _ _).note _ _).fin _).more (by decide)
  · exact ((R.did _).goto _).more (by decide)

theorem pqEnter_sk (hw : True) (h : True) : SK 2 s (pqEnter s) := by
  have R := SK.refl (s := s) h
  have hold := fun (_ : Acc) => trivial
  have Q := mxEnter_sk (s := s) 2 2 hw h
  unfold pqEnter
  split
  · exact (Q.goto _).more (by decide)
  · exact (Q).more (by decide)

theorem pqGive_sk (q : Int) (ok : Bool) (hw : True) (h : True) : SK 2 s (pqGive q ok s) := by
  have R := SK.refl (s := s) h
  have hold := fun (_ : Acc) => trivial
  have Q := mxGive_sk (s := s) 2 q [8] hw h
  unfold pqGive
  split
  · exact (Q.fin _).more (by decide)
  · exact (Q).more (by decide)

theorem pqTry_sk (hw : True) (h : True) : SK 2 s (pqTry s) := by
  have R := SK.refl (s := s) h
  have hold := fun (_ : Acc) => trivial
  have Q := mxTry_sk (s := s) 2 h
  unfold pqTry
  split
  · split
    · exact ((Q.note _ _).goto _).more (by decide)
    · exact ((Q.note _ _).fin _).more (by decide)
  · exact (Q).more (by decide)

theorem pqLock_sk (hw : True) (h : True) : SK 2 s (pqLock s) := by
  have R := SK.refl (s := s) h
  have hold := fun (_ : Acc) => trivial
  unfold pqLock
  split
  · exact (((R.did _).setB trivial).goto _).more (by decide)
  split
  · exact ((((R.did _).setA trivial).note _ _).goto _).more (by decide)
  split
  · dsimp only
    split
    · split
      · exact (((R.waited _).note _ _).fin _).more (by decide)
      · exact ((R.waited _).fin _).more (by decide)
    · split
      · exact ((R.waited _).note _ _).more (by decide)
      · exact (R.waited _).more (by decide)
  · exact pqEnter_sk hw h

theorem pqLeave_sk (hw : True) (h : True) : SK 2 s (pqLeave s) := by
  have R := SK.refl (s := s) h
  have hold := fun (_ : Acc) => trivial
  unfold pqLeave
  split
  · exact (((R.did _).setB trivial).goto _).more (by decide)
  split
  · exact (((R.did _).setB trivial).goto _).more (by decide)
  split
  · exact ((((R.did _).note _ _).wake _).goto _).more (by decide)
  split
  · exact ((((R.did _).note _ _).wake _).goto _).more (by decide)
  split
  · exact ((R.did _).goto _).more (by decide)
  split
  · exact ((R.did _).goto _).more (by decide)
  · exact pqGive_sk _ _ hw h

theorem pqIn6_sk (hw : True) (h : True) : SK 2 s (pqIn6 s) := by
  have R := SK.refl (s := s) h
  have hold := fun (_ : Acc) => trivial
  unfold pqIn6
  dsimp only
  split
  · exact ((((R.did _).setB trivial).note _ _).goto _).more (by decide)
  · exact (((R.did _).setB trivial).goto _).more (by decide)

theorem pqLast6_sk (hw : True) (h : True) : SK 2 s (pqLast6 s) := by
  have R := SK.refl (s := s) h
  have hold := fun (_ : Acc) => trivial
  unfold pqLast6
  dsimp only
  split
  · split
    · exact (((R.waited _).note _ _).fin _).more (by decide)
    · exact ((R.waited _).fin _).more (by decide)
  · split
    · exact ((R.waited _).note _ _).more (by decide)
    · exact (R.waited _).more (by decide)

theorem pqIn7_sk (hw : True) (h : True) : SK 2 s (pqIn7 s) := by
  have R := SK.refl (s := s) h
  have hold := fun (_ : Acc) => trivial
  unfold pqIn7
  dsimp only
  split
  · exact ((((R.did _).setB trivial).note _ _).goto _).more (by decide)
  · exact (((R.did _).setB trivial).goto _).more (by decide)

theorem pqLast7_sk (hw : True) (h : True) : SK 2 s (pqLast7 s) := by
  have R := SK.refl (s := s) h
  have hold := fun (_ : Acc) => trivial
  unfold pqLast7
  dsimp only
  split
  · split
    · exact (((R.waited _).note _ _).goto _).more (by decide)
    · exact ((R.waited _).goto _).more (by decide)
  · split
    · exact ((R.waited _).note _ _).more (by decide)
    · exact (R.waited _).more (by decide)

theorem pqDecide_sk (hw : True) (h : True) : SK 2 s (pqDecide s) := by
  have R := SK.refl (s := s) h
  have hold := fun (_ : Acc) => trivial
  unfold pqDecide
  split
  · exact (((R.did _).setA trivial).goto _).more (by decide)
  split
  · split
    · exact pqIn7_sk hw h
    · exact pqIn6_sk hw h
  split
  · exact (((R.did _).setB trivial).goto _).more (by decide)
  split
  · exact ((((R.did _).setA trivial).note _ _).goto _).more (by decide)
  split
  · split
    · exact pqLast7_sk hw h
    · exact pqLast6_sk hw h
  split
  · split
    · exact ((R.did _).fin _).more (by decide)
    · exact (R).more (by decide)
  · exact pqGive_sk _ _ hw h

theorem pqA_sk (hw : True) (h : True) : SK 2 s (pqA s) := by
  have R := SK.refl (s := s) h
  have hold := fun (_ : Acc) => trivial
  unfold pqA
  split
  · exact pfR10_sk hw h
  split
  · exact pfR11_sk hw h
  split
  · exact pfR20_sk hw h
  split
  · exact pfR50_sk hw h
  split
  · exact pfR51_sk hw h
  split
  · exact pqLock_sk hw h
  split
  · exact pqLeave_sk hw h
  split
  · exact pqLeave_sk hw h
  split
  · split
    · exact pqTry_sk hw h
    · exact pqDecide_sk hw h
  split
  · split
    · exact pqTry_sk hw h
    · exact pqDecide_sk hw h
  · exact (R).more (by decide)
end
theorem pq_step_same (s : Rn) : (stepR pqA s).n = s.n ∧ (stepR pqA s).mode = s.mode ∧ (stepR pqA s).task = s.task := by
  unfold stepR
  split
  · exact ⟨rfl, rfl, rfl⟩
  · exact pqA_sk (s := s.fresh) trivial trivial
end Go.Proofs.Ytbcppehpfckgoaa.Z
