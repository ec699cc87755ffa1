/- A task that is let go on alone, from its operation's beginning to its end; many that read. No lock in sight. -/
import Derived.Test.YtlndihdlodempaaZMat2
import Derived.Test.YtlndihdlodempaaZAlone2
set_option linter.unusedVariables false
set_option linter.unusedSimpArgs false
namespace Go.Proofs.Ytlndihdlodempaa.Z
open Go.RowKit

/-- A run that waits for no permit here. -/
def Free (s : Rn) : Prop := s.f.wk.on = true ∨ s.f.st = 0
theorem free_stuck {s : Rn} (h : Free s) (L : List Int) (n mode task : Int) : (!s.f.wk.on && stuckA L n mode task s.f.st) = false := by
  rcases h with h | h
  · rw [h]; rfl
  · rw [h]
    unfold stuckA
    rw [stageA_0]
    simp

/-- In so many steps an operation ends. -/
inductive Does (g : Rn → Rn) : Nat → Rn → Rn → Prop
  | last {s s' : Rn} : Free s → stepR g s = s' → s'.over = true → Does g 1 s s'
  | more {n : Nat} {s s1 s' : Rn} : Free s → stepR g s = s1 → s1.over = false → s1.f.op ≠ 0 → Does g n s1 s' → Does g (n + 1) s s'

def Same (g : Rn → Rn) : Prop := ∀ s, (stepR g s).n = s.n ∧ (stepR g s).mode = s.mode ∧ (stepR g s).task = s.task

theorem run_fresh {s : Rn} {M : Mt} {i : Nat} {f : Fr} (h1 : s.n = M.n) (h2 : s.mode = M.mode) (h3 : s.task = i) (h4 : s.f = f) (h5 : s.L = M.L) : s.fresh = M.run i f := by
  obtain ⟨n, mode, task, f', acc, notes, L⟩ := s
  simp only at h1 h2 h3 h4 h5
  subst h1 h2 h3 h4 h5
  rfl
theorem step_of_fresh {g : Rn → Rn} {s : Rn} {M : Mt} {i : Nat} {f : Fr} (h : s.fresh = M.run i f) {s1 : Rn} (hs : stepR g s = s1) : stepR g (M.run i f) = s1 := by
  rw [← h, ← stepR_fresh, hs]

theorem put_put (M : Mt) (i : Nat) (f f' : Fr) (h h' : Int) (L L' : List Int) : (M.put i f h L).put i f' h' L' = M.put i f' h' L' := by
  unfold Mt.put
  simp [List.set_set]

theorem getD_set_self {α : Type} {l : List α} {i : Nat} {v d : α} (h : i < l.length) : (l.set i v).getD i d = v := by
  simp [List.getD, h]

/-- Of a task that is with an operation: let go on, it ends it. -/
theorem while_does {g : Rn → Rn} (hg : Same g) : ∀ {n : Nat} {s s' : Rn}, Does g n s s' → ∀ {M : Mt} {i m : Nat}, i < M.fs.length → M.hold.length = M.fs.length → s.fresh = M.run i s.f → M.fs.getD i Fr.zero = s.f → s.f.op ≠ 0 → n ≤ m →
    whileA g i m M = M.put i Fr.zero (behindA s'.f.op s'.f.ret (M.hold.getD i 0)) s'.L := by
  intro n s s' h
  induction h with
  | @last s s' hf hs ho =>
    intro M i m hi hh hr hM hop hm
    obtain ⟨m, rfl⟩ : ∃ j, m = j + 1 := ⟨m - 1, by omega⟩
    have hst := goes_of (h := M.hold.getD i 0) (step_of_fresh hr hs)
    rw [if_neg (by rw [free_stuck hf]; decide), if_pos ho] at hst
    unfold whileA
    rw [hM, if_neg hop]
    have hp : M.play g i 0 = M.put i Fr.zero (behindA s'.f.op s'.f.ret (M.hold.getD i 0)) s'.L := by
      unfold Mt.play
      rw [hM, if_neg hop, hst]
    rw [hp]
    cases m with
    | zero => rfl
    | succ m =>
      unfold whileA
      rw [if_pos]
      show ((M.fs.set i Fr.zero).getD i Fr.zero).op = 0
      rw [getD_set_self hi]
      rfl
  | @more n s s1 s' hf hs ho hop1 hd ih =>
    intro M i m hi hh hr hM hop hm
    obtain ⟨m, rfl⟩ : ∃ j, m = j + 1 := ⟨m - 1, by omega⟩
    have hst := goes_of (h := M.hold.getD i 0) (step_of_fresh hr hs)
    rw [if_neg (by rw [free_stuck hf]; decide), if_neg (by rw [ho]; decide)] at hst
    unfold whileA
    rw [hM, if_neg hop]
    have hp : M.play g i 0 = M.put i s1.f (M.hold.getD i 0) s1.L := by
      unfold Mt.play
      rw [hM, if_neg hop, hst]
    rw [hp]
    have hsm := hg s
    rw [hs] at hsm
    have hn : s.n = M.n ∧ s.mode = M.mode ∧ s.task = i := ⟨congrArg Rn.n hr, congrArg Rn.mode hr, congrArg Rn.task hr⟩
    have := ih (M := M.put i s1.f (M.hold.getD i 0) s1.L) (i := i) (m := m) (by simp [Mt.put]; exact hi) (by simp [Mt.put]; exact hh)
      (run_fresh (hsm.1.trans hn.1) (hsm.2.1.trans hn.2.1) (hsm.2.2.trans hn.2.2) rfl rfl) (getD_set_self hi) hop1 (by omega)
    rw [this, put_put]
    congr 2
    exact getD_set_self (by rw [hh]; exact hi)

/-- AN OPERATION, WHOLE. -/
theorem whole_does {g : Rn → Rn} (hg : Same g) {n : Nat} {s s' : Rn} (hd : Does g n s s') {M : Mt} {i : Nat} {op : Int} (hi : i < M.fs.length) (hh : M.hold.length = M.fs.length) (hM : M.fs.getD i Fr.zero = Fr.zero) (hmay : mayB op (M.hold.getD i 0) = true)
    (hr : s.fresh = M.run i (frOp op)) (hn : n ≤ 201) : wholeA g M i op = M.put i Fr.zero (behindA s'.f.op s'.f.ret (fromA op (M.hold.getD i 0))) s'.L := by
  have hsf : s.f = frOp op := congrArg Rn.f hr
  have hplay : M.play g i op = M.goes g i (frOp op) (fromA op (M.hold.getD i 0)) := by
    unfold Mt.play
    rw [hM, if_pos (show Fr.zero.op = 0 from rfl), if_pos hmay]
  unfold wholeA
  rw [hplay]
  cases hd with
  | last hf hs ho =>
    have hst := goes_of (h := fromA op (M.hold.getD i 0)) (step_of_fresh hr hs)
    rw [← hsf, if_neg (by rw [free_stuck hf]; decide), if_pos ho, hsf] at hst
    rw [hst]
    show whileA g i (199 + 1) _ = _
    unfold whileA
    rw [if_pos]
    show ((M.fs.set i Fr.zero).getD i Fr.zero).op = 0
    rw [getD_set_self hi]
    rfl
  | @more n _ s1 _ hf hs ho hop1 hd2 =>
    have hst := goes_of (h := fromA op (M.hold.getD i 0)) (step_of_fresh hr hs)
    rw [← hsf, if_neg (by rw [free_stuck hf]; decide), if_neg (by rw [ho]; decide), hsf] at hst
    rw [hst]
    have hsm := hg s
    rw [hs] at hsm
    have hn1 : s.n = M.n ∧ s.mode = M.mode ∧ s.task = i := ⟨congrArg Rn.n hr, congrArg Rn.mode hr, congrArg Rn.task hr⟩
    have := while_does hg hd2 (M := M.put i s1.f (fromA op (M.hold.getD i 0)) s1.L) (i := i) (m := 200) (by simp [Mt.put]; exact hi) (by simp [Mt.put]; exact hh)
      (run_fresh (hsm.1.trans hn1.1) (hsm.2.1.trans hn1.2.1) (hsm.2.2.trans hn1.2.2) rfl rfl) (getD_set_self hi) hop1 (by omega)
    rw [this, put_put]
    congr 2
    exact getD_set_self (by rw [hh]; exact hi)

/-- An operation of a task, from its beginning. -/
def startT (n mode : Int) (t : Nat) (op : Int) (L : List Int) : Rn := ⟨n, mode, t, frOp op, Acc.zero, [], L⟩

/-- Tasks that are idle. -/
structure Idle (M : Mt) (k : Nat) (d : Int) (f : Nat → Int) (L : List Int) : Prop where
  n : M.n = k
  mode : M.mode = d
  fs : M.fs = List.replicate k Fr.zero
  hold : M.hold = (List.range k).map f
  words : M.L = L

theorem range_set (k : Nat) (f : Nat → Int) (i : Nat) (v : Int) : ((List.range k).map f).set i v = (List.range k).map (fun x => if x = i then v else f x) := by
  refine List.ext_getElem? fun j => ?_
  rw [List.getElem?_set]
  by_cases hj : j < k
  · by_cases hij : i = j
    · subst hij
      simp [hj]
    · simp [hj, hij, Ne.symm hij]
  · by_cases hij : i = j
    · subst hij
      simp [hj]
    · simp [hj, hij]
theorem range_get {k : Nat} {f : Nat → Int} {i : Nat} (h : i < k) : ((List.range k).map f).getD i 0 = f i := by
  simp [List.getD, h]
theorem range_count (f : Nat → Int) (what : Int) (j : Nat) : ∀ k, (∀ i, i < k → (f i = what ↔ i < j)) → ((List.range k).map f).countP (· == what) = min j k := by
  intro k
  induction k with
  | zero => intro _; simp
  | succ k ih =>
    intro h
    rw [List.range_succ, List.map_append, List.countP_append, ih (fun i hi => h i (by omega))]
    have hk := h k (by omega)
    by_cases h1 : k < j
    · simp [hk.2 h1]; omega
    · have : ¬ f k = what := fun e => h1 (hk.1 e)
      simp [this]; omega

theorem Idle.whole {g : Rn → Rn} (hg : Same g) {M : Mt} {k : Nat} {d : Int} {f : Nat → Int} {L : List Int} (h : Idle M k d f L) {i : Nat} (hi : i < k) {op : Int} (hmay : mayB op (f i) = true) {n : Nat} {s' : Rn} (hn : n ≤ 201) (hd : Does g n (startT k d i op L) s') :
    Idle (wholeA g M i op) k d (fun x => if x = i then behindA s'.f.op s'.f.ret (fromA op (f i)) else f x) s'.L := by
  have hlen : M.fs.length = k := by rw [h.fs]; simp
  have hhl : M.hold.length = M.fs.length := by rw [h.hold, h.fs]; simp
  have hget : M.hold.getD i 0 = f i := by rw [h.hold]; exact range_get hi
  have hz : M.fs.getD i Fr.zero = Fr.zero := by rw [h.fs]; simp [List.getD, hi]
  have := whole_does hg hd (M := M) (i := i) (op := op) (by omega) hhl hz (by rw [hget]; exact hmay) (run_fresh h.n.symm h.mode.symm rfl rfl h.words.symm) hn
  rw [this, hget]
  refine ⟨h.n, h.mode, ?_, ?_, rfl⟩
  · show M.fs.set i Fr.zero = _
    rw [h.fs]
    refine List.ext_getElem? fun j => ?_
    rw [List.getElem?_set]
    split
    · rename_i hij
      subst hij
      simp [hi]
    · rfl
  · show M.hold.set i _ = _
    rw [h.hold, range_set]

/-- What is asked of a lock: of words at which so many read. -/
structure Together (g : Rn → Rn) (k : Nat) (d op : Int) (P : Nat → List Int → Prop) : Prop where
  same : Same g
  read : ∀ i j L, i < k → j + 1 < k → P j L → ∃ n s', n ≤ 201 ∧ Does g n (startT k d i op L) s' ∧ s'.f.ret = 2 ∧ (s'.f.op = 1 ∨ s'.f.op = 5) ∧ P (j + 1) s'.L
  refused : ∀ i j L, i < k → j + 1 < k → P (j + 1) L → ∃ n s', n ≤ 201 ∧ Does g n (startT k d i 6 L) s' ∧ s'.f.ret ≠ 2 ∧ P (j + 1) s'.L
  give : ∀ i j L, i < k → j + 1 < k → P (j + 1) L → ∃ n s', n ≤ 201 ∧ Does g n (startT k d i 2 L) s' ∧ s'.f.op = 2 ∧ P j s'.L
  take : ∀ i L, i < k → P 0 L → ∃ n s', n ≤ 201 ∧ Does g n (startT k d i 6 L) s' ∧ s'.f.ret = 2 ∧ s'.f.op = 6

theorem together_ok {g : Rn → Rn} {k : Nat} {d op : Int} {P : Nat → List Int → Prop} (hop : op = 1 ∨ op = 5) (T : Together g k d op P) {Z : List Int} (hZ : P 0 Z) (hk : 2 ≤ k) : TogetherOk g k op (Mt.start k d Z) := by
  have h0 : Idle (Mt.start k d Z) k d (fun _ => 0) Z := ⟨rfl, rfl, rfl, by simp [Mt.start, List.map_const'], rfl⟩
  have hmay : mayB op 0 = true := by rcases hop with rfl | rfl <;> decide
  have hR : ∀ j, j ≤ k - 1 → ∃ L, P j L ∧ Idle (readsA g op (Mt.start k d Z) j) k d (fun i => if i < j then 1 else 0) L := by
    intro j
    induction j with
    | zero => intro _; exact ⟨Z, hZ, by show Idle (Mt.start k d Z) _ _ _ _; simpa using h0⟩
    | succ j ih =>
      intro hj
      obtain ⟨L, hP, hI⟩ := ih (by omega)
      obtain ⟨n, s', hn, hd, hr, ho, hP'⟩ := T.read j j L (by omega) (by omega) hP
      refine ⟨s'.L, hP', ?_⟩
      have := hI.whole T.same (i := j) (by omega) (op := op) (by simpa using hmay) hn hd
      have e : (fun x => if x = j then behindA s'.f.op s'.f.ret (fromA op (if j < j then 1 else 0)) else if x < j then (1 : Int) else 0) = fun i => if i < j + 1 then 1 else 0 := by
        funext x
        by_cases h1 : x = j
        · subst h1
          have : behindA s'.f.op 2 (fromA op (if x < x then 1 else 0)) = 1 := by
            unfold behindA
            rcases ho with ho | ho <;> simp [ho]
          rw [if_pos rfl, hr, this, if_pos (Nat.lt_succ_self _)]
        · by_cases h2 : x < j
          · simp [h1, h2, Nat.lt_succ_of_lt h2]
          · have : ¬ x < j + 1 := by omega
            simp [h1, h2, this]
      rw [e] at this
      exact this
  have hG : ∀ j, j ≤ k - 1 → ∃ L, P (k - 1 - j) L ∧ Idle (givesA g k (readsA g op (Mt.start k d Z) (k - 1)) j) k d (fun i => if i < k - 1 then (if i < j then 0 else 1) else 0) L ∧
      (j < k - 1 → (wholeA g (givesA g k (readsA g op (Mt.start k d Z) (k - 1)) j) (k - 1) 6).hold.getD (k - 1) 0 = 0) := by
    have hno : ∀ j M L, j < k - 1 → P (k - 1 - j) L → Idle M k d (fun i => if i < k - 1 then (if i < j then 0 else 1) else 0) L →
        ∃ L', P (k - 1 - j) L' ∧ Idle (wholeA g M (k - 1) 6) k d (fun i => if i < k - 1 then (if i < j then 0 else 1) else 0) L' := by
      intro j M L hj hP hI
      obtain ⟨c, hc⟩ : ∃ c, k - 1 - j = c + 1 := ⟨k - 1 - j - 1, by omega⟩
      rw [hc] at hP ⊢
      obtain ⟨n, s', hn, hd, hr, hP'⟩ := T.refused (k - 1) c L (by omega) (by omega) hP
      refine ⟨s'.L, hP', ?_⟩
      have := hI.whole T.same (i := k - 1) (by omega) (op := 6) (by simp; decide) hn hd
      have e : (fun x => if x = k - 1 then behindA s'.f.op s'.f.ret (fromA 6 (if k - 1 < k - 1 then (if k - 1 < j then 0 else 1) else 0)) else if x < k - 1 then (if x < j then (0 : Int) else 1) else 0) = fun i => if i < k - 1 then (if i < j then 0 else 1) else 0 := by
        funext x
        by_cases h1 : x = k - 1
        · subst h1
          have : ∀ h, behindA s'.f.op s'.f.ret (fromA 6 h) = h := by
            intro h
            unfold behindA
            rw [if_pos hr]
            rfl
          rw [if_pos rfl, this]
        · simp [h1]
      rw [e] at this
      exact this
    intro j
    induction j with
    | zero =>
      intro _
      obtain ⟨L, hP, hI⟩ := hR (k - 1) (by omega)
      have hI' : Idle (givesA g k (readsA g op (Mt.start k d Z) (k - 1)) 0) k d (fun i => if i < k - 1 then (if i < 0 then 0 else 1) else 0) L := by
        have e : (fun i : Nat => if i < k - 1 then (if i < 0 then (0 : Int) else 1) else 0) = fun i => if i < k - 1 then 1 else 0 := by funext i; simp
        rw [e]
        exact hI
      refine ⟨L, hP, hI', fun hj => ?_⟩
      obtain ⟨L', _, h2⟩ := hno 0 _ L hj (by simpa using hP) hI'
      rw [h2.hold, range_get (by omega)]
      simp
    | succ j ih =>
      intro hj
      obtain ⟨L, hP, hI, _⟩ := ih (by omega)
      obtain ⟨L1, hP1, hI1⟩ := hno j _ L (by omega) hP hI
      obtain ⟨c, hc⟩ : ∃ c, k - 1 - j = c + 1 := ⟨k - 1 - j - 1, by omega⟩
      rw [hc] at hP1
      obtain ⟨n, s', hn, hd, ho, hP'⟩ := T.give j c L1 (by omega) (by omega) hP1
      have h3 := hI1.whole T.same (i := j) (by omega) (op := 2) (by rw [if_pos (by omega)]; simp; decide) hn hd
      have e : (fun x => if x = j then behindA s'.f.op s'.f.ret (fromA 2 (if j < k - 1 then (if j < j then 0 else 1) else 0)) else if x < k - 1 then (if x < j then (0 : Int) else 1) else 0) = fun i => if i < k - 1 then (if i < j + 1 then 0 else 1) else 0 := by
        funext x
        by_cases h1 : x = j
        · subst h1
          have : ∀ h, behindA s'.f.op s'.f.ret (fromA 2 h) = 0 := by
            intro h
            unfold behindA fromA
            rw [ho]
            split <;> simp
          rw [if_pos rfl, this, if_pos (by omega), if_pos (by omega)]
        · by_cases h2 : x < k - 1
          · by_cases h4 : x < j
            · simp [h1, h2, h4, Nat.lt_succ_of_lt h4]
            · have : ¬ x < j + 1 := by omega
              simp [h1, h2, h4, this]
          · simp [h1, h2]
      rw [e] at h3
      refine ⟨s'.L, by rw [show k - 1 - (j + 1) = c from by omega]; exact hP', h3, fun hj2 => ?_⟩
      obtain ⟨L', _, h2⟩ := hno (j + 1) _ s'.L hj2 (by rw [show k - 1 - (j + 1) = c from by omega]; exact hP') h3
      rw [show givesA g k (readsA g op (Mt.start k d Z) (k - 1)) (j + 1) = wholeA g (wholeA g (givesA g k (readsA g op (Mt.start k d Z) (k - 1)) j) (k - 1) 6) j 2 from rfl, h2.hold, range_get (by omega)]
      simp
  refine ⟨fun j hj => ?_, fun j hj => (hG j (by omega)).choose_spec.2.2 hj, ?_⟩
  · obtain ⟨L, _, hI⟩ := hR (j + 1) (by omega)
    unfold Mt.many
    rw [hI.hold, range_count _ 1 (j + 1) k (fun i hi => by by_cases h : i < j + 1 <;> simp [h])]
    omega
  · obtain ⟨L, hP, hI, _⟩ := hG (k - 1) (Nat.le_refl _)
    rw [Nat.sub_self] at hP
    obtain ⟨n, s', hn, hd, hr, ho⟩ := T.take (k - 1) L (by omega) hP
    have h3 := hI.whole T.same (i := k - 1) (by omega) (op := 6) (by simp; decide) hn hd
    have hb : ∀ h, behindA s'.f.op s'.f.ret h = 2 := by
      intro h
      unfold behindA
      rw [ho, hr]
      simp
    refine ⟨?_, ?_⟩
    · rw [h3.hold, range_get (by omega), if_pos rfl, hb]
    · unfold Mt.many
      rw [h3.hold, range_count _ 1 0 k (fun i hi => ?_)]
      · omega
      · by_cases h1 : i = k - 1
        · simp [h1, hb]
        · simp [h1]
          intro h2
          omega

/-- A wake-up that finds nobody, at an operation's end. -/
theorem does_wakes (g : Rn → Rn) (c : Int) : ∀ (d : Nat) (s : Rn) (i : Int), s.f.wk = ⟨true, c, i, false⟩ → 0 ≤ i → i + d = s.n → 1 ≤ d → NoWatch s.n c s.L → s.f.ret ≠ 0 → s.f.op ≠ 0 →
    ∃ s', Does g d s s' ∧ s'.L = s.L ∧ s'.f.ret = s.f.ret ∧ s'.f.op = s.f.op := by
  intro d
  induction d with
  | zero => intro s i hw h0 h1 h2; omega
  | succ d ih =>
    intro s i hw h0 h1 _ hc hr ho
    obtain ⟨e1, e2, e3, e4, e5, e6⟩ := woke_calm hw h0 (by omega) hc
    have hst : stepR g s = s.woke := by unfold stepR; rw [hw]; rfl
    have hf : Free s := Or.inl (by rw [hw])
    by_cases hd : d = 0
    · subst hd
      rw [if_pos (by omega)] at e2
      exact ⟨s.woke, Does.last hf hst (by unfold Rn.over; rw [e2]; simpa [Wk.zero] using hr), e1, by rw [e2], by rw [e2]⟩
    · rw [if_neg (by omega)] at e2
      obtain ⟨s', k1, k2, k3, k4⟩ := ih s.woke (i + 1) (by rw [e2]) (by omega) (by rw [e4]; omega) (by omega) (by rw [e4, e1]; exact hc) (by rw [e2]; exact hr) (by rw [e2]; exact ho)
      exact ⟨s', Does.more hf hst (by unfold Rn.over; rw [e2]; simp) (by rw [e2]; exact ho) k1, k2.trans e1, by rw [k3, e2], by rw [k4, e2]⟩

theorem does_ends {g : Rn → Rn} {s s1 : Rn} (c : Int) (hf : Free s) (hs : stepR g s = s1) (hk : s1.f.wk = beginA s1.mode c) (hr : s1.f.ret ≠ 0) (ho : s1.f.op ≠ 0) (h1 : 1 ≤ s1.n) (hc : NoWatch s1.n c s1.L) :
    ∃ n s', n ≤ s1.n.toNat + 1 ∧ Does g n s s' ∧ s'.L = s1.L ∧ s'.f.ret = s1.f.ret ∧ s'.f.op = s1.f.op := by
  unfold beginA at hk
  split at hk
  · obtain ⟨s', k1, k2, k3, k4⟩ := does_wakes g c s1.n.toNat s1 0 hk (Int.le_refl _) (by omega) (by omega) hc hr ho
    exact ⟨_, s', Nat.le_refl _, Does.more hf hs (by unfold Rn.over; rw [hk]; simp) ho k1, k2, k3, k4⟩
  · exact ⟨1, s1, by omega, Does.last hf hs (by unfold Rn.over; rw [hk]; simpa [Wk.zero] using hr), rfl, rfl, rfl⟩

/-- A task's run at a line, afresh. -/
def RnT (n mode : Int) (t : Nat) (op line a b : Int) (L : List Int) : Rn := ⟨n, mode, t, ⟨op, line, a, b, 0, Wk.zero, 0⟩, Acc.zero, [], L⟩
def AtT (n mode : Int) (t : Nat) (s : Rn) (op line a b : Int) (L : List Int) : Prop := s.fresh = RnT n mode t op line a b L
theorem startT_at (n mode : Int) (t : Nat) (op : Int) (L : List Int) : AtT n mode t (startT n mode t op L) op 0 0 0 L := rfl
section
variable {n mode : Int} {t : Nat} {s : Rn} {op line a b line' a' b' : Int} {L L' : List Int} {g : Rn → Rn}
theorem AtT.wk (h : AtT n mode t s op line a b L) : s.f.wk = Wk.zero := congrArg (fun x => x.f.wk) h
theorem AtT.free (h : AtT n mode t s op line a b L) : Free s := Or.inr (congrArg (fun x => x.f.st) h)
theorem AtT.step (h : AtT n mode t s op line a b L) : stepR g s = g (RnT n mode t op line a b L) := by
  unfold stepR
  rw [h.wk]
  show g s.fresh = _
  rw [show s.fresh = _ from h]
theorem AtT.over (h : AtT n mode t s op line a b L) : s.over = false := by unfold Rn.over; rw [show s.f.ret = 0 from congrArg (fun x => x.f.ret) h]; rfl
theorem AtT.op_ (h : AtT n mode t s op line a b L) : s.f.op = op := congrArg (fun x => x.f.op) h
/-- A line, and on. -/
theorem AtT.go {q : Nat} {s' : Rn} (h : AtT n mode t s op line a b L) (h1 : AtT n mode t (g (RnT n mode t op line a b L)) op line' a' b' L') (ho : op ≠ 0) (hd : Does g q (g (RnT n mode t op line a b L)) s') : Does g (q + 1) s s' :=
  Does.more h.free h.step h1.over (by rw [h1.op_]; exact ho) hd
/-- A line that ends the operation. -/
theorem AtT.fin (h : AtT n mode t s op line a b L) (hr : (g (RnT n mode t op line a b L)).f.ret ≠ 0) (hk : (g (RnT n mode t op line a b L)).f.wk = Wk.zero) : Does g 1 s (g (RnT n mode t op line a b L)) :=
  Does.last h.free h.step (by unfold Rn.over; rw [hk]; simpa [Wk.zero] using hr)
/-- A line that ends the operation, and begins a wake-up that finds nobody. -/
theorem AtT.ends {s1 : Rn} (h : AtT n mode t s op line a b L) (c : Int) (hg : g (RnT n mode t op line a b L) = s1) (hr : s1.f.ret ≠ 0) (ho : s1.f.op ≠ 0) (hk : s1.f.wk = beginA s1.mode c) (h1 : 1 ≤ s1.n) (hc : NoWatch s1.n c s1.L) :
    ∃ q s', q ≤ s1.n.toNat + 1 ∧ Does g q s s' ∧ s'.L = s1.L ∧ s'.f.ret = s1.f.ret ∧ s'.f.op = s1.f.op := does_ends c h.free (h.step.trans hg) hk hr ho h1 hc
end

end Go.Proofs.Ytlndihdlodempaa.Z
