/- Locks as tasks that wait for cells, and wake each other: each step keeps what holds, and goes on. No lock in sight. -/
import Derived.Test.YtlndihdlodempaaZLive
import Derived.Test.YtlndihdlodempaaZDoes
set_option linter.unusedVariables false
set_option linter.unusedSimpArgs false
namespace Go.Proofs.Ytlndihdlodempaa.Z
open Go.RowKit

variable {P : Type} {K : LockM P} {I : Nat → List P → (Nat → Int) → Prop} {n b : Nat} {M : Mt} {ps : List P}

theorem stage_at {mode st : Int} (hm : mode = 2) (h0 : 0 ≤ st) (h1 : st ≤ 4) : stageA mode st = st := by
  unfold stageA
  rw [if_pos (by omega)]
theorem stage_zero (mode : Int) : stageA mode 0 = 0 := by unfold stageA; split <;> rfl

theorem AbsF.st_mode {mode : Int} {t : Nat} {f : Fr} {h : Int} {p : P} (G : K.Good n mode) (H : AbsF K n mode t f h p) : (f.st = 2 ∨ f.st = 3) → mode = 2 := by
  intro hs
  cases H <;> first | assumption | (have := (G.plain p).1; omega)
theorem AbsF.left {mode : Int} {t : Nat} {f : Fr} {h : Int} {p : P} (G : K.Good n mode) (H : AbsF K n mode t f h p) : leftF n f ≤ 2 * n := by
  unfold leftF
  split
  · omega
  · omega

/-- A task's new frame, and the words. -/
theorem MI.put (H : MI K I n (b + 1) M ps) (G : K.Good n M.mode) {i : Nat} (hi : i < n) {f' : Fr} {h' : Int} {p' : P} {L' : List Int} (hL : L'.length = 8 + 4 * n) (ha : AbsF K n M.mode i f' h' p') (hinv : I b (ps.set i p') (mainOf n L'))
    (w1 : ∀ c pr, K.wait i p' = some (c, pr) → (f'.st = 2 ∨ f'.st = 3) → L'.getD (8 + 2 * n + i) 0 = ((c : Int) + 1) % 4294967296)
    (w2 : ∀ j, j < n → j ≠ i → L'.getD (8 + 2 * n + j) 0 = M.L.getD (8 + 2 * n + j) 0)
    (w3 : ∀ c pr, K.wait i p' = some (c, pr) → f'.st = 3 → pr (mainOf n L' c) = false)
    (w4 : ∀ j c pr, j < n → j ≠ i → K.wait j (ps.getD j (K.idle 0)) = some (c, pr) → (M.fs.getD j Fr.zero).st = 3 → pr (mainOf n L' c) = true →
      L'.getD (8 + 3 * n + j) 0 ≠ 0 ∨ (f'.wk.on = true ∧ f'.wk.cell = c ∧ f'.wk.i ≤ j) ∨ ∃ u, u < n ∧ u ≠ i ∧ (M.fs.getD u Fr.zero).wk.on = true ∧ (M.fs.getD u Fr.zero).wk.cell = c ∧ (M.fs.getD u Fr.zero).wk.i ≤ j) :
    MI K I n b (M.put i f' h' L') (ps.set i p') := by
  have hfl := H.fsl
  have hhl := H.hol
  have hpl := H.psl
  refine ⟨H.num, by simp [Mt.put, hfl], by simp [Mt.put, hhl], by simp [hpl], hL, fun j hj => ?_, hinv, fun j c pr hj hw hs => ?_, fun j c pr hj hw hs hp => ?_⟩
  · show AbsF K n M.mode j ((M.fs.set i f').getD j Fr.zero) ((M.hold.set i h').getD j 0) ((ps.set i p').getD j (K.idle 0))
    rw [getDsetG (by omega), getDsetG (by omega), getDsetG (by omega)]
    by_cases e : i = j
    · subst e
      simp only [if_true]
      exact ha
    · simp only [if_neg e]
      exact H.abs j hj
  · have hs : ((M.fs.set i f').getD j Fr.zero).st = 2 ∨ ((M.fs.set i f').getD j Fr.zero).st = 3 := hs
    show L'.getD (8 + 2 * n + j) 0 = _
    rw [getDsetG (by omega)] at hs hw
    by_cases e : i = j
    · subst e
      simp only [if_true] at hs hw
      exact w1 c pr hw hs
    · simp only [if_neg e] at hs hw
      rw [w2 j hj (fun h => e h.symm)]
      exact H.watch j c pr hj hw hs
  · have hs : ((M.fs.set i f').getD j Fr.zero).st = 3 := hs
    have hp : pr (mainOf n L' c) = true := hp
    rw [getDsetG (by omega)] at hs hw
    by_cases e : i = j
    · subst e
      simp only [if_true] at hs hw
      rw [w3 c pr hw hs] at hp
      cases hp
    · simp only [if_neg e] at hs hw
      rcases w4 j c pr hj (fun h => e h.symm) hw hs hp with h1 | ⟨h1, h2, h3⟩ | ⟨u, h1, h2, h3, h4, h5⟩
      · exact Or.inl h1
      · refine Or.inr ⟨i, hi, ?_⟩
        show ((M.fs.set i f').getD i Fr.zero).wk.on = true ∧ ((M.fs.set i f').getD i Fr.zero).wk.cell = c ∧ ((M.fs.set i f').getD i Fr.zero).wk.i ≤ j
        rw [getDsetG (by omega), if_pos rfl]
        exact ⟨h1, h2, h3⟩
      · refine Or.inr ⟨u, h1, ?_⟩
        show ((M.fs.set i f').getD u Fr.zero).wk.on = true ∧ ((M.fs.set i f').getD u Fr.zero).wk.cell = c ∧ ((M.fs.set i f').getD u Fr.zero).wk.i ≤ j
        rw [getDsetG (by omega), if_neg (fun h => h2 h.symm)]
        exact ⟨h3, h4, h5⟩

/-- Where nothing but watches and permits changed, and who slept is woken as before. -/
theorem MI.others (H : MI K I n b M ps) {i : Nat} {L' : List Int} (hw : (M.fs.getD i Fr.zero).wk.on = false) (hm : mainOf n L' = mainOf n M.L) (hp : ∀ j, j < n → j ≠ i → L'.getD (8 + 3 * n + j) 0 = M.L.getD (8 + 3 * n + j) 0) (f' : Fr) :
    ∀ j c pr, j < n → j ≠ i → K.wait j (ps.getD j (K.idle 0)) = some (c, pr) → (M.fs.getD j Fr.zero).st = 3 → pr (mainOf n L' c) = true →
      L'.getD (8 + 3 * n + j) 0 ≠ 0 ∨ (f'.wk.on = true ∧ f'.wk.cell = c ∧ f'.wk.i ≤ j) ∨ ∃ u, u < n ∧ u ≠ i ∧ (M.fs.getD u Fr.zero).wk.on = true ∧ (M.fs.getD u Fr.zero).wk.cell = c ∧ (M.fs.getD u Fr.zero).wk.i ≤ j := by
  intro j c pr hj hji hwt hs hpr
  rw [hm] at hpr
  rcases H.woken j c pr hj hwt hs hpr with h1 | ⟨u, h1, h2, h3⟩
  · exact Or.inl (by rw [hp j hj hji]; exact h1)
  · refine Or.inr (Or.inr ⟨u, h1, ?_, h2, h3⟩)
    rintro rfl
    rw [hw] at h2
    cases h2

/-- A step's end: over, or not. -/
theorem after_abs {mode : Int} (hm : mode = 1 ∨ mode = 2) (G : K.Good n mode) (h1 : 1 ≤ n) {t : Nat} {s' : Rn} {h : Int} {p' : P} {w : Option Nat} (hf : normF s'.f h = K.conc p') (hst : s'.f.st = 0) (hwk : s'.f.wk = wkOf mode w) (hop : s'.f.op ≠ 0) (hh : h ≠ 2) :
    ∃ f' h', (if s'.over = true then (Fr.zero, behindA s'.f.op s'.f.ret h) else (s'.f, h)) = (f', h') ∧ AbsF K n mode t f' h' p' ∧ f'.st = 0 ∧ f'.wk = wkOf mode w := by
  have hz : wkOf mode w = Wk.zero ∨ ∃ c, w = some c ∧ mode = 2 ∧ wkOf mode w = ⟨true, c, 0, false⟩ := by
    cases w with
    | none => exact Or.inl rfl
    | some c =>
      rcases hm with hm | hm
      · left; show beginA mode c = _; unfold beginA; rw [if_neg (by omega)]
      · right; exact ⟨c, rfl, hm, by show beginA mode c = _; unfold beginA; rw [if_pos hm]⟩
  unfold normF at hf
  by_cases hr : s'.f.ret = 0
  · rw [if_neg (by simp [hr])] at hf
    refine ⟨s'.f, h, by rw [if_neg (by unfold Rn.over; simp [hr])], ?_, hst, hwk⟩
    rcases hz with hz | ⟨c, hc, hm2, hz⟩
    · have e : ({ s'.f with wk := Wk.zero } : Fr) = s'.f := by rw [hz] at hwk; rw [← hwk]
      rw [e] at hf
      have := AbsF.plain (K := K) (n := n) (mode := mode) (t := t) p'
      rw [← hf] at this
      exact this
    · have hp1 : (K.conc p').1 = { s'.f with wk := Wk.zero } := by rw [← hf]
      have hp2 : (K.conc p').2 = h := by rw [← hf]
      have := AbsF.waking (K := K) (n := n) (mode := mode) (t := t) p' s'.f.wk hm2 (by rw [hwk, hz]) (by rw [hwk, hz]; exact Int.le_refl _) (by rw [hwk, hz]; show (0 : Int) < n; omega) (by rw [hwk, hz]; show (0 : Int) ≤ c; omega) (by rw [hp1]; exact hop)
      rw [hp1, hp2] at this
      exact this
  · rw [if_pos hr] at hf
    have hp : p' = K.idle (behindA s'.f.op s'.f.ret h) := by
      have := G.idle_only p' (by rw [← hf]; rfl)
      rw [← hf] at this
      exact this
    subst hp
    rcases hz with hz | ⟨c, hc, hm2, hz⟩
    · refine ⟨Fr.zero, behindA s'.f.op s'.f.ret h, by rw [if_pos (by unfold Rn.over; rw [hwk, hz]; simp [hr, Wk.zero])], ?_, rfl, by rw [hz]; rfl⟩
      have := AbsF.plain (K := K) (n := n) (mode := mode) (t := t) (K.idle (behindA s'.f.op s'.f.ret h))
      rw [← hf] at this
      exact this
    · refine ⟨s'.f, h, by rw [if_neg (by unfold Rn.over; rw [hwk, hz]; simp)], ?_, hst, hwk⟩
      exact AbsF.over s'.f h hm2 (by rw [hwk, hz]) (by rw [hwk, hz]; exact Int.le_refl _) (by rw [hwk, hz]; show (0 : Int) < n; omega) (by rw [hwk, hz]; show (0 : Int) ≤ c; omega) hop hr hst hh
theorem put_if {M : Mt} {i : Nat} {b : Bool} {f1 f2 f' : Fr} {h1 h2 h' : Int} {L' : List Int} (h : (if b = true then (f1, h1) else (f2, h2)) = (f', h')) : (if b = true then M.put i f1 h1 L' else M.put i f2 h2 L') = M.put i f' h' L' := by
  cases b <;> simp at h <;> simp [h]

/-- What a lock brings so that all come to rest: how many writes are left, how many of them wake; how many steps a task can do while no word changes. -/
structure LockM.Live (K : LockM P) (n : Nat) (I : Nat → List P → (Nat → Int) → Prop) (N V C : Nat) (nw nv : P → Nat) (cp : (Nat → Int) → Nat → P → Nat) : Prop where
  nwle : ∀ p, nw p ≤ N
  nvle : ∀ p, nv p ≤ V
  five : 5 ≤ C
  cple : ∀ m t p, cp m t p + 1 ≤ C ∧ (K.wait t p ≠ none → cp m t p + 2 ≤ C)
  wait_yes : ∀ m t p c pr, K.wait t p = some (c, pr) → pr (m c) = true → cp m t (K.post p (m c)) + 1 ≤ cp m t p
  wait_no : ∀ m t p c pr, K.wait t p = some (c, pr) → pr (m c) = false → 5 ≤ cp m t p
  post_w : ∀ t p c pr v, K.wait t p = some (c, pr) → nw (K.post p v) ≤ nw p ∧ nv (K.post p v) ≤ nv p
  write : ∀ m t p w, K.wait t p = none → (K.conc p).1.op ≠ 0 → (K.act t p m).2.1 = some w → nw (K.act t p m).1 + 1 ≤ nw p ∧ nv (K.act t p m).1 + (if (K.act t p m).2.2.isSome then 1 else 0) ≤ nv p
  quiet : ∀ b ps m t p, I b ps m → ps.length = n → t < n → ps.getD t (K.idle 0) = p → K.wait t p = none → (K.conc p).1.op ≠ 0 → (K.act t p m).2.1 = none → (K.act t p m).2.2 = none ∧ nw (K.act t p m).1 ≤ nw p ∧ nv (K.act t p m).1 ≤ nv p ∧ cp m t (K.act t p m).1 + 1 ≤ cp m t p
  gives : ∀ m t h, h = 1 ∨ h = 2 → nw (K.start (2 * h) h) ≤ nw (K.idle h) ∧ nv (K.start (2 * h) h) ≤ nv (K.idle h) ∧ cp m t (K.start (2 * h) h) ≤ cp m t (K.idle h)
  rests : ∀ m t, cp m t (K.idle 0) = 0
  zero : ∀ m t p, K.wait t p = none → cp m t p = 0 → p = K.idle 0
  free : ∀ b ps m, I b ps m → ps.length = n → (∀ i, i < n → ps.getD i (K.idle 0) = K.idle 0 ∨ ∃ c pr, K.wait i (ps.getD i (K.idle 0)) = some (c, pr) ∧ pr (m c) = false) → ∀ i, i < n → ps.getD i (K.idle 0) = K.idle 0

theorem cple_of {C x : Nat} {Q : Prop} (h : x + 2 ≤ C) : x + 1 ≤ C ∧ (Q → x + 2 ≤ C) := ⟨by omega, fun _ => h⟩
/-- How many steps a task can do yet while no word changes. -/
def potF (K : LockM P) (cp : (Nat → Int) → Nat → P → Nat) (m : Nat → Int) (mode : Int) (t : Nat) (f : Fr) (p : P) (q : Int) : Nat :=
  if f.st = 4 then 1 + cp m t p
  else match K.wait t p with
    | some (c, pr) => if pr (m c) then (if f.st = 0 then 0 else if f.st = 2 then 1 else 2) + cp m t p
      else if mode = 2 then (if f.st = 0 then 3 else if f.st = 1 then 2 else if f.st = 2 then 1 else 0) + (if q ≠ 0 then 2 else 0) else 0
    | none => cp m t p
theorem potF_le {N V C : Nat} {nw nv : P → Nat} {cp : (Nat → Int) → Nat → P → Nat} (Lv : K.Live n I N V C nw nv cp) {m : Nat → Int} {mode : Int} {t : Nat} {f : Fr} {p : P} {q : Int} : potF K cp m mode t f p q ≤ C := by
  obtain ⟨h1, h3⟩ := Lv.cple m t p
  have h2 := Lv.five
  unfold potF
  split
  · omega
  split
  · rename_i c pr hw
    have h3 := h3 (by rw [hw]; exact fun h => by cases h)
    split
    · repeat' split
      all_goals omega
    · repeat' split
      all_goals omega
  · omega
theorem potF_plain {N V C : Nat} {nw nv : P → Nat} {cp : (Nat → Int) → Nat → P → Nat} (Lv : K.Live n I N V C nw nv cp) {m : Nat → Int} {mode : Int} {t : Nat} {f : Fr} {p : P} {q : Int} (hs : f.st = 0) : potF K cp m mode t f p q ≤ cp m t p := by
  unfold potF
  rw [if_neg (by omega)]
  split
  · rename_i c pr hw
    cases hp : pr (m c) with
    | true => simp [hs]
    | false =>
      have := Lv.wait_no m t p c pr hw hp
      simp only [hs, if_true, Bool.false_eq_true, if_false]
      repeat' split
      all_goals omega
  · exact Nat.le_refl _

/-- How a step goes on. -/
structure Went (K : LockM P) (n : Nat) (nw nv : P → Nat) (cp : (Nat → Int) → Nat → P → Nat) (M : Mt) (ps : List P) (i : Nat) (M' : Mt) (ps' : List P) : Prop where
  num : M'.n = M.n ∧ M'.mode = M.mode
  others : ∀ j, j ≠ i → M'.fs.getD j Fr.zero = M.fs.getD j Fr.zero ∧ M'.hold.getD j 0 = M.hold.getD j 0 ∧ ps'.getD j (K.idle 0) = ps.getD j (K.idle 0)
  kind : (0 < leftF n (M.fs.getD i Fr.zero) ∧ leftF n (M'.fs.getD i Fr.zero) + 1 ≤ leftF n (M.fs.getD i Fr.zero) ∧ ps' = ps ∧ mainOf n M'.L = mainOf n M.L) ∨
    (leftF n (M.fs.getD i Fr.zero) = 0 ∧ nw (ps'.getD i (K.idle 0)) + 1 ≤ nw (ps.getD i (K.idle 0)) ∧ nv (ps'.getD i (K.idle 0)) + (if 0 < leftF n (M'.fs.getD i Fr.zero) then 1 else 0) ≤ nv (ps.getD i (K.idle 0))) ∨
    (leftF n (M.fs.getD i Fr.zero) = 0 ∧ leftF n (M'.fs.getD i Fr.zero) = 0 ∧ mainOf n M'.L = mainOf n M.L ∧ nw (ps'.getD i (K.idle 0)) ≤ nw (ps.getD i (K.idle 0)) ∧ nv (ps'.getD i (K.idle 0)) ≤ nv (ps.getD i (K.idle 0)) ∧
      (∀ j, j < n → j ≠ i → M'.L.getD (8 + 3 * n + j) 0 = M.L.getD (8 + 3 * n + j) 0) ∧
      (potF K cp (mainOf n M.L) M.mode i (M'.fs.getD i Fr.zero) (ps'.getD i (K.idle 0)) (M'.L.getD (8 + 3 * n + i) 0) + 1 ≤ potF K cp (mainOf n M.L) M.mode i (M.fs.getD i Fr.zero) (ps.getD i (K.idle 0)) (M.L.getD (8 + 3 * n + i) 0) ∨
        (potF K cp (mainOf n M.L) M.mode i (M'.fs.getD i Fr.zero) (ps'.getD i (K.idle 0)) (M'.L.getD (8 + 3 * n + i) 0) = 0 ∧ potF K cp (mainOf n M.L) M.mode i (M.fs.getD i Fr.zero) (ps.getD i (K.idle 0)) (M.L.getD (8 + 3 * n + i) 0) = 0) ∨
        ∃ j, j < n ∧ (M.fs.getD j Fr.zero).wk.on = true))

theorem put_went {M : Mt} {ps : List P} {i : Nat} {f' : Fr} {h' : Int} {p' : P} {L' : List Int} (hf : i < M.fs.length) (hh : i < M.hold.length) (hp : i < ps.length) :
    (∀ j, j ≠ i → (M.put i f' h' L').fs.getD j Fr.zero = M.fs.getD j Fr.zero ∧ (M.put i f' h' L').hold.getD j 0 = M.hold.getD j 0 ∧ (ps.set i p').getD j (K.idle 0) = ps.getD j (K.idle 0)) ∧
    (M.put i f' h' L').fs.getD i Fr.zero = f' ∧ (M.put i f' h' L').hold.getD i 0 = h' ∧ (ps.set i p').getD i (K.idle 0) = p' := by
  refine ⟨fun j hj => ⟨getDset_ne (fun h => hj h.symm), getDset_ne (fun h => hj h.symm), getDset_ne (fun h => hj h.symm)⟩, ?_, ?_, ?_⟩
  · show (M.fs.set i f').getD i Fr.zero = f'
    rw [getDsetG hf, if_pos rfl]
  · show (M.hold.set i h').getD i 0 = h'
    rw [getDsetG hh, if_pos rfl]
  · rw [getDsetG hp, if_pos rfl]

end Go.Proofs.Ytlndihdlodempaa.Z
