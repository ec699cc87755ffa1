/- 6 texts of this claim, joined: what each shows stands at its own head. -/
import Derived.Test.YtmbbcgkfankiaaaZM02WfExcludes
import Derived.Test.YtmbbcgkfankiaaaZM00WfExcludes
/- Locks as tasks that wait for cells, and wake each other: steps of a wake-up, of one who sleeps; any step. No lock in sight. -/
set_option linter.unusedVariables false
set_option linter.unusedSimpArgs false
namespace Go.Proofs.Ytmbbcgkfankiaaa.Z
open Go.RowKit

section
variable {P : Type} {K : LockM P} {I : Nat → List P → (Nat → Int) → Prop} {n b : Nat} {M : Mt} {ps : List P} {N V C : Nat} {nw nv : P → Nat} {cp : (Nat → Int) → Nat → P → Nat} {i : Nat} {f : Fr} {h : Int} {p : P}

/-- A wake-up's step: what it leaves, where it is then, and whose permit it gives. -/
theorem wake_goes {L : List Int} {k : Wk} (h1 : 1 ≤ n) (h2 : n ≤ 64) (hl : L.length = 8 + 4 * n) (hk : k.on = true) (h0 : 0 ≤ k.i) (hi : k.i < n) (hc : 0 ≤ k.cell) {k' : Wk} {L' : List Int} (e1 : (wakeA L n k).1 = k') (e2 : (wakeA L n k).2.2 = L') :
    (k' = Wk.zero ∨ (k'.on = true ∧ 0 ≤ k'.i ∧ k'.i < n ∧ 0 ≤ k'.cell)) ∧ L'.length = 8 + 4 * n ∧ mainOf n L' = mainOf n L ∧ (∀ j, j < n → L'.getD (8 + 2 * n + j) 0 = L.getD (8 + 2 * n + j) 0) ∧
    (∀ j, j < n → L.getD (8 + 3 * n + j) 0 ≠ 0 → L'.getD (8 + 3 * n + j) 0 ≠ 0) ∧ (∀ f : Fr, leftF n { f with wk := k' } + 1 ≤ leftF n { f with wk := k }) ∧
    (∀ j, j < n → k.i ≤ j → L.getD (8 + 2 * n + j) 0 = (k.cell + 1) % 4294967296 → L'.getD (8 + 3 * n + j) 0 ≠ 0 ∨ (k'.on = true ∧ k'.cell = k.cell ∧ k'.i ≤ j)) := by
  rw [wake_is h1 h2 hl hk h0 hi] at e1 e2
  have hnx : nextA n k = Wk.zero ∨ ((nextA n k).on = true ∧ 0 ≤ (nextA n k).i ∧ (nextA n k).i < n ∧ 0 ≤ (nextA n k).cell) := by
    unfold nextA
    split
    · exact Or.inl rfl
    · exact Or.inr ⟨hk, by simp; omega, by simp; omega, hc⟩
  have hpass : ∀ j : Nat, j < n → k.i < j → (nextA n k).on = true ∧ (nextA n k).cell = k.cell ∧ (nextA n k).i ≤ j := by
    intro j hj hlt
    unfold nextA
    rw [if_neg (by omega)]
    exact ⟨hk, rfl, by simp; omega⟩
  by_cases hh : k.hit = true
  · rw [if_pos hh] at e1 e2
    simp only at e1 e2
    subst e1 e2
    refine ⟨hnx, by simpa using hl, main_far (by omega), fun j hj => getDset_ne (by omega), fun j hj hne => ?_, fun f => left_next hk h0 hi, fun j hj hle hwt => ?_⟩
    · rw [getDset]; split; decide; exact hne
    · by_cases e : k.i.toNat = j
      · left; rw [getDset, if_pos (by omega)]; decide
      · right; exact hpass j hj (by omega)
  · rw [if_neg hh] at e1 e2
    simp only at e1 e2
    subst e2
    by_cases hm : L.getD (8 + 2 * n + k.i.toNat) 0 = (k.cell + 1) % 4294967296
    · rw [if_pos hm] at e1
      subst e1
      refine ⟨Or.inr ⟨rfl, h0, hi, hc⟩, hl, rfl, fun _ _ => rfl, fun _ _ h => h, fun f => ?_, fun j hj hle hwt => Or.inr ⟨rfl, rfl, hle⟩⟩
      unfold leftF
      simp [hk, hh]
      omega
    · rw [if_neg hm] at e1
      subst e1
      refine ⟨hnx, hl, rfl, fun _ _ => rfl, fun _ _ h => h, fun f => left_next hk h0 hi, fun j hj hle hwt => ?_⟩
      by_cases e : k.i.toNat = j
      · subst e; exact absurd hwt hm
      · right; exact hpass j hj (by omega)

theorem left_pos {k : Wk} {f : Fr} (hk : k.on = true) (h0 : 0 ≤ k.i) (hi : k.i < n) (e : f.wk = k) : 0 < leftF n f := by
  unfold leftF
  rw [e, if_pos hk]
  split <;> omega

/-- A step of a wake-up, whosever. -/
theorem goes_waking (G : K.Good n M.mode) (Kp : K.Keeps n I) (h1 : 1 ≤ n) (h2 : n ≤ 64) (H : MI K I n (b + 1) M ps) (hi : i < n) (hm : M.mode = 2)
    (hf : M.fs.getD i Fr.zero = f) (hh : M.hold.getD i 0 = h) (hp : ps.getD i (K.idle 0) = p) (hk : f.wk.on = true) (h0 : 0 ≤ f.wk.i) (hlt : f.wk.i < n) (hc : 0 ≤ f.wk.cell) (hst : f.st = 0)
    (hend : f.ret ≠ 0 → AbsF K n M.mode i Fr.zero (behindA f.op f.ret h) p) (hmore : ∀ k' : Wk, (f.ret = 0 ∧ k' = Wk.zero) ∨ (k'.on = true ∧ 0 ≤ k'.i ∧ k'.i < n ∧ 0 ≤ k'.cell) → AbsF K n M.mode i { f with wk := k' } h p) :
    Goes K I n b nw nv cp M ps i f h := by
  have hfl := H.fsl
  have hhl := H.hol
  have hpl := H.psl
  have hnum := H.num
  obtain ⟨k', e1⟩ : ∃ k', (wakeA M.L n f.wk).1 = k' := ⟨_, rfl⟩
  obtain ⟨L', e2⟩ : ∃ L', (wakeA M.L n f.wk).2.2 = L' := ⟨_, rfl⟩
  obtain ⟨c1, c2, c3, c4, c5, c6, c7⟩ := wake_goes h1 h2 H.len hk h0 hlt hc e1 e2
  have hstep := goes_wake (g := K.g) (M := M) (i := i) (f := f) (h := h) hk
  rw [hnum, e1, e2] at hstep
  have hps : ps.set i p = ps := set_self (by omega) hp
  have main : ∀ f' h', AbsF K n M.mode i f' h' p → f'.st = 0 → f'.wk = k' → MI K I n b (M.put i f' h' L') ps ∧ Went K n nw nv cp M ps i (M.put i f' h' L') ps := by
    intro f' h' ha hs hw'
    constructor
    · rw [← hps]
      refine MI.put H G hi c2 ha (by rw [hps, c3]; exact Kp.weak _ _ _ H.inv) (fun c pr _ h => by omega) (fun j hj _ => c4 j hj) (fun c pr _ h => by omega) (fun j c pr hj hji hwt hs3 hpr => ?_)
      rw [c3] at hpr
      rcases H.woken j c pr hj hwt hs3 hpr with h3 | ⟨u, h3, h4, h5, h6⟩
      · exact Or.inl (c5 j hj h3)
      · by_cases e : u = i
        · subst e
          rw [hf] at h4 h5 h6
          have hwj := H.watch j c pr hj hwt (Or.inr hs3)
          rw [hw']
          rcases c7 j hj h6 (by rw [h5]; exact hwj) with h7 | ⟨h7, h8, h9⟩
          · exact Or.inl h7
          · exact Or.inr (Or.inl ⟨h7, by rw [h8, h5], h9⟩)
        · exact Or.inr (Or.inr ⟨u, h3, e, h4, h5, h6⟩)
    · obtain ⟨o1, o2, o3, o4⟩ := put_went (K := K) (f' := f') (h' := h') (p' := p) (L' := L') (M := M) (ps := ps) (i := i) (by omega) (by omega) (by omega)
      refine ⟨⟨rfl, rfl⟩, fun j hj => ⟨(o1 j hj).1, (o1 j hj).2.1, rfl⟩, Or.inl ?_⟩
      rw [o2, hf]
      refine ⟨left_pos hk h0 hlt rfl, ?_, rfl, c3⟩
      have := c6 f
      have e3 : leftF n f' = leftF n { f with wk := k' } := by unfold leftF; rw [hw']
      rw [e3]
      exact this
  unfold Goes
  rw [hstep]
  by_cases hb : f.ret ≠ 0 ∧ k'.on = false
  · rw [if_pos hb]
    have hz : k' = Wk.zero := by
      rcases c1 with h3 | h3
      · exact h3
      · rw [hb.2] at h3; cases h3.1
    exact ⟨ps, main _ _ (hend hb.1) rfl hz.symm⟩
  · rw [if_neg hb]
    refine ⟨ps, main _ _ (hmore k' ?_) hst rfl⟩
    rcases c1 with h3 | h3
    · left
      refine ⟨?_, h3⟩
      rcases Decidable.em (f.ret = 0) with h4 | h4
      · exact h4
      · exact absurd ⟨h4, by rw [h3]; rfl⟩ hb
    · exact Or.inr h3

/-- Of one who waits and is parked. -/
theorem goes_staged (G : K.Good n M.mode) (Kp : K.Keeps n I) (Lv : K.Live n I N V C nw nv cp) (h1 : 1 ≤ n) (h2 : n ≤ 64) (H : MI K I n (b + 1) M ps) (hi : i < n) {c : Nat} {pr : Int → Bool} {st : Int} (hm : M.mode = 2) (hok : K.ok p) (hw : K.wait i p = some (c, pr)) (hst : st = 1 ∨ st = 2 ∨ st = 3)
    (hf : M.fs.getD i Fr.zero = { (K.conc p).1 with st := st }) (hh : M.hold.getD i 0 = (K.conc p).2) (hp : ps.getD i (K.idle 0) = p) : Goes K I n b nw nv cp M ps i { (K.conc p).1 with st := st } (K.conc p).2 := by
  obtain ⟨q1, q2, q3⟩ := G.plain p
  have hop := G.wait_op i p c pr hw
  have hfl := H.fsl
  have hhl := H.hol
  have hpl := H.psl
  have hsees := Kp.sees _ ps _ i c pr H.inv hi hpl
  rw [hp] at hsees
  have hsees := hsees hw
  have hc := G.wait_lt i p c pr hok hi hw
  obtain ⟨s1, s2, s3⟩ := G.wait_step p i c pr st (M.run i { (K.conc p).1 with st := st }) hok hi hw (by omega) (by omega) H.num rfl rfl rfl H.len
  rw [show (M.run i { (K.conc p).1 with st := st }).L = M.L from rfl] at s1 s2 s3
  have hl0 : ∀ s : Int, leftF n { (K.conc p).1 with st := s } = 0 := fun s => left_zero q2
  have hps : ps.set i p = ps := set_self (by omega) hp
  have hoff : (M.fs.getD i Fr.zero).wk.on = false := by rw [hf]; show (K.conc p).1.wk.on = false; rw [q2]; rfl
  have hinv : I b (ps.set i p) (mainOf n M.L) := by rw [hps]; exact Kp.weak _ _ _ H.inv
  have hno : ∀ s' : Rn, s'.f.ret = 0 → s'.over = false := fun s' e => by unfold Rn.over; rw [e]; rfl
  unfold Goes
  rw [hm] at s1 s2 s3
  rcases hst with rfl | rfl | rfl
  · -- announce
    obtain ⟨a, ha⟩ := look1 (c := c) (pr := pr) h1 h2 hi H.len
    rw [ha] at s1 s3
    have s4 := s3 rfl
    simp only [Bool.false_eq_true, if_false] at s1 s4
    have hstep : M.goes K.g i { (K.conc p).1 with st := 1 } (K.conc p).2 = _ := goes_step (by show (K.conc p).1.wk.on = false; rw [q2]; rfl) (stuck_not (by show stageA M.mode 1 ≠ 3; rw [stage_at hm (by omega) (by omega)]; decide))
    rw [hno _ (by rw [s4]; exact q3)] at hstep
    simp only [Bool.false_eq_true, if_false] at hstep
    rw [hstep, s1, s4]
    have hmf : mainOf n (M.L.set (8 + 2 * n + i) (((c : Int) + 1) % 4294967296)) = mainOf n M.L := main_far (by omega)
    refine ⟨ps.set i p, MI.put H G hi (by simpa using H.len) (AbsF.staged p c pr 2 hm hok hw (by simp)) (by rw [hmf]; exact hinv) (fun c2 pr2 hw2 _ => ?_) (fun j hj hji => getDset_ne (by omega)) (fun c pr _ hs => by simp at hs) (MI.others H hoff hmf (fun j hj hji => getDset_ne (by omega)) _), ?_⟩
    · rw [hw] at hw2
      obtain ⟨rfl, rfl⟩ := Prod.mk.inj (Option.some.inj hw2)
      have := H.len
      rw [getDset, if_pos ⟨rfl, by omega⟩]
    · obtain ⟨o1, o2, o3, o4⟩ := put_went (K := K) (f' := { (K.conc p).1 with st := 2 }) (h' := (K.conc p).2) (p' := p) (L' := M.L.set (8 + 2 * n + i) (((c : Int) + 1) % 4294967296)) (M := M) (ps := ps) (i := i) (by omega) (by omega) (by omega)
      refine ⟨⟨rfl, rfl⟩, o1, Or.inr (Or.inr ?_)⟩
      rw [o2, o4, hf, hp]
      refine ⟨hl0 1, hl0 2, hmf, Nat.le_refl _, Nat.le_refl _, fun j hj hji => getDset_ne (by omega), Or.inl ?_⟩
      show potF K cp (mainOf n M.L) M.mode i { (K.conc p).1 with st := 2 } p ((M.L.set (8 + 2 * n + i) (((c : Int) + 1) % 4294967296)).getD (8 + 3 * n + i) 0) + 1 ≤ _
      rw [getDset_ne (by omega)]
      unfold potF
      rw [hw]
      cases hpr : pr (mainOf n M.L c) <;> simp [hpr, hm] <;> omega
  · -- look again
    rw [look2 H.len hc] at s1 s3
    simp only at s1 s3
    have s4 := s3 trivial
    have hstep : M.goes K.g i { (K.conc p).1 with st := 2 } (K.conc p).2 = _ := goes_step (by show (K.conc p).1.wk.on = false; rw [q2]; rfl) (stuck_not (by show stageA M.mode 2 ≠ 3; rw [stage_at hm (by omega) (by omega)]; decide))
    cases hpr : pr (mainOf n M.L c) with
    | true =>
      rw [hpr] at s4
      simp only [if_true] at s4
      rw [hno _ (by rw [s4]; exact q3)] at hstep
      simp only [Bool.false_eq_true, if_false] at hstep
      rw [hstep, s1, s4]
      refine ⟨ps.set i (K.post p (mainOf n M.L c)), MI.put H G hi H.len (AbsF.seen p c pr (mainOf n M.L c) hm hok hw hpr) (hsees hpr) (fun c pr _ hs => by simp at hs) (fun j hj _ => rfl) (fun c pr _ hs => by simp at hs) (MI.others H hoff rfl (fun _ _ _ => rfl) _), ?_⟩
      obtain ⟨o1, o2, o3, o4⟩ := put_went (K := K) (f' := { (K.conc p).1 with a := K.keep p (mainOf n M.L c), st := 4 }) (h' := (K.conc p).2) (p' := K.post p (mainOf n M.L c)) (L' := M.L) (M := M) (ps := ps) (i := i) (by omega) (by omega) (by omega)
      refine ⟨⟨rfl, rfl⟩, o1, Or.inr (Or.inr ?_)⟩
      rw [o2, o4, hf, hp]
      obtain ⟨g1, g2⟩ := Lv.post_w i p c pr (mainOf n M.L c) hw
      refine ⟨hl0 2, left_zero q2, rfl, g1, g2, fun _ _ _ => rfl, Or.inl ?_⟩
      have h6 := Lv.wait_yes (mainOf n M.L) i p c pr hw hpr
      unfold potF
      rw [hw]
      simp only [if_true, hpr]
      simp
      omega
    | false =>
      rw [hpr] at s4
      simp only [Bool.false_eq_true, if_false] at s4
      rw [hno _ (by rw [s4]; exact q3)] at hstep
      simp only [Bool.false_eq_true, if_false] at hstep
      rw [hstep, s1, s4]
      refine ⟨ps.set i p, MI.put H G hi H.len (AbsF.staged p c pr 3 hm hok hw (by simp)) hinv (fun c2 pr2 hw2 _ => ?_) (fun j hj _ => rfl) (fun c2 pr2 hw2 _ => ?_) (MI.others H hoff rfl (fun _ _ _ => rfl) _), ?_⟩
      · rw [← hp] at hw2
        exact H.watch i c2 pr2 hi hw2 (by rw [hf]; simp)
      · rw [hw] at hw2
        obtain ⟨rfl, rfl⟩ := Prod.mk.inj (Option.some.inj hw2)
        exact hpr
      · obtain ⟨o1, o2, o3, o4⟩ := put_went (K := K) (f' := { (K.conc p).1 with st := 3 }) (h' := (K.conc p).2) (p' := p) (L' := M.L) (M := M) (ps := ps) (i := i) (by omega) (by omega) (by omega)
        refine ⟨⟨rfl, rfl⟩, o1, Or.inr (Or.inr ?_)⟩
        rw [o2, o4, hf, hp]
        refine ⟨hl0 2, hl0 3, rfl, Nat.le_refl _, Nat.le_refl _, fun _ _ _ => rfl, Or.inl ?_⟩
        show potF K cp (mainOf n M.L) M.mode i { (K.conc p).1 with st := 3 } p (M.L.getD (8 + 3 * n + i) 0) + 1 ≤ _
        unfold potF
        rw [hw]
        simp [hpr, hm]
        omega
  · -- sleep
    by_cases hq : M.L.getD (8 + 3 * n + i) 0 = 0
    · have hstep : M.goes K.g i { (K.conc p).1 with st := 3 } (K.conc p).2 = _ := goes_stuck (by show (K.conc p).1.wk.on = false; rw [q2]; rfl) (by
        show stuckA M.L M.n M.mode i 3 = true
        unfold stuckA
        rw [stage_at hm (by omega) (by omega), H.num, there_is_ h1 h2 hi H.len, hq]
        rfl)
      have hsame : M.put i { (K.conc p).1 with st := 3 } (K.conc p).2 M.L = M := by
        rw [← hf, ← hh]
        exact put_same (by omega) (by omega)
      rw [hstep, hsame]
      refine ⟨ps, H.weaken Kp, ⟨rfl, rfl⟩, fun j _ => ⟨rfl, rfl, rfl⟩, Or.inr (Or.inr ?_)⟩
      rw [hf]
      refine ⟨hl0 3, hl0 3, rfl, Nat.le_refl _, Nat.le_refl _, fun _ _ _ => rfl, Or.inr ?_⟩
      cases hpr : pr (mainOf n M.L c) with
      | false =>
        left
        have hpp : potF K cp (mainOf n M.L) M.mode i { (K.conc p).1 with st := 3 } (ps.getD i (K.idle 0)) (M.L.getD (8 + 3 * n + i) 0) = 0 := by
          unfold potF
          rw [hp, hw, hq]
          simp [hpr, hm]
        exact ⟨hpp, hpp⟩
      | true =>
        right
        rcases H.woken i c pr hi (by rw [hp]; exact hw) (by rw [hf]) hpr with h3 | ⟨u, h3, h4, h5⟩
        · exact absurd hq h3
        · exact ⟨u, h3, h4⟩
    · obtain ⟨a, ha⟩ := look3 (c := c) (pr := pr) h1 h2 hi H.len hq
      rw [ha] at s1 s3
      have s4 := s3 rfl
      simp only [Bool.false_eq_true, if_false] at s1 s4
      have hstep : M.goes K.g i { (K.conc p).1 with st := 3 } (K.conc p).2 = _ := goes_step (by show (K.conc p).1.wk.on = false; rw [q2]; rfl) (by
        show stuckA M.L M.n M.mode i 3 = false
        unfold stuckA
        rw [H.num, there_is_ h1 h2 hi H.len]
        have : (M.L.getD (8 + 3 * n + i) 0 != 0) = true := by simpa using hq
        rw [this]
        simp)
      rw [hno _ (by rw [s4]; exact q3)] at hstep
      simp only [Bool.false_eq_true, if_false] at hstep
      rw [hstep, s1, s4]
      have hmf : mainOf n (M.L.set (8 + 3 * n + i) 0) = mainOf n M.L := main_far (by omega)
      have hlen := H.len
      refine ⟨ps.set i p, MI.put H G hi (by simpa using H.len) (AbsF.staged p c pr 2 hm hok hw (by simp)) (by rw [hmf]; exact hinv) (fun c2 pr2 hw2 _ => ?_) (fun j hj hji => getDset_ne (by omega)) (fun c pr _ hs => by simp at hs) (MI.others H hoff hmf (fun j hj hji => getDset_ne (by omega)) _), ?_⟩
      · rw [← hp] at hw2
        rw [getDset_ne (by omega)]
        exact H.watch i c2 pr2 hi hw2 (by rw [hf]; simp)
      · obtain ⟨o1, o2, o3, o4⟩ := put_went (K := K) (f' := { (K.conc p).1 with st := 2 }) (h' := (K.conc p).2) (p' := p) (L' := M.L.set (8 + 3 * n + i) 0) (M := M) (ps := ps) (i := i) (by omega) (by omega) (by omega)
        refine ⟨⟨rfl, rfl⟩, o1, Or.inr (Or.inr ?_)⟩
        rw [o2, o4, hf, hp]
        refine ⟨hl0 3, hl0 2, hmf, Nat.le_refl _, Nat.le_refl _, fun j hj hji => getDset_ne (by omega), Or.inl ?_⟩
        show potF K cp (mainOf n M.L) M.mode i { (K.conc p).1 with st := 2 } p ((M.L.set (8 + 3 * n + i) 0).getD (8 + 3 * n + i) 0) + 1 ≤ _
        rw [getDset, if_pos ⟨rfl, by omega⟩]
        unfold potF
        rw [hw]
        cases hpr : pr (mainOf n M.L c) with
        | true => simp [hpr, hm]; omega
        | false =>
          have hq2 : ¬ M.L[8 + 3 * n + i]?.getD 0 = 0 := by rw [← List.getD_eq_getElem?_getD]; exact hq
          simp [hpr, hm, hq2]

/-- Of one who has seen it, and forgets. -/
theorem goes_seen (G : K.Good n M.mode) (Kp : K.Keeps n I) (Lv : K.Live n I N V C nw nv cp) (h1 : 1 ≤ n) (h2 : n ≤ 64) (H : MI K I n (b + 1) M ps) (hi : i < n) {q : P} {c : Nat} {pr : Int → Bool} {v : Int} (hm : M.mode = 2) (hok : K.ok q) (hw : K.wait i q = some (c, pr)) (hpr : pr v = true)
    (hf : M.fs.getD i Fr.zero = { (K.conc q).1 with a := K.keep q v, st := 4 }) (hh : M.hold.getD i 0 = (K.conc q).2) (hp : ps.getD i (K.idle 0) = K.post q v) : Goes K I n b nw nv cp M ps i { (K.conc q).1 with a := K.keep q v, st := 4 } (K.conc q).2 := by
  obtain ⟨q1, q2, q3⟩ := G.plain q
  have hop := G.wait_op i q c pr hw
  have hfl := H.fsl
  have hhl := H.hol
  have hpl := H.psl
  have hh2 : (K.conc q).2 ≠ 2 := fun e => hop (by rw [G.two q e, G.idle_conc]; rfl)
  obtain ⟨s1, s2, s3, s4, s5⟩ := G.wait_last q i c pr v (M.run i { (K.conc q).1 with a := K.keep q v, st := 4 }) hok hi hm hw hpr H.num rfl rfl rfl H.len
  rw [show (M.run i { (K.conc q).1 with a := K.keep q v, st := 4 }).L = M.L from rfl, hm, look4 h1 h2 hi H.len] at s1
  have hoff : (M.fs.getD i Fr.zero).wk.on = false := by rw [hf]; show (K.conc q).1.wk.on = false; rw [q2]; rfl
  have hstep : M.goes K.g i { (K.conc q).1 with a := K.keep q v, st := 4 } (K.conc q).2 = _ := goes_step (by show (K.conc q).1.wk.on = false; rw [q2]; rfl) (stuck_not (by show stageA M.mode 4 ≠ 3; rw [stage_at hm (by omega) (by omega)]; decide))
  obtain ⟨f', h', e1, e2, e3, e4⟩ := after_abs (t := i) (w := none) (Or.inr hm) G h1 s2 s3 s4 s5 hh2
  rw [put_if e1] at hstep
  unfold Goes
  rw [hstep, s1]
  have hmf : mainOf n (M.L.set (8 + 2 * n + i) 0) = mainOf n M.L := main_far (by omega)
  have hps : ps.set i (K.post q v) = ps := set_self (by omega) hp
  refine ⟨ps.set i (K.post q v), MI.put H G hi (by simpa using H.len) e2 (by rw [hmf, hps]; exact Kp.weak _ _ _ H.inv) (fun c pr _ hs => by omega) (fun j hj hji => getDset_ne (by omega)) (fun c pr _ hs => by omega) (MI.others H hoff hmf (fun j hj hji => getDset_ne (by omega)) f'), ?_⟩
  obtain ⟨o1, o2, o3, o4⟩ := put_went (K := K) (f' := f') (h' := h') (p' := K.post q v) (L' := M.L.set (8 + 2 * n + i) 0) (M := M) (ps := ps) (i := i) (by omega) (by omega) (by omega)
  refine ⟨⟨rfl, rfl⟩, o1, Or.inr (Or.inr ?_)⟩
  rw [o2, o4, hf, hp]
  refine ⟨left_zero q2, left_zero e4, hmf, Nat.le_refl _, Nat.le_refl _, fun j hj hji => getDset_ne (by omega), Or.inl ?_⟩
  have h5 := potF_plain Lv (m := mainOf n M.L) (mode := M.mode) (t := i) (f := f') (p := K.post q v) (q := (M.L.set (8 + 2 * n + i) 0).getD (8 + 3 * n + i) 0) e3
  have h6 : potF K cp (mainOf n M.L) M.mode i { (K.conc q).1 with a := K.keep q v, st := 4 } (K.post q v) (M.L.getD (8 + 3 * n + i) 0) = 1 + cp (mainOf n M.L) i (K.post q v) := by
    unfold potF
    rw [if_pos rfl]
  rw [h6]
  exact Nat.le_trans (Nat.succ_le_succ h5) (by omega)

/-- ANY STEP of a task that is with an operation. -/
theorem goes_any (G : K.Good n M.mode) (Kp : K.Keeps n I) (Lv : K.Live n I N V C nw nv cp) (h1 : 1 ≤ n) (h2 : n ≤ 64) (hm : M.mode = 1 ∨ M.mode = 2) (H : MI K I n (b + 1) M ps) (hi : i < n) (hop : (M.fs.getD i Fr.zero).op ≠ 0) :
    Goes K I n b nw nv cp M ps i (M.fs.getD i Fr.zero) (M.hold.getD i 0) := by
  have ha := H.abs i hi
  obtain ⟨f, hf⟩ : ∃ f, M.fs.getD i Fr.zero = f := ⟨_, rfl⟩
  obtain ⟨h, hh⟩ : ∃ h, M.hold.getD i 0 = h := ⟨_, rfl⟩
  obtain ⟨p, hp⟩ : ∃ p, ps.getD i (K.idle 0) = p := ⟨_, rfl⟩
  rw [hf] at hop
  rw [hf, hh]
  rw [hf, hh, hp] at ha
  cases ha with
  | plain =>
    cases hw : K.wait i p with
    | none => exact goes_act G Kp Lv h1 hm H hi hf hh hp hop hw
    | some x => obtain ⟨c, pr⟩ := x; exact goes_look G Kp Lv h1 hm H hi hf hh hp hw
  | waking _ k hm2 hk h0 hlt hc hop2 =>
    obtain ⟨q1, q2, q3⟩ := G.plain p
    refine goes_waking G Kp h1 h2 H hi hm2 hf hh hp hk h0 hlt hc q1 (fun hr => absurd q3 hr) (fun k' hk' => ?_)
    rcases hk' with ⟨_, rfl⟩ | ⟨g1, g2, g3, g4⟩
    · have e : ({ { (K.conc p).1 with wk := k } with wk := Wk.zero } : Fr) = (K.conc p).1 := by
        show ({ (K.conc p).1 with wk := Wk.zero } : Fr) = _
        rw [← q2]
      rw [e]
      exact AbsF.plain p
    · exact AbsF.waking p k' hm2 g1 g2 g3 g4 hop2
  | staged _ c pr st hm2 hok hw hst => exact goes_staged G Kp Lv h1 h2 H hi hm2 hok hw hst hf hh hp
  | seen q c pr v hm2 hok hw hpr => exact goes_seen G Kp Lv h1 h2 H hi hm2 hok hw hpr hf hh hp
  | over _ _ hm2 hk h0 hlt hc hop2 hr hst hh2 =>
    refine goes_waking G Kp h1 h2 H hi hm2 hf hh hp hk h0 hlt hc hst (fun _ => ?_) (fun k' hk' => ?_)
    · have := AbsF.plain (K := K) (n := n) (mode := M.mode) (t := i) (K.idle (behindA f.op f.ret h))
      rw [G.idle_conc] at this
      exact this
    · rcases hk' with ⟨h3, _⟩ | ⟨g1, g2, g3, g4⟩
      · exact absurd h3 hr
      · exact AbsF.over { f with wk := k' } h hm2 g1 g2 g3 g4 hop2 hr hst hh2
end
end Go.Proofs.Ytmbbcgkfankiaaa.Z

/- Locks as tasks that wait for cells, and wake each other: picks, rounds; all come to rest. No lock in sight. -/
set_option linter.unusedVariables false
set_option linter.unusedSimpArgs false
namespace Go.Proofs.Ytmbbcgkfankiaaa.Z
open Go.RowKit

/-- A sum, a greatest one, over the first numbers. -/
def sm : Nat → (Nat → Nat) → Nat
  | 0, _ => 0
  | n + 1, f => sm n f + f n
def mx : Nat → (Nat → Nat) → Nat
  | 0, _ => 0
  | n + 1, f => max (mx n f) (f n)
theorem sm_le {f g : Nat → Nat} : ∀ n, (∀ j, j < n → f j ≤ g j) → sm n f ≤ sm n g
  | 0, _ => Nat.le_refl _
  | n + 1, h => by
    have := sm_le n (fun j hj => h j (by omega))
    have := h n (by omega)
    unfold sm
    omega
theorem sm_same {f g : Nat → Nat} : ∀ n, (∀ j, j < n → f j = g j) → sm n f = sm n g
  | 0, _ => rfl
  | n + 1, h => by
    have := sm_same n (fun j hj => h j (by omega))
    have := h n (by omega)
    unfold sm
    omega
theorem sm_one {f g : Nat → Nat} {i : Nat} : ∀ n, i < n → (∀ j, j < n → j ≠ i → f j = g j) → sm n f + g i = sm n g + f i
  | 0, h, _ => by omega
  | n + 1, h, hh => by
    unfold sm
    by_cases e : i = n
    · subst e
      have := sm_same (f := f) (g := g) i (fun j hj => hh j (by omega) (by omega))
      omega
    · have := sm_one n (by omega) (fun j hj hji => hh j (by omega) hji)
      have := hh n (by omega) (fun h => e h.symm)
      omega
theorem sm_const (n c : Nat) : sm n (fun _ => c) = n * c := by
  induction n with
  | zero => simp [sm]
  | succ n ih => unfold sm; rw [ih, Nat.succ_mul]
theorem mx_le {f : Nat → Nat} {b : Nat} : ∀ n, (∀ j, j < n → f j ≤ b) → mx n f ≤ b
  | 0, _ => Nat.zero_le _
  | n + 1, h => by
    have := mx_le n (fun j hj => h j (by omega))
    have := h n (by omega)
    unfold mx
    omega
theorem le_mx {f : Nat → Nat} {j : Nat} : ∀ n, j < n → f j ≤ mx n f
  | 0, h => by omega
  | n + 1, h => by
    unfold mx
    by_cases e : j = n
    · subst e; omega
    · have := le_mx (f := f) (j := j) n (by omega)
      omega

section
variable {P : Type} {K : LockM P} {I : Nat → List P → (Nat → Int) → Prop} {n b : Nat} {M : Mt} {ps : List P} {N V C : Nat} {nw nv : P → Nat} {cp : (Nat → Int) → Nat → P → Nat} {i : Nat} {f : Fr} {h : Int} {p : P}

theorem goes_put {g : Rn → Rn} {M : Mt} {i : Nat} {f f0 : Fr} {h h0 : Int} : (M.put i f0 h0 M.L).goes g i f h = M.goes g i f h := by
  unfold Mt.goes
  simp only [put_put]
  rfl
theorem AbsF.idle (G : K.Good n M.mode) {t : Nat} (H : AbsF K n M.mode t f h p) (hop : f.op = 0) : f = Fr.zero ∧ p = K.idle h := by
  cases H with
  | plain =>
    have e := G.idle_only p hop
    refine ⟨?_, e⟩
    rw [e, G.idle_conc]
  | waking _ k _ _ _ _ _ h9 => exact absurd hop h9
  | staged _ c pr st _ _ hw _ => exact absurd hop (G.wait_op t p c pr hw)
  | seen q c pr v _ _ hw _ => exact absurd hop (G.wait_op t q c pr hw)
  | over _ _ _ _ _ _ _ h9 => exact absurd hop h9
theorem AbsF.holds (G : K.Good n M.mode) {t : Nat} (H : AbsF K n M.mode t f h p) : (h ≠ 0 → (K.conc p).2 ≠ 0) ∧ (h = 2 → p = K.idle 2) := by
  cases H with
  | plain => exact ⟨fun h => h, fun h => G.two p h⟩
  | waking _ k _ _ _ _ _ h9 => exact ⟨fun h => h, fun h => G.two p h⟩
  | staged _ c pr st _ _ hw _ => exact ⟨fun h => h, fun h => G.two p h⟩
  | seen q c pr v _ _ hw _ =>
    refine ⟨fun h => G.post_hold t q c pr v hw h, fun h => ?_⟩
    have := G.two q h
    have h9 := G.wait_op t q c pr hw
    rw [this, G.idle_conc] at h9
    exact absurd rfl h9
  | over _ _ _ _ _ _ _ h9 h8 h7 h6 =>
    refine ⟨fun hh => ?_, fun hh => absurd hh h6⟩
    rw [G.idle_conc]
    show behindA f.op f.ret h ≠ 0
    unfold behindA
    repeat' split
    all_goals first | exact hh | decide

/-- An operation that begins. -/
theorem MI.begins (G : K.Good n M.mode) (Kp : K.Keeps n I) (H : MI K I n (b + 1) M ps) (hi : i < n) (hop : (M.fs.getD i Fr.zero).op = 0) {op : Int} (hmay : mayB op (M.hold.getD i 0) = true) :
    MI K I n b (M.put i (frOp op) (fromA op (M.hold.getD i 0)) M.L) (ps.set i (K.start op (M.hold.getD i 0))) := by
  obtain ⟨e1, e2⟩ := (H.abs i hi).idle G hop
  have hb := Kp.begins _ ps _ i op (M.hold.getD i 0) H.inv hi H.psl e2 hmay
  have ha := AbsF.plain (K := K) (n := n) (mode := M.mode) (t := i) (K.start op (M.hold.getD i 0))
  rw [G.start_conc op _ hmay] at ha
  exact MI.put H G hi H.len ha hb (fun c pr _ hs => by simp [frOp] at hs) (fun _ _ _ => rfl) (fun c pr _ hs => by simp [frOp] at hs) (MI.others H (by rw [e1]; rfl) rfl (fun _ _ _ => rfl) _)

/-- ANY PICK keeps what holds. -/
theorem play_keeps (G : K.Good n M.mode) (Kp : K.Keeps n I) (Lv : K.Live n I N V C nw nv cp) (h1 : 1 ≤ n) (h2 : n ≤ 64) (hm : M.mode = 1 ∨ M.mode = 2) (H : MI K I n (b + 2) M ps) (hi : i < n) (op : Int) :
    ∃ ps', MI K I n b (M.play K.g i op) ps' := by
  unfold Mt.play
  by_cases hop : (M.fs.getD i Fr.zero).op = 0
  · rw [if_pos hop]
    by_cases hmay : mayB op (M.hold.getD i 0) = true
    · rw [if_pos hmay, ← goes_put (f0 := frOp op) (h0 := fromA op (M.hold.getD i 0))]
      have H0 := H.begins G Kp hi hop hmay
      have hne : op ≠ 0 := by
        rintro rfl
        unfold mayB at hmay
        repeat' split at hmay
        all_goals simp at hmay
      obtain ⟨o1, o2, o3, o4⟩ := put_went (K := K) (f' := frOp op) (h' := fromA op (M.hold.getD i 0)) (p' := K.start op (M.hold.getD i 0)) (L' := M.L) (M := M) (ps := ps) (i := i) (by have := H.fsl; omega) (by have := H.hol; omega) (by have := H.psl; omega)
      obtain ⟨ps', h3, _⟩ := goes_any (M := M.put i (frOp op) (fromA op (M.hold.getD i 0)) M.L) G Kp Lv h1 h2 hm H0 hi (by rw [o2]; exact hne)
      rw [o2, o3] at h3
      exact ⟨ps', h3⟩
    · rw [if_neg hmay]
      exact ⟨ps, (H.weaken Kp).weaken Kp⟩
  · rw [if_neg hop]
    obtain ⟨ps', h3, _⟩ := goes_any G Kp Lv h1 h2 hm (H.weaken Kp) hi hop
    exact ⟨ps', h3⟩

def potM (K : LockM P) (cp : (Nat → Int) → Nat → P → Nat) (n : Nat) (M : Mt) (ps : List P) (j : Nat) : Nat := potF K cp (mainOf n M.L) M.mode j (M.fs.getD j Fr.zero) (ps.getD j (K.idle 0)) (M.L.getD (8 + 3 * n + j) 0)
def leftM (n : Nat) (M : Mt) (j : Nat) : Nat := leftF n (M.fs.getD j Fr.zero)
def aM (K : LockM P) (n C : Nat) (nw nv : P → Nat) (ps : List P) : Nat := sm n (fun j => (C + 1) * nw (ps.getD j (K.idle 0)) + 2 * n * nv (ps.getD j (K.idle 0)))
def bM (n : Nat) (M : Mt) : Nat := mx n (leftM n M)
def dM (K : LockM P) (cp : (Nat → Int) → Nat → P → Nat) (n C : Nat) (M : Mt) (ps : List P) : Nat := if 0 < bM n M then C else mx n (potM K cp n M ps)
/-- What is left to do at most. -/
def phi (K : LockM P) (nw nv : P → Nat) (cp : (Nat → Int) → Nat → P → Nat) (n C : Nat) (M : Mt) (ps : List P) : Nat := aM K n C nw nv ps + bM n M + dM K cp n C M ps

/-- A pick in a round: who holds gives back. -/
theorem play_went (G : K.Good n M.mode) (Kp : K.Keeps n I) (Lv : K.Live n I N V C nw nv cp) (hholds : ∀ b ps m i h, I b ps m → i < n → ps.length = n → ps.getD i (K.idle 0) = K.idle h → h = 0 ∨ h = 1 ∨ h = 2)
    (hiw : ∀ t h, K.wait t (K.idle h) = none) (h1 : 1 ≤ n) (h2 : n ≤ 64) (hm : M.mode = 1 ∨ M.mode = 2) (H : MI K I n (b + 2) M ps) (hi : i < n) :
    ∃ ps', MI K I n b (M.play K.g i (2 * M.hold.getD i 0)) ps' ∧ Went K n nw nv cp M ps i (M.play K.g i (2 * M.hold.getD i 0)) ps' := by
  unfold Mt.play
  by_cases hop : (M.fs.getD i Fr.zero).op = 0
  · rw [if_pos hop]
    obtain ⟨e1, e2⟩ := (H.abs i hi).idle G hop
    have hl0 : leftF n (M.fs.getD i Fr.zero) = 0 := by rw [e1]; rfl
    have hpot : potF K cp (mainOf n M.L) M.mode i (M.fs.getD i Fr.zero) (ps.getD i (K.idle 0)) (M.L.getD (8 + 3 * n + i) 0) = cp (mainOf n M.L) i (K.idle (M.hold.getD i 0)) := by
      unfold potF
      rw [e1, e2, hiw]
      rfl
    rcases hholds _ ps _ i _ H.inv hi H.psl e2 with h0 | h3
    · rw [if_neg (by rw [h0]; decide)]
      refine ⟨ps, (H.weaken Kp).weaken Kp, ⟨rfl, rfl⟩, fun j _ => ⟨rfl, rfl, rfl⟩, Or.inr (Or.inr ⟨hl0, hl0, rfl, Nat.le_refl _, Nat.le_refl _, fun _ _ _ => rfl, Or.inr (Or.inl ?_)⟩)⟩
      rw [hpot, h0, Lv.rests]
      exact ⟨rfl, rfl⟩
    · have hmay : mayB (2 * M.hold.getD i 0) (M.hold.getD i 0) = true := by rcases h3 with h | h <;> rw [h] <;> decide
      have hg := Lv.gives (mainOf n M.L) i (M.hold.getD i 0) h3
      have hsw := G.start_wait i _ _ hmay
      rw [if_pos hmay, ← goes_put (f0 := frOp (2 * M.hold.getD i 0)) (h0 := fromA (2 * M.hold.getD i 0) (M.hold.getD i 0))]
      have H0 := H.begins G Kp hi hop hmay
      obtain ⟨o1, o2, o3, o4⟩ := put_went (K := K) (f' := frOp (2 * M.hold.getD i 0)) (h' := fromA (2 * M.hold.getD i 0) (M.hold.getD i 0)) (p' := K.start (2 * M.hold.getD i 0) (M.hold.getD i 0)) (L' := M.L) (M := M) (ps := ps) (i := i) (by have := H.fsl; omega) (by have := H.hol; omega) (by have := H.psl; omega)
      obtain ⟨ps', h4, h5, h6, h7⟩ := goes_any (M := M.put i (frOp (2 * M.hold.getD i 0)) (fromA (2 * M.hold.getD i 0) (M.hold.getD i 0)) M.L) G Kp Lv h1 h2 hm H0 hi (by rw [o2]; show 2 * M.hold.getD i 0 ≠ 0; omega)
      rw [o2, o3] at h4 h5 h6 h7
      rw [o4] at h7
      refine ⟨ps', h4, ⟨h5.1.trans rfl, h5.2.trans rfl⟩, fun j hj => ?_, ?_⟩
      · obtain ⟨g1, g2, g3⟩ := h6 j hj
        obtain ⟨k1, k2, k3⟩ := o1 j hj
        exact ⟨g1.trans k1, g2.trans k2, g3.trans k3⟩
      · have hlz : leftF n (frOp (2 * M.hold.getD i 0)) = 0 := rfl
        have hpz : potF K cp (mainOf n M.L) M.mode i (frOp (2 * M.hold.getD i 0)) (K.start (2 * M.hold.getD i 0) (M.hold.getD i 0)) (M.L.getD (8 + 3 * n + i) 0) = cp (mainOf n M.L) i (K.start (2 * M.hold.getD i 0) (M.hold.getD i 0)) := by
          unfold potF
          rw [hsw]
          rfl
        rw [hpot, e2]
        rcases h7 with ⟨k1, _⟩ | ⟨k1, k2, k3⟩ | ⟨k1, k2, k3, k4, k5, k6, k7⟩
        · rw [hlz] at k1
          exact absurd k1 (by decide)
        · exact Or.inr (Or.inl ⟨hl0, by omega, by omega⟩)
        · refine Or.inr (Or.inr ⟨hl0, k2, k3, by omega, by omega, k6, ?_⟩)
          rcases k7 with k7 | ⟨k7, k8⟩ | ⟨j, k8, k9⟩
          · left
            have k7 : _ + 1 ≤ potF K cp (mainOf n M.L) M.mode i (frOp (2 * M.hold.getD i 0)) (K.start (2 * M.hold.getD i 0) (M.hold.getD i 0)) (M.L.getD (8 + 3 * n + i) 0) := k7
            rw [hpz] at k7
            exact Nat.le_trans k7 hg.2.2
          · have k7 : potF K cp (mainOf n M.L) M.mode i _ _ _ = 0 := k7
            rcases Nat.eq_zero_or_pos (cp (mainOf n M.L) i (K.idle (M.hold.getD i 0))) with hz | hz
            · exact Or.inr (Or.inl ⟨k7, hz⟩)
            · left
              rw [k7]
              exact hz
          · right; right
            by_cases e : j = i
            · subst e
              rw [o2] at k9
              cases k9
            · rw [(o1 j e).1] at k9
              exact ⟨j, k8, k9⟩
  · rw [if_neg hop]
    exact goes_any G Kp Lv h1 h2 hm (H.weaken Kp) hi hop

theorem pot_same (hn : ∀ {M' : Mt}, M'.mode = M.mode → True) {M' : Mt} {ps' : List P} {j : Nat} (e1 : M'.mode = M.mode) (e2 : mainOf n M'.L = mainOf n M.L) (e3 : M'.fs.getD j Fr.zero = M.fs.getD j Fr.zero) (e4 : ps'.getD j (K.idle 0) = ps.getD j (K.idle 0)) (e5 : M'.L.getD (8 + 3 * n + j) 0 = M.L.getD (8 + 3 * n + j) 0) :
    potM K cp n M' ps' j = potM K cp n M ps j := by
  unfold potM
  rw [e1, e2, e3, e4, e5]

/-- What a step does to what is left: a write lessens it; else each keeps its own. -/
theorem went_phi (Lv : K.Live n I N V C nw nv cp) (hi : i < n) {M' : Mt} {ps' : List P} (G' : AbsF K n M'.mode i (M'.fs.getD i Fr.zero) (M'.hold.getD i 0) (ps'.getD i (K.idle 0))) (hle : ∀ f : Fr, leftF n f ≤ 2 * n) (W : Went K n nw nv cp M ps i M' ps') :
    phi K nw nv cp n C M' ps' + 1 ≤ phi K nw nv cp n C M ps ∨
    (aM K n C nw nv ps' ≤ aM K n C nw nv ps ∧ (∀ j, j ≠ i → leftM n M' j = leftM n M j) ∧
      ((0 < leftM n M i ∧ leftM n M' i + 1 ≤ leftM n M i) ∨
       (leftM n M i = 0 ∧ leftM n M' i = 0 ∧ mainOf n M'.L = mainOf n M.L ∧ (∀ j, j < n → j ≠ i → potM K cp n M' ps' j = potM K cp n M ps j) ∧
         (potM K cp n M' ps' i + 1 ≤ potM K cp n M ps i ∨ (potM K cp n M' ps' i = 0 ∧ potM K cp n M ps i = 0) ∨ ∃ j, j < n ∧ (M.fs.getD j Fr.zero).wk.on = true)))) := by
  obtain ⟨⟨_, hmode⟩, hoth, hk⟩ := W
  have hlo : ∀ j, j ≠ i → leftM n M' j = leftM n M j := fun j hj => by unfold leftM; rw [(hoth j hj).1]
  have hone : aM K n C nw nv ps' + ((C + 1) * nw (ps.getD i (K.idle 0)) + 2 * n * nv (ps.getD i (K.idle 0))) = aM K n C nw nv ps + ((C + 1) * nw (ps'.getD i (K.idle 0)) + 2 * n * nv (ps'.getD i (K.idle 0))) :=
    sm_one (f := fun j => (C + 1) * nw (ps'.getD j (K.idle 0)) + 2 * n * nv (ps'.getD j (K.idle 0))) (g := fun j => (C + 1) * nw (ps.getD j (K.idle 0)) + 2 * n * nv (ps.getD j (K.idle 0))) n hi (fun j _ hj => by rw [(hoth j hj).2.2])
  rcases hk with ⟨k1, k2, rfl, k4⟩ | ⟨k1, k2, k3⟩ | ⟨k1, k2, k3, k4, k5, k6, k7⟩
  · exact Or.inr ⟨Nat.le_refl _, hlo, Or.inl ⟨k1, k2⟩⟩
  · left
    generalize hu : (if 0 < leftF n (M'.fs.getD i Fr.zero) then 1 else 0) = u at k3
    have hb : bM n M' ≤ bM n M + 2 * n * u := by
      refine mx_le n (fun j hj => ?_)
      by_cases e : j = i
      · subst e
        by_cases h0 : 0 < leftF n (M'.fs.getD j Fr.zero)
        · rw [if_pos h0] at hu
          subst hu
          have := hle (M'.fs.getD j Fr.zero)
          unfold leftM
          omega
        · unfold leftM
          omega
      · rw [hlo j e]
        have := le_mx (f := leftM n M) n hj
        unfold bM
        omega
    have hd : dM K cp n C M' ps' ≤ C := by
      unfold dM
      split
      · exact Nat.le_refl _
      · exact mx_le n (fun j _ => potF_le Lv)
    have e1 : (C + 1) * (nw (ps'.getD i (K.idle 0)) + 1) ≤ (C + 1) * nw (ps.getD i (K.idle 0)) := Nat.mul_le_mul_left _ k2
    have e2 : 2 * n * (nv (ps'.getD i (K.idle 0)) + u) ≤ 2 * n * nv (ps.getD i (K.idle 0)) := Nat.mul_le_mul_left _ k3
    rw [Nat.mul_add] at e1 e2
    unfold phi
    omega
  · right
    have e1 : (C + 1) * nw (ps'.getD i (K.idle 0)) ≤ (C + 1) * nw (ps.getD i (K.idle 0)) := Nat.mul_le_mul_left _ k4
    have e2 : 2 * n * nv (ps'.getD i (K.idle 0)) ≤ 2 * n * nv (ps.getD i (K.idle 0)) := Nat.mul_le_mul_left _ k5
    refine ⟨by omega, hlo, Or.inr ⟨k1, k2, k3, fun j hj hji => ?_, ?_⟩⟩
    · obtain ⟨g1, g2, g3⟩ := hoth j hji
      exact pot_same (fun _ => trivial) hmode k3 g1 g3 (k6 j hj hji)
    · unfold potM
      rw [hmode, k3]
      exact k7
end
end Go.Proofs.Ytmbbcgkfankiaaa.Z

/- Locks as tasks that wait for cells, and wake each other: one writes, or many read; let go on, all come to rest. No lock in sight. -/
set_option linter.unusedVariables false
set_option linter.unusedSimpArgs false
namespace Go.Proofs.Ytmbbcgkfankiaaa.Z
open Go.RowKit

/-- What a lock brings, whole. -/
structure LockM.All {P : Type} (K : LockM P) (n : Nat) (mode : Int) (I : Nat → List P → (Nat → Int) → Prop) (N V C : Nat) (nw nv : P → Nat) (cp : (Nat → Int) → Nat → P → Nat) : Prop where
  good : K.Good n mode
  keeps : K.Keeps n I
  live : K.Live n I N V C nw nv cp
  holds : ∀ b ps m i h, I b ps m → i < n → ps.length = n → ps.getD i (K.idle 0) = K.idle h → h = 0 ∨ h = 1 ∨ h = 2
  excl : ∀ b ps m i j, I b ps m → ps.length = n → i < n → j < n → j ≠ i → ps.getD i (K.idle 0) = K.idle 2 → (K.conc (ps.getD j (K.idle 0))).2 = 0
  still : ∀ t h, K.wait t (K.idle h) = none

section
variable {P : Type} {K : LockM P} {I : Nat → List P → (Nat → Int) → Prop} {n b : Nat} {mode : Int} {M : Mt} {ps : List P} {N V C : Nat} {nw nv : P → Nat} {cp : (Nat → Int) → Nat → P → Nat} {i : Nat} {f : Fr} {h : Int} {p : P}

theorem left_le (n : Nat) (f : Fr) : leftF n f ≤ 2 * n := by
  unfold leftF
  split <;> omega

/-- All are idle, and hold nothing. -/
def Rest (n : Nat) (M : Mt) : Prop := ∀ j, j < n → M.fs.getD j Fr.zero = Fr.zero ∧ M.hold.getD j 0 = 0

theorem rest_of (A : K.All n mode I N V C nw nv cp) (hM : M.mode = mode) (H : MI K I n b M ps) (hoff : ∀ j, j < n → leftM n M j = 0) (hpot : ∀ j, j < n → potM K cp n M ps j = 0) : Rest n M := by
  have G := A.good
  rw [← hM] at G
  have hwoff : ∀ j, j < n → (M.fs.getD j Fr.zero).wk.on = true → (M.fs.getD j Fr.zero).wk.i < n → False := fun j hj hk hlt => by
    have := hoff j hj
    unfold leftM leftF at this
    rw [if_pos hk] at this
    split at this <;> omega
  have hw : ∀ j, j < n → ps.getD j (K.idle 0) = K.idle 0 ∨ ∃ c pr, K.wait j (ps.getD j (K.idle 0)) = some (c, pr) ∧ pr (mainOf n M.L c) = false := by
    intro j hj
    have hp := hpot j hj
    unfold potM potF at hp
    split at hp
    · omega
    split at hp
    · rename_i c pr hw
      cases hpr : pr (mainOf n M.L c) with
      | true =>
        rw [hpr] at hp
        have := A.live.wait_yes _ _ _ _ _ hw hpr
        simp only [if_true] at hp
        omega
      | false => exact Or.inr ⟨c, pr, hw, hpr⟩
    · rename_i hw
      exact Or.inl (A.live.zero _ _ _ hw hp)
  have hid := A.live.free _ ps _ H.inv H.psl hw
  intro j hj
  have ha := H.abs j hj
  have hpj := hid j hj
  have hp := hpot j hj
  obtain ⟨f, hf⟩ : ∃ f, M.fs.getD j Fr.zero = f := ⟨_, rfl⟩
  obtain ⟨h, hh⟩ : ∃ h, M.hold.getD j 0 = h := ⟨_, rfl⟩
  have hwo := hwoff j hj
  rw [hf] at hwo
  unfold potM at hp
  rw [hpj, hf] at hp
  rw [hf, hh, hpj] at ha
  rw [hf, hh]
  generalize hq : K.idle 0 = q0 at ha
  cases ha with
  | plain =>
    subst hq
    rw [G.idle_conc]
    exact ⟨rfl, rfl⟩
  | waking _ k _ hk _ hlt _ _ => exact absurd (hwo hk hlt) id
  | staged _ c pr st _ _ hw2 _ =>
    subst hq
    rw [A.still] at hw2
    cases hw2
  | seen q c pr v _ _ hw2 _ =>
    unfold potF at hp
    rw [if_pos rfl] at hp
    omega
  | over _ _ _ hk _ hlt _ _ => exact absurd (hwo hk hlt) id

theorem rest_play (H : Rest n M) (hi : i < n) {g : Rn → Rn} : M.play g i (2 * M.hold.getD i 0) = M := by
  obtain ⟨e1, e2⟩ := H i hi
  unfold Mt.play
  rw [e1, e2, if_pos (show Fr.zero.op = 0 from rfl), if_neg (by decide)]
theorem rest_back (H : Rest n M) {g : Rn → Rn} : ∀ t, t ≤ n → backA g M t = M
  | 0, _ => rfl
  | t + 1, ht => by
    unfold backA
    rw [rest_back H t (by omega)]
    exact rest_play H (by omega)

/-- A ROUND goes on, or all rest. -/
theorem round_went (A : K.All n mode I N V C nw nv cp) (h1 : 1 ≤ n) (h2 : n ≤ 64) (hm : mode = 1 ∨ mode = 2) (hM : M.mode = mode) (H : MI K I n (b + 2 * n) M ps) :
    ∃ ps', MI K I n b (backA K.g M n) ps' ∧ (backA K.g M n).mode = mode ∧ (phi K nw nv cp n C (backA K.g M n) ps' + 1 ≤ phi K nw nv cp n C M ps ∨ Rest n M) := by
  have key : ∀ t, t ≤ n → ∃ ps', MI K I n (b + 2 * (n - t)) (backA K.g M t) ps' ∧ (backA K.g M t).mode = mode ∧ (phi K nw nv cp n C (backA K.g M t) ps' + 1 ≤ phi K nw nv cp n C M ps ∨
      (aM K n C nw nv ps' ≤ aM K n C nw nv ps ∧ phi K nw nv cp n C (backA K.g M t) ps' ≤ phi K nw nv cp n C M ps ∧
        (0 < bM n M → (∀ j, j < t → leftM n (backA K.g M t) j + 1 ≤ bM n M) ∧ ∀ j, t ≤ j → j < n → leftM n (backA K.g M t) j = leftM n M j) ∧
        (bM n M = 0 → (∀ j, j < n → leftM n (backA K.g M t) j = 0) ∧ (∀ j, j < t → potM K cp n (backA K.g M t) ps' j + 1 ≤ potM K cp n M ps j ∨ (potM K cp n (backA K.g M t) ps' j = 0 ∧ potM K cp n M ps j = 0)) ∧
          ∀ j, t ≤ j → j < n → potM K cp n (backA K.g M t) ps' j = potM K cp n M ps j))) := by
    intro t
    induction t with
    | zero =>
      intro _
      refine ⟨ps, H, hM, Or.inr ⟨Nat.le_refl _, Nat.le_refl _, fun hb => ⟨fun j hj => by omega, fun j _ _ => rfl⟩, fun hb => ⟨fun j hj => ?_, fun j hj => by omega, fun j _ _ => rfl⟩⟩⟩
      have := le_mx (f := leftM n M) n hj
      unfold bM at hb
      show leftM n M j = 0
      omega
    | succ t ih =>
      intro ht
      obtain ⟨q, hq, hmode, hor⟩ := ih (by omega)
      rw [show b + 2 * (n - t) = b + 2 * (n - (t + 1)) + 2 by omega] at hq
      have htn : t < n := by omega
      show ∃ ps', MI K I n (b + 2 * (n - (t + 1))) ((backA K.g M t).play K.g t (2 * (backA K.g M t).hold.getD t 0)) ps' ∧ ((backA K.g M t).play K.g t (2 * (backA K.g M t).hold.getD t 0)).mode = mode ∧ (phi K nw nv cp n C ((backA K.g M t).play K.g t (2 * (backA K.g M t).hold.getD t 0)) ps' + 1 ≤ phi K nw nv cp n C M ps ∨
        (aM K n C nw nv ps' ≤ aM K n C nw nv ps ∧ phi K nw nv cp n C ((backA K.g M t).play K.g t (2 * (backA K.g M t).hold.getD t 0)) ps' ≤ phi K nw nv cp n C M ps ∧
          (0 < bM n M → (∀ j, j < t + 1 → leftM n ((backA K.g M t).play K.g t (2 * (backA K.g M t).hold.getD t 0)) j + 1 ≤ bM n M) ∧ ∀ j, t + 1 ≤ j → j < n → leftM n ((backA K.g M t).play K.g t (2 * (backA K.g M t).hold.getD t 0)) j = leftM n M j) ∧
          (bM n M = 0 → (∀ j, j < n → leftM n ((backA K.g M t).play K.g t (2 * (backA K.g M t).hold.getD t 0)) j = 0) ∧ (∀ j, j < t + 1 → potM K cp n ((backA K.g M t).play K.g t (2 * (backA K.g M t).hold.getD t 0)) ps' j + 1 ≤ potM K cp n M ps j ∨ (potM K cp n ((backA K.g M t).play K.g t (2 * (backA K.g M t).hold.getD t 0)) ps' j = 0 ∧ potM K cp n M ps j = 0)) ∧
            ∀ j, t + 1 ≤ j → j < n → potM K cp n ((backA K.g M t).play K.g t (2 * (backA K.g M t).hold.getD t 0)) ps' j = potM K cp n M ps j)))
      generalize backA K.g M t = Mt1 at hq hmode hor ⊢
      have G := A.good
      rw [← hmode] at G
      obtain ⟨q', h3, W⟩ := play_went (M := Mt1) G A.keeps A.live A.holds A.still h1 h2 (by rw [hmode]; exact hm) hq htn
      have hW := went_phi A.live htn (h3.abs t htn) (left_le n) W
      refine ⟨q', h3, W.num.2.trans hmode, ?_⟩
      generalize Mt1.play K.g t (2 * Mt1.hold.getD t 0) = Mt2 at h3 W hW ⊢
      have mono : phi K nw nv cp n C Mt2 q' ≤ phi K nw nv cp n C Mt1 q := by
        rcases hW with h4 | ⟨h4, h5, h6⟩
        · omega
        · have hb : bM n Mt2 ≤ bM n Mt1 := by
            refine mx_le n (fun j hj => ?_)
            have h9 := le_mx (f := leftM n Mt1) n hj
            unfold bM
            by_cases e : j = t
            · subst e
              rcases h6 with ⟨_, h7⟩ | ⟨_, h7, _⟩ <;> omega
            · rw [h5 j e]; exact h9
          have hd : dM K cp n C Mt2 q' ≤ dM K cp n C Mt1 q := by
            unfold dM
            have hC : ∀ (M3 : Mt) (q3 : List P), (if 0 < bM n M3 then C else mx n (potM K cp n M3 q3)) ≤ C := fun M3 q3 => by
              split
              · exact Nat.le_refl _
              · exact mx_le n (fun j _ => potF_le A.live)
            by_cases hb0 : 0 < bM n Mt1
            · rw [if_pos hb0]; exact hC Mt2 q'
            · rw [if_neg hb0, if_neg (by omega)]
              refine mx_le n (fun j hj => ?_)
              have h9 := le_mx (f := potM K cp n Mt1 q) n hj
              have hl := fun j (hj : j < n) => le_mx (f := leftM n Mt1) n hj
              unfold bM at hb0
              rcases h6 with ⟨h7, _⟩ | ⟨_, _, _, h8, h10⟩
              · have := hl t htn; omega
              · by_cases e : j = t
                · subst e
                  rcases h10 with h10 | ⟨h10, _⟩ | ⟨u, hu, h10⟩
                  · omega
                  · omega
                  · have h11 := hl u hu
                    have h12 := (hq.abs u hu)
                    exfalso
                    have : 0 < leftM n Mt1 u := by
                      unfold leftM
                      generalize Mt1.fs.getD u Fr.zero = f at h10 h12
                      generalize Mt1.hold.getD u 0 = hh at h12
                      generalize q.getD u (K.idle 0) = pp at h12
                      cases h12 with
                      | plain => rw [(G.plain pp).2.1] at h10; cases h10
                      | waking _ k _ hk h0 hlt _ _ => exact left_pos hk h0 hlt rfl
                      | staged _ c pr st _ _ hw2 _ => rw [show ({ (K.conc pp).1 with st := st } : Fr).wk = (K.conc pp).1.wk from rfl, (G.plain pp).2.1] at h10; cases h10
                      | seen q c pr v _ _ hw2 _ => rw [show ({ (K.conc q).1 with a := K.keep q v, st := 4 } : Fr).wk = (K.conc q).1.wk from rfl, (G.plain q).2.1] at h10; cases h10
                      | over _ _ _ hk h0 hlt _ _ => exact left_pos hk h0 hlt rfl
                    omega
                · rw [h8 j hj e]; exact h9
          unfold phi
          omega
      rcases hor with h4 | ⟨h4, h5, h6, h7⟩
      · left; omega
      · rcases hW with h8 | ⟨h8, h9, h10⟩
        · left; omega
        · right
          refine ⟨by omega, by omega, fun hb => ?_, fun hb => ?_⟩
          · obtain ⟨k1, k2⟩ := h6 hb
            refine ⟨fun j hj => ?_, fun j hj hjn => ?_⟩
            · by_cases e : j = t
              · subst e
                have h11 := k2 j (Nat.le_refl _) htn
                have h12 := le_mx (f := leftM n M) n htn
                unfold bM at hb ⊢
                rcases h10 with ⟨_, h10⟩ | ⟨_, h10, _⟩ <;> omega
              · rw [h9 j e]; exact k1 j (by omega)
            · rw [h9 j (by omega)]; exact k2 j (by omega) hjn
          · obtain ⟨k1, k2, k3⟩ := h7 hb
            rcases h10 with ⟨h10, _⟩ | ⟨_, h11, h12, h13, h14⟩
            · have := k1 t htn; omega
            · refine ⟨fun j hj => ?_, fun j hj => ?_, fun j hj hjn => ?_⟩
              · by_cases e : j = t
                · subst e; exact h11
                · rw [h9 j e]; exact k1 j hj
              · by_cases e : j = t
                · subst e
                  rw [← k3 j (Nat.le_refl _) htn]
                  rcases h14 with h14 | h14 | ⟨u, hu, h14⟩
                  · exact Or.inl h14
                  · exact Or.inr h14
                  · exfalso
                    have h15 := k1 u hu
                    have h12 := (hq.abs u hu)
                    have : 0 < leftM n Mt1 u := by
                      unfold leftM
                      generalize Mt1.fs.getD u Fr.zero = f at h14 h12
                      generalize Mt1.hold.getD u 0 = hh at h12
                      generalize q.getD u (K.idle 0) = pp at h12
                      cases h12 with
                      | plain => rw [(G.plain pp).2.1] at h14; cases h14
                      | waking _ k _ hk h0 hlt _ _ => exact left_pos hk h0 hlt rfl
                      | staged _ c pr st _ _ hw2 _ => rw [show ({ (K.conc pp).1 with st := st } : Fr).wk = (K.conc pp).1.wk from rfl, (G.plain pp).2.1] at h14; cases h14
                      | seen q c pr v _ _ hw2 _ => rw [show ({ (K.conc q).1 with a := K.keep q v, st := 4 } : Fr).wk = (K.conc q).1.wk from rfl, (G.plain q).2.1] at h14; cases h14
                      | over _ _ _ hk h0 hlt _ _ => exact left_pos hk h0 hlt rfl
                    omega
                · rw [h13 j (by omega) e]; exact k2 j (by omega)
              · rw [h13 j hjn (by omega)]; exact k3 j (by omega) hjn
  obtain ⟨ps', h3, hmode, h4⟩ := key n (Nat.le_refl _)
  rw [Nat.sub_self] at h3
  refine ⟨ps', h3, hmode, ?_⟩
  rcases h4 with h4 | ⟨h4, h5, h6, h7⟩
  · exact Or.inl h4
  · have hC : dM K cp n C (backA K.g M n) ps' ≤ C := by
      unfold dM
      split
      · exact Nat.le_refl _
      · exact mx_le n (fun j _ => potF_le A.live)
    by_cases hb : 0 < bM n M
    · left
      obtain ⟨k1, _⟩ := h6 hb
      have : bM n (backA K.g M n) + 1 ≤ bM n M := by
        have : bM n (backA K.g M n) ≤ bM n M - 1 := mx_le n (fun j hj => by have := k1 j hj; omega)
        omega
      have hd : dM K cp n C M ps = C := by unfold dM; rw [if_pos hb]
      unfold phi
      omega
    · obtain ⟨k1, k2, _⟩ := h7 (by omega)
      have hb2 : bM n (backA K.g M n) = 0 := by
        have : bM n (backA K.g M n) ≤ 0 := mx_le n (fun j hj => by have := k1 j hj; omega)
        omega
      have hd : dM K cp n C M ps = mx n (potM K cp n M ps) := by unfold dM; rw [if_neg hb]
      have hd2 : dM K cp n C (backA K.g M n) ps' = mx n (potM K cp n (backA K.g M n) ps') := by unfold dM; rw [if_neg (by omega)]
      by_cases hz : 0 < mx n (potM K cp n M ps)
      · left
        have : mx n (potM K cp n (backA K.g M n) ps') ≤ mx n (potM K cp n M ps) - 1 := mx_le n (fun j hj => by
          have h9 := le_mx (f := potM K cp n M ps) n hj
          rcases k2 j hj with h8 | ⟨h8, _⟩ <;> omega)
        unfold phi
        omega
      · right
        refine rest_of A hM H (fun j hj => ?_) (fun j hj => ?_)
        · have := le_mx (f := leftM n M) n hj
          unfold bM at hb
          omega
        · have := le_mx (f := potM K cp n M ps) n hj
          omega

/-- ROUNDS: all come to rest. -/
theorem rounds_rest (A : K.All n mode I N V C nw nv cp) (h1 : 1 ≤ n) (h2 : n ≤ 64) (hm : mode = 1 ∨ mode = 2) (hM : M.mode = mode) {B : Nat} (H : MI K I n B M ps) : ∀ r b, b + 2 * n * r = B → ∃ ps', MI K I n b (roundsA K.g n M r) ps' ∧ (roundsA K.g n M r).mode = mode ∧ (phi K nw nv cp n C (roundsA K.g n M r) ps' + r ≤ phi K nw nv cp n C M ps ∨ Rest n (roundsA K.g n M r))
  | 0, b, hb => ⟨ps, by have : b = B := by simpa using hb
                        rw [this]; exact H, hM, Or.inl (Nat.le_refl _)⟩
  | r + 1, b, hb => by
    obtain ⟨q, h3, h4, h5⟩ := rounds_rest A h1 h2 hm hM H r (b + 2 * n) (by rw [← hb, Nat.mul_add]; omega)
    obtain ⟨q', h6, h7, h8⟩ := round_went A h1 h2 hm h4 h3
    refine ⟨q', h6, h7, ?_⟩
    show _ ∨ Rest n (backA K.g (roundsA K.g n M r) n)
    rcases h5 with h5 | h5
    · rcases h8 with h8 | h8
      · left
        show phi K nw nv cp n C (backA K.g (roundsA K.g n M r) n) q' + (r + 1) ≤ _
        omega
      · right
        rw [rest_back h8 n (Nat.le_refl _)]
        exact h8
    · right
      rw [rest_back h5 n (Nat.le_refl _)]
      exact h5
theorem phi_le (A : K.All n mode I N V C nw nv cp) : phi K nw nv cp n C M ps ≤ n * ((C + 1) * N + 2 * n * V) + 2 * n + C := by
  have e1 : aM K n C nw nv ps ≤ n * ((C + 1) * N + 2 * n * V) := by
    rw [← sm_const]
    refine sm_le n (fun j _ => ?_)
    exact Nat.add_le_add (Nat.mul_le_mul_left _ (A.live.nwle _)) (Nat.mul_le_mul_left _ (A.live.nvle _))
  have e2 : bM n M ≤ 2 * n := mx_le n (fun j _ => left_le n _)
  have e3 : dM K cp n C M ps ≤ C := by
    unfold dM
    split
    · exact Nat.le_refl _
    · exact mx_le n (fun j _ => potF_le A.live)
  unfold phi
  omega

theorem count_one : ∀ (l : List Int) (i : Nat), (∀ j, j < l.length → j ≠ i → l.getD j 0 = 0) → l.countP (· == 2) ≤ 1 ∧ (l.getD i 0 = 2 → l.countP (· == 1) = 0)
  | [], i, _ => by simp
  | x :: l, 0, h => by
    have hz : ∀ y, y ∈ l → y = 0 := fun y hy => by
      obtain ⟨j, hj, rfl⟩ := List.getElem_of_mem hy
      have := h (j + 1) (by simpa using hj) (by omega)
      simpa [List.getD, hj] using this
    have c2 : l.countP (· == 2) = 0 := by rw [List.countP_eq_zero]; intro y hy; rw [hz y hy]; decide
    have c1 : l.countP (· == 1) = 0 := by rw [List.countP_eq_zero]; intro y hy; rw [hz y hy]; decide
    refine ⟨?_, fun hx => ?_⟩
    · rw [List.countP_cons, c2]; split <;> omega
    · have hx : x = 2 := hx
      rw [List.countP_cons, c1, hx]
      decide
  | x :: l, i + 1, h => by
    have hx : x = 0 := h 0 (by simp) (by omega)
    obtain ⟨c2, c1⟩ := count_one l i (fun j hj hji => by
      have := h (j + 1) (by simpa using hj) (by omega)
      simpa using this)
    subst hx
    refine ⟨?_, fun hx => ?_⟩
    · rw [List.countP_cons]; simpa using c2
    · rw [List.countP_cons]; simpa using c1 (by simpa using hx)

theorem excl_many (A : K.All n mode I N V C nw nv cp) (hM : M.mode = mode) (H : MI K I n b M ps) : ¬ (M.many 2 > 1 ∨ M.many 2 = 1 ∧ M.many 1 > 0) := by
  have G := A.good
  rw [← hM] at G
  intro hc
  have hpos : 0 < M.hold.countP (· == 2) := by unfold Mt.many at hc; omega
  rw [List.countP_pos_iff] at hpos
  obtain ⟨y, hy, he⟩ := hpos
  obtain ⟨i, hi, rfl⟩ := List.getElem_of_mem hy
  have hin : i < n := by have := H.hol; omega
  have h2 : M.hold.getD i 0 = 2 := by have : M.hold[i] = 2 := by simpa using he
                                      simpa [List.getD, hi] using this
  have hp := ((H.abs i hin).holds G).2 h2
  obtain ⟨c2, c1⟩ := count_one M.hold i (fun j hj hji => by
    have hjn : j < n := by have := H.hol; omega
    have h0 := A.excl _ ps _ i j H.inv H.psl hin hjn hji hp
    have h3 := ((H.abs j hjn).holds G).1
    rcases Decidable.em (M.hold.getD j 0 = 0) with h4 | h4
    · exact h4
    · exact absurd h0 (h3 h4))
  have := c1 h2
  unfold Mt.many at hc
  omega

theorem plays_keep (A : K.All n mode I N V C nw nv cp) (h1 : 1 ≤ n) (h2 : n ≤ 64) (hm : mode = 1 ∨ mode = 2) : ∀ (l : List (Int × Int)) (b : Nat) (M : Mt) (ps : List P), M.mode = mode → MI K I n (b + 2 * l.length) M ps → ∃ ps', MI K I n b (playsA K.g n M l) ps' ∧ (playsA K.g n M l).mode = mode
  | [], b, M, ps, hM, H => ⟨ps, H, hM⟩
  | x :: l, b, M, ps, hM, H => by
    have G := A.good
    rw [← hM] at G
    rw [show b + 2 * (x :: l).length = b + 2 * l.length + 2 by rw [List.length_cons]; omega] at H
    obtain ⟨q, h3⟩ := play_keeps G A.keeps A.live h1 h2 (by rw [hM]; exact hm) H (i := (x.1 % (n : Int)).toNat) (by have := Int.emod_lt_of_pos x.1 (show (0 : Int) < n by omega); omega) (x.2 % 9)
    exact plays_keep A h1 h2 hm l b _ q ((play_same K.g M _ _).2.1.trans hM) h3

/-- ONE WRITES, OR MANY READ; let go on, all come to rest. -/
theorem excludes_ok (A : K.All n mode I N V C nw nv cp) (h1 : 1 ≤ n) (h2 : n ≤ 64) (hm : mode = 1 ∨ mode = 2) (hfit : n * ((C + 1) * N + 2 * n * V) + 2 * n + C < 2 * n * (8 * n + 40)) (hM : M.mode = mode) (l : List (Int × Int)) (H : MI K I n (2 * n * (2 * n * (8 * n + 40)) + 2 * l.length) M ps) : ExcludesOk K.g n M l := by
  constructor
  · intro j hj
    have e : (l.take j).length = j := by rw [List.length_take]; omega
    obtain ⟨q, h3, h4⟩ := plays_keep A h1 h2 hm (l.take j) (2 * n * (2 * n * (8 * n + 40)) + 2 * (l.length - j)) M ps hM (by rw [e]; rw [show 2 * n * (2 * n * (8 * n + 40)) + 2 * (l.length - j) + 2 * j = 2 * n * (2 * n * (8 * n + 40)) + 2 * l.length by omega]; exact H)
    exact excl_many A h4 h3
  · intro t ht
    obtain ⟨q, h3, h4⟩ := plays_keep A h1 h2 hm l (2 * n * (2 * n * (8 * n + 40))) M ps hM H
    obtain ⟨q', h5, h6, h7⟩ := rounds_rest A h1 h2 hm h4 h3 (2 * n * (8 * n + 40)) 0 (by omega)
    rcases h7 with h7 | h7
    · have := phi_le (M := playsA K.g n M l) (ps := q) A
      omega
    · obtain ⟨e1, e2⟩ := h7 t ht
      rw [e1]
      exact ⟨rfl, e2⟩

/-- How all begin. -/
theorem start_MI (A : K.All n mode I N V C nw nv cp) (L : List Int) (hL : L.length = 8 + 4 * n) (hI : I b (List.replicate n (K.idle 0)) (mainOf n L)) : MI K I n b (Mt.start n mode L) (List.replicate n (K.idle 0)) := by
  have hr : ∀ j, (List.replicate n (K.idle 0)).getD j (K.idle 0) = K.idle 0 := fun j => by
    rw [List.getD_eq_getElem?_getD, List.getElem?_replicate]; split <;> rfl
  have hf : ∀ j, (List.replicate n Fr.zero).getD j Fr.zero = Fr.zero := fun j => by
    rw [List.getD_eq_getElem?_getD, List.getElem?_replicate]; split <;> rfl
  have hh : ∀ j, (List.replicate n (0 : Int)).getD j 0 = 0 := fun j => by
    rw [List.getD_eq_getElem?_getD, List.getElem?_replicate]; split <;> rfl
  refine ⟨rfl, by simp [Mt.start], by simp [Mt.start], by simp, hL, fun i hi => ?_, hI, fun i c pr hi hw _ => ?_, fun i c pr hi hw _ _ => ?_⟩
  · show AbsF K n mode i ((List.replicate n Fr.zero).getD i Fr.zero) ((List.replicate n (0 : Int)).getD i 0) _
    rw [hr, hf, hh]
    have := AbsF.plain (K := K) (n := n) (mode := mode) (t := i) (K.idle 0)
    rw [A.good.idle_conc] at this
    exact this
  · rw [hr, A.still] at hw
    cases hw
  · rw [hr, A.still] at hw
    cases hw
end
end Go.Proofs.Ytmbbcgkfankiaaa.Z

/- Sums over places; accesses to the words that are no watches. No lock in sight. -/
set_option linter.unusedVariables false
set_option linter.unusedSimpArgs false
namespace Go.Proofs.Ytmbbcgkfankiaaa.Z
open Go.RowKit

section
variable {P : Type}
def ws (f : P → Int) : List P → Int
  | [] => 0
  | x :: l => f x + ws f l
theorem ws_set {f : P → Int} {d x : P} : ∀ {l : List P} {i : Nat}, i < l.length → ws f (l.set i x) = ws f l - f (l.getD i d) + f x
  | [], i, h => by simp at h
  | y :: l, 0, _ => by simp [ws]; omega
  | y :: l, i + 1, h => by
    have := ws_set (f := f) (d := d) (x := x) (l := l) (i := i) (by simpa using h)
    simp [ws] at this ⊢
    omega
theorem ws_nonneg {f : P → Int} (h : ∀ x, 0 ≤ f x) : ∀ l : List P, 0 ≤ ws f l
  | [] => Int.le_refl _
  | x :: l => by have := ws_nonneg h l; have := h x; simp [ws]; omega
theorem ws_le {f g : P → Int} (h : ∀ x, f x ≤ g x) : ∀ l : List P, ws f l ≤ ws g l
  | [] => Int.le_refl _
  | x :: l => by have := ws_le h l; have := h x; simp [ws]; omega
theorem ws_len {f : P → Int} (h : ∀ x, f x ≤ 1) : ∀ l : List P, ws f l ≤ l.length
  | [] => by simp [ws]
  | x :: l => by have := ws_len h l; have := h x; simp [ws]; omega
theorem ws_one {f : P → Int} {d : P} (h : ∀ x, 0 ≤ f x) : ∀ {l : List P} {i : Nat}, i < l.length → f (l.getD i d) ≤ ws f l
  | [], i, hi => by simp at hi
  | x :: l, 0, _ => by have := ws_nonneg h l; simp [ws]; omega
  | x :: l, i + 1, hi => by
    have := ws_one h (l := l) (i := i) (d := d) (by simpa using hi)
    have := h x
    simp [ws] at *
    omega
theorem ws_two {f : P → Int} {d : P} (h : ∀ x, 0 ≤ f x) {l : List P} {i j : Nat} (hi : i < l.length) (hj : j < l.length) (hij : i ≠ j) : f (l.getD i d) + f (l.getD j d) ≤ ws f l := by
  have h3 : ∀ {l : List P} {i j : Nat}, i < l.length → j < l.length → i ≠ j → f (l.getD i d) + f (l.getD j d) ≤ ws f l := by
    intro l
    induction l with
    | nil => intro i j hi _ _; simp at hi
    | cons x l ih =>
      intro i j hi hj hij
      cases i with
      | zero =>
        cases j with
        | zero => exact absurd rfl hij
        | succ j =>
          have := ws_one (d := d) h (l := l) (i := j) (by simpa using hj)
          simp [ws] at *
          omega
      | succ i =>
        cases j with
        | zero =>
          have := ws_one (d := d) h (l := l) (i := i) (by simpa using hi)
          simp [ws] at *
          omega
        | succ j =>
          have := ih (i := i) (j := j) (by simpa using hi) (by simpa using hj) (by omega)
          have := h x
          simp [ws] at *
          omega
  exact h3 hi hj hij
theorem ws_zero {f : P → Int} {l : List P} (h : ∀ x, x ∈ l → f x = 0) : ws f l = 0 := by
  induction l with
  | nil => rfl
  | cons x l ih => simp [ws, h x (by simp), ih (fun y hy => h y (List.mem_cons_of_mem _ hy))]
theorem ws_replicate {f : P → Int} {n : Nat} {x : P} (h : f x = 0) : ws f (List.replicate n x) = 0 := ws_zero (fun y hy => by rw [(List.mem_replicate.1 hy).2, h])
theorem ws_all0 {f : P → Int} {d : P} {l : List P} {n : Nat} (hl : l.length = n) (h : ∀ i, i < n → f (l.getD i d) = 0) : ws f l = 0 := by
  refine ws_zero (fun y hy => ?_)
  obtain ⟨i, hi, rfl⟩ := List.getElem_of_mem hy
  have := h i (by omega)
  simpa [List.getD, hi] using this
/-- A thing that one has, somebody has. -/
theorem ws_some {f : P → Int} {d : P} {l : List P} {n : Nat} (hl : l.length = n) (h : ws f l ≠ 0) : ∃ i, i < n ∧ f (l.getD i d) ≠ 0 := by
  rcases Classical.em (∃ i, i < n ∧ f (l.getD i d) ≠ 0) with h1 | h1
  · exact h1
  · exfalso
    refine h (ws_all0 (d := d) hl (fun i hi => ?_))
    rcases Decidable.em (f (l.getD i d) = 0) with h2 | h2
    · exact h2
    · exact absurd ⟨i, hi, h2⟩ h1
end

section
variable {n : Nat} {L : List Int} {c x y : Int}
theorem at_ld (hl : L.length = 8 + 4 * n) (h0 : 0 ≤ c) (hc : c.toNat < 8 + 2 * n) : doA L ⟨1, c, 0, 0, 0⟩ = (⟨1, c, 0, 0, mainOf n L c.toNat⟩, true, L) := by
  rw [doA_at (by omega)]
  simp [mainOf, hc]
theorem at_ad (hl : L.length = 8 + 4 * n) (h0 : 0 ≤ c) (hc : c.toNat < 8 + 2 * n) : doA L ⟨3, c, x, 0, 0⟩ = (⟨3, c, x, 0, mainOf n L c.toNat⟩, true, L.set c.toNat ((mainOf n L c.toNat + x) % 4294967296)) := by
  rw [doA_at (by omega)]
  simp [mainOf, hc]
theorem at_st (hl : L.length = 8 + 4 * n) (h0 : 0 ≤ c) (hc : c.toNat < 8 + 2 * n) : doA L ⟨2, c, x, 0, 0⟩ = (⟨2, c, x, 0, mainOf n L c.toNat⟩, true, L.set c.toNat x) := by
  rw [doA_at (by omega)]
  simp [mainOf, hc]
theorem at_sw (hl : L.length = 8 + 4 * n) (h0 : 0 ≤ c) (hc : c.toNat < 8 + 2 * n) : doA L ⟨4, c, x, 0, 0⟩ = (⟨4, c, x, 0, mainOf n L c.toNat⟩, true, L.set c.toNat x) := by
  rw [doA_at (by omega)]
  simp [mainOf, hc]
theorem at_cas (hl : L.length = 8 + 4 * n) (h0 : 0 ≤ c) (hc : c.toNat < 8 + 2 * n) : doA L ⟨5, c, x, y, 0⟩ = (⟨5, c, x, y, mainOf n L c.toNat⟩, true, if mainOf n L c.toNat = x then L.set c.toNat y else L) := by
  rw [doA_at (by omega)]
  simp [mainOf, hc]
theorem at_casB (hl : L.length = 8 + 4 * n) (h0 : 0 ≤ c) (hc : c.toNat < 8 + 2 * n) : casB L c x y = (mainOf n L c.toNat == x) := by
  unfold casB
  rw [at_cas hl h0 hc]
  simp
end
/-- A wait that is done has no stage. -/
theorem wait_done {L : List Int} {n mode task st c : Int} {p : Int → Bool} (h : (waitA L n mode task st c p).done = true) : (waitA L n mode task st c p).stage = 0 := by
  unfold waitA at h ⊢
  dsimp only at h ⊢
  repeat' split at h
  all_goals first | (simp at h; done) | skip
  all_goals simp_all
theorem wait4_done {L : List Int} {n mode task c : Int} {p : Int → Bool} (hm : mode = 2) : (waitA L n mode task 4 c p).done = true ∧ (waitA L n mode task 4 c p).stage = 0 := by
  unfold waitA
  dsimp only
  rw [stage_at hm (by omega) (by omega)]
  exact ⟨rfl, rfl⟩
theorem wait4_seen {L : List Int} {n mode task c : Int} {p : Int → Bool} (hm : mode = 2) : (waitA L n mode task 4 c p).seen = false := by
  unfold waitA
  dsimp only
  rw [stage_at hm (by omega) (by omega)]
  rfl
theorem wait_ds {L : List Int} {n mode task st c : Int} {p : Int → Bool} (h0 : 0 ≤ st) (h3 : st ≤ 3) (h : (waitA L n mode task st c p).done = true) : (waitA L n mode task st c p).seen = true := by
  have hs : stageA mode st ≠ 4 := by unfold stageA; split <;> omega
  unfold waitA at h ⊢
  dsimp only at h ⊢
  rw [if_neg hs] at h ⊢
  repeat' split at h
  all_goals first | (simp at h; done) | skip
  all_goals simp_all
theorem may_ops {op h : Int} (hm : mayB op h = true) : (h = 0 ∧ (op = 1 ∨ op = 3 ∨ op = 5 ∨ op = 6)) ∨ (h = 1 ∧ (op = 2 ∨ op = 7)) ∨ (h ≠ 0 ∧ h ≠ 1 ∧ (op = 4 ∨ op = 8)) := by
  unfold mayB at hm
  split at hm
  · rename_i h0
    simp at hm
    exact Or.inl ⟨h0, by omega⟩
  split at hm
  · rename_i h0 h1
    simp at hm
    exact Or.inr (Or.inl ⟨h1, by omega⟩)
  · rename_i h0 h1
    simp at hm
    exact Or.inr (Or.inr ⟨h0, h1, by omega⟩)

end Go.Proofs.Ytmbbcgkfankiaaa.Z

/- The lock in which writers go first: where a task is, what a step does. No program is in sight. Written by genwflive.py. -/
set_option linter.unusedVariables false
set_option linter.unusedSimpArgs false
namespace Go.Proofs.Ytmbbcgkfankiaaa.Z
open Go.RowKit

/-- Where a task is. -/
inductive WfP
  | idle (h : Int)
  | r0
  | r1 (a : Int)
  | r2 (a : Int)
  | r3 (a : Int)
  | u0
  | l0
  | l1 (a : Int)
  | v0
  | v1 (a : Int)
  | d0
  | d1 (a : Int)
  | q0 (a : Int)
  | q1 (a : Int)
  | y0 (a : Int)
  | y1 (a : Int)
  | z0 (a : Int)
  | z1 (a : Int)
def wfFr (op line a b : Int) : Fr := ⟨op, line, a, b, 0, Wk.zero, 0⟩
def wfConc : WfP → Fr × Int
  | .idle h => (Fr.zero, h)
  | .r0 => (wfFr 1 0 0 0, 0)
  | .r1 a => (wfFr 1 1 a 0, 0)
  | .r2 a => (wfFr 1 2 a 0, 0)
  | .r3 a => (wfFr 1 3 a 0, 0)
  | .u0 => (wfFr 2 0 0 0, 0)
  | .l0 => (wfFr 3 0 0 0, 0)
  | .l1 a => (wfFr 3 1 a 0, 0)
  | .v0 => (wfFr 4 0 0 0, 0)
  | .v1 a => (wfFr 4 1 a 0, 0)
  | .d0 => (wfFr 8 0 0 0, 1)
  | .d1 a => (wfFr 8 1 a 0, 1)
  | .q0 a => (wfFr 5 0 a 0, 0)
  | .q1 a => (wfFr 5 1 a 0, 0)
  | .y0 a => (wfFr 6 0 a 0, 0)
  | .y1 a => (wfFr 6 1 a 0, 0)
  | .z0 a => (wfFr 7 0 a 0, 1)
  | .z1 a => (wfFr 7 1 a 0, 1)
def wfWait : WfP → Option (Nat × (Int → Bool))
  | .r2 a => some (0, wfCalm)
  | .l1 a => some (0, fun v => wfT v == wfG a && wfR v == 0)
  | _ => none
def wfPost (v : Int) : WfP → WfP
  | .r2 _ => .r1 v
  | .l1 _ => .idle 2
  | p => p
def wfKeep (v : Int) : WfP → Int
  | .r2 _ => v
  | .l1 a => a
  | _ => 0
def wfAct (x0 : Int) : WfP → WfP × Option (Nat × Int) × Option Nat
  | .r0 => (if wfCalm x0 then .r1 x0 else .r2 x0, none, none)
  | .r1 a => if x0 = a then (.idle 1, some (0, (a + 1) % 4294967296), none) else (.r3 a, none, none)
  | .r3 _ => (if wfCalm x0 then .r1 x0 else .r2 x0, none, none)
  | .u0 => (.idle 0, some (0, (x0 + 4294967295) % 4294967296), some 0)
  | .l0 => (.l1 x0, some (0, (x0 + 65536) % 4294967296), none)
  | .v0 => (.v1 x0, none, none)
  | .d0 => (.d1 x0, none, none)
  | .v1 a => (.idle 0, some (0, (x0 + bump8 a) % 4294967296), some 0)
  | .d1 a => (.idle 1, some (0, (x0 + (bump8 a + 1) % 4294967296) % 4294967296), some 0)
  | .q0 _ => (if wfCalm x0 then .q1 x0 else .idle 0, none, none)
  | .y0 _ => (if wfCalm x0 && wfR x0 == 0 then .y1 x0 else .idle 0, none, none)
  | .z0 _ => (if wfCalm x0 && wfR x0 == 1 then .z1 x0 else .idle 1, none, none)
  | .q1 a => if x0 = a then (.idle 1, some (0, (a + 1) % 4294967296), none) else (.q0 a, none, none)
  | .y1 a => if x0 = a then (.idle 2, some (0, (a + 65536) % 4294967296), none) else (.y0 a, none, none)
  | .z1 a => if x0 = a then (.idle 2, some (0, (a + 65535) % 4294967296), none) else (.z0 a, none, none)
  | p => (p, none, none)
def wfStart (op h : Int) : WfP := if op = 1 then .r0 else if op = 2 then .u0 else if op = 3 then .l0 else if op = 4 then .v0 else if op = 5 then .q0 0 else if op = 6 then .y0 0 else if op = 7 then .z0 0 else .d0
def wfK : LockM WfP := ⟨wfA, wfConc, fun p v => wfKeep v p, fun _ p => wfWait p, fun p v => wfPost v p, fun _ p m => wfAct (m 0) p, .idle, wfStart, fun _ => True⟩

set_option maxHeartbeats 3200000 in
theorem wf_good (n : Nat) (mode : Int) : wfK.Good n mode := by
  refine ⟨fun p => by cases p <;> exact ⟨rfl, rfl, rfl⟩, fun h => rfl, fun p hp => ?_, fun p hp => ?_, fun t p c pr hw => ?_, fun op h hm => ?_, fun t op h hm => ?_, fun t p c pr _ _ hw => ?_, fun t p c pr v hw hh => ?_, fun p t s hok ht hw hop hn hmd htk hf hl => ?_, fun p t c pr st s hok ht hw h0 h3 hn hmd htk hf hl => ?_, fun p t c pr v s hok ht hm2 hw hpr hn hmd htk hf hl => ?_⟩
  · cases p <;> first | rfl | (simp [wfK, wfConc, wfFr] at hp)
  · cases p <;> first | (simp [wfK, wfConc, wfFr] at hp; done) | (simp [wfK, wfConc, wfFr] at hp; rw [hp]; rfl)
  · cases p <;> simp [wfK, wfWait] at hw <;> simp [wfK, wfConc, wfFr]
  · rcases may_ops hm with ⟨rfl, rfl | rfl | rfl | rfl⟩ | ⟨rfl, rfl | rfl⟩ | ⟨_, _, rfl | rfl⟩ <;> simp [wfStart, wfK, wfConc, wfFr, frOp, fromA]
  · rcases may_ops hm with ⟨rfl, rfl | rfl | rfl | rfl⟩ | ⟨rfl, rfl | rfl⟩ | ⟨_, _, rfl | rfl⟩ <;> simp [wfK, wfStart, wfWait]
  · cases p <;> simp [wfK, wfWait] at hw <;> omega
  · cases p <;> simp [wfK, wfWait] at hw <;> simp [wfPost, wfK, wfConc, wfFr] at hh ⊢
  · obtain ⟨sn, sm, st, f, acc, notes, L⟩ := s
    simp only at hn hmd htk hf hl
    subst hn hmd htk hf
    have l0 := at_ld (n := n) (L := L) (c := 0) hl (by decide) (by omega)
    have a0 := fun x => at_ad (n := n) (L := L) (c := 0) (x := x) hl (by decide) (by omega)
    have s0 := fun x => at_st (n := n) (L := L) (c := 0) (x := x) hl (by decide) (by omega)
    have c0 := fun x y => at_cas (n := n) (L := L) (c := 0) (x := x) (y := y) hl (by decide) (by omega)
    have d0 := fun x y => at_casB (n := n) (L := L) (c := 0) (x := x) (y := y) hl (by decide) (by omega)
    simp only [show (0 : Int).toNat = 0 from rfl] at l0 a0 s0 c0 d0
    show ActIs wfK n p (wfAct (mainOf n L 0) p) _ _
    generalize mainOf n L 0 = x0 at l0 a0 s0 c0 d0
    cases p <;> simp [wfK, wfWait] at hw <;> simp [wfK, wfConc, wfFr, Fr.zero] at hop
    case r0 => by_cases q0 : wfCalm x0 = true <;> constructor <;> simp [wfK, wfConc, wfFr, wfA, wfAct, Rn.fresh, Rn.did, Rn.setA, Rn.setB, Rn.note, Rn.goto, Rn.noted, Rn.fin, Rn.wake, writtenL, normF, behindA, wkOf, q0, wf10, wfCalmly, l0, a0, s0, c0, d0] <;> omega
    case r1 a => by_cases q0 : x0 = a <;> constructor <;> simp [wfK, wfConc, wfFr, wfA, wfAct, Rn.fresh, Rn.did, Rn.setA, Rn.setB, Rn.note, Rn.goto, Rn.noted, Rn.fin, Rn.wake, writtenL, normF, behindA, wkOf, q0, wf11, Rn.wends, l0, a0, s0, c0, d0] <;> omega
    case r3 a => by_cases q0 : wfCalm x0 = true <;> constructor <;> simp [wfK, wfConc, wfFr, wfA, wfAct, Rn.fresh, Rn.did, Rn.setA, Rn.setB, Rn.note, Rn.goto, Rn.noted, Rn.fin, Rn.wake, writtenL, normF, behindA, wkOf, q0, wf13, wfCalmly, l0, a0, s0, c0, d0] <;> omega
    case u0 => constructor <;> simp [wfK, wfConc, wfFr, wfA, wfAct, Rn.fresh, Rn.did, Rn.setA, Rn.setB, Rn.note, Rn.goto, Rn.noted, Rn.fin, Rn.wake, writtenL, normF, behindA, wkOf, wf20, Rn.wends, l0, a0, s0, c0, d0] <;> omega
    case l0 => constructor <;> simp [wfK, wfConc, wfFr, wfA, wfAct, Rn.fresh, Rn.did, Rn.setA, Rn.setB, Rn.note, Rn.goto, Rn.noted, Rn.fin, Rn.wake, writtenL, normF, behindA, wkOf, wf30, l0, a0, s0, c0, d0] <;> omega
    case v0 => constructor <;> simp [wfK, wfConc, wfFr, wfA, wfAct, Rn.fresh, Rn.did, Rn.setA, Rn.setB, Rn.note, Rn.goto, Rn.noted, Rn.fin, Rn.wake, writtenL, normF, behindA, wkOf, wf40, l0, a0, s0, c0, d0] <;> omega
    case v1 a => constructor <;> simp [wfK, wfConc, wfFr, wfA, wfAct, Rn.fresh, Rn.did, Rn.setA, Rn.setB, Rn.note, Rn.goto, Rn.noted, Rn.fin, Rn.wake, writtenL, normF, behindA, wkOf, wf41, Rn.wends, l0, a0, s0, c0, d0] <;> omega
    case d0 => constructor <;> simp [wfK, wfConc, wfFr, wfA, wfAct, Rn.fresh, Rn.did, Rn.setA, Rn.setB, Rn.note, Rn.goto, Rn.noted, Rn.fin, Rn.wake, writtenL, normF, behindA, wkOf, wf80, l0, a0, s0, c0, d0] <;> omega
    case d1 a => constructor <;> simp [wfK, wfConc, wfFr, wfA, wfAct, Rn.fresh, Rn.did, Rn.setA, Rn.setB, Rn.note, Rn.goto, Rn.noted, Rn.fin, Rn.wake, writtenL, normF, behindA, wkOf, wf81, Rn.wends, l0, a0, s0, c0, d0] <;> omega
    case q0 a => by_cases q0 : wfCalm x0 = true <;> constructor <;> simp [wfK, wfConc, wfFr, wfA, wfAct, Rn.fresh, Rn.did, Rn.setA, Rn.setB, Rn.note, Rn.goto, Rn.noted, Rn.fin, Rn.wake, writtenL, normF, behindA, wkOf, q0, wf50, Rn.wchosen, l0, a0, s0, c0, d0] <;> omega
    case q1 a => by_cases q0 : x0 = a <;> constructor <;> simp [wfK, wfConc, wfFr, wfA, wfAct, Rn.fresh, Rn.did, Rn.setA, Rn.setB, Rn.note, Rn.goto, Rn.noted, Rn.fin, Rn.wake, writtenL, normF, behindA, wkOf, q0, wf51, Rn.wswapped, Rn.wends, l0, a0, s0, c0, d0] <;> omega
    case y0 a => by_cases q0 : (wfCalm x0 = true ∧ wfR x0 = 0) <;> constructor <;> simp [wfK, wfConc, wfFr, wfA, wfAct, Rn.fresh, Rn.did, Rn.setA, Rn.setB, Rn.note, Rn.goto, Rn.noted, Rn.fin, Rn.wake, writtenL, normF, behindA, wkOf, q0, wf60, Rn.wchosen, l0, a0, s0, c0, d0] <;> omega
    case y1 a => by_cases q0 : x0 = a <;> constructor <;> simp [wfK, wfConc, wfFr, wfA, wfAct, Rn.fresh, Rn.did, Rn.setA, Rn.setB, Rn.note, Rn.goto, Rn.noted, Rn.fin, Rn.wake, writtenL, normF, behindA, wkOf, q0, wf61, Rn.wswapped, Rn.wends, l0, a0, s0, c0, d0] <;> omega
    case z0 a => by_cases q0 : (wfCalm x0 = true ∧ wfR x0 = 1) <;> constructor <;> simp [wfK, wfConc, wfFr, wfA, wfAct, Rn.fresh, Rn.did, Rn.setA, Rn.setB, Rn.note, Rn.goto, Rn.noted, Rn.fin, Rn.wake, writtenL, normF, behindA, wkOf, q0, wf70, Rn.wchosen, l0, a0, s0, c0, d0] <;> omega
    case z1 a => by_cases q0 : x0 = a <;> constructor <;> simp [wfK, wfConc, wfFr, wfA, wfAct, Rn.fresh, Rn.did, Rn.setA, Rn.setB, Rn.note, Rn.goto, Rn.noted, Rn.fin, Rn.wake, writtenL, normF, behindA, wkOf, q0, wf71, Rn.wswapped, Rn.wends, l0, a0, s0, c0, d0] <;> omega
  · obtain ⟨sn, sm, stk, f, acc, notes, L⟩ := s
    simp only at hn hmd htk hf hl
    subst hn hmd htk hf
    cases p <;> simp [wfK, wfWait] at hw
    case r2 a =>
      obtain ⟨rfl, rfl⟩ := hw
      have hd := fun h => wait_done (L := L) (n := n) (mode := sm) (task := t) (st := st) (c := 0) (p := wfCalm) h
      have hs := fun h => wait_ds (L := L) (n := n) (mode := sm) (task := t) (st := st) (c := 0) (p := wfCalm) h0 h3 h
      simp [wfK, wfConc, wfFr, wfA, Rn.fresh, Rn.waited, wfKeep, wfPost, wf12, Rn.keep]
      generalize waitA L n sm t st 0 (wfCalm) = R at hd hs ⊢
      obtain ⟨rs, ra, rsn, rd, rw_⟩ := R
      cases rsn <;> cases rd <;> simp [Rn.note, Rn.fin, Rn.goto, Rn.setA, normF, behindA] at hd hs ⊢ <;> simp [hd, Wk.zero]
    case l1 a =>
      obtain ⟨rfl, rfl⟩ := hw
      have hd := fun h => wait_done (L := L) (n := n) (mode := sm) (task := t) (st := st) (c := 0) (p := fun v => wfT v == wfG a && wfR v == 0) h
      have hs := fun h => wait_ds (L := L) (n := n) (mode := sm) (task := t) (st := st) (c := 0) (p := fun v => wfT v == wfG a && wfR v == 0) h0 h3 h
      simp [wfK, wfConc, wfFr, wfA, Rn.fresh, Rn.waited, wfKeep, wfPost, wf31]
      generalize waitA L n sm t st 0 (fun v => wfT v == wfG a && wfR v == 0) = R at hd hs ⊢
      obtain ⟨rs, ra, rsn, rd, rw_⟩ := R
      cases rsn <;> cases rd <;> simp [Rn.note, Rn.fin, Rn.goto, Rn.setA, normF, behindA] at hd hs ⊢ <;> simp [hd, Wk.zero]
  · obtain ⟨sn, sm, stk, f, acc, notes, L⟩ := s
    simp only at hn hmd htk hf hl
    subst hn hmd htk hf
    cases p <;> simp [wfK, wfWait] at hw
    case r2 a =>
      obtain ⟨rfl, rfl⟩ := hw
      have hd := wait4_done (L := L) (n := n) (task := t) (c := 0) (p := wfCalm) hm2
      have hs := wait4_seen (L := L) (n := n) (task := t) (c := 0) (p := wfCalm) hm2
      simp [wfK, wfConc, wfFr, wfA, Rn.fresh, Rn.waited, wfKeep, wfPost, wf12, Rn.keep]
      generalize waitA L n sm t 4 0 (wfCalm) = R at hd hs ⊢
      obtain ⟨rs, ra, rsn, rd, rw_⟩ := R
      obtain ⟨rfl, rfl⟩ := hd
      obtain rfl := hs
      simp [Rn.note, Rn.fin, Rn.goto, Rn.setA, normF, behindA, Wk.zero]
    case l1 a =>
      obtain ⟨rfl, rfl⟩ := hw
      have hd := wait4_done (L := L) (n := n) (task := t) (c := 0) (p := fun v => wfT v == wfG a && wfR v == 0) hm2
      have hs := wait4_seen (L := L) (n := n) (task := t) (c := 0) (p := fun v => wfT v == wfG a && wfR v == 0) hm2
      simp [wfK, wfConc, wfFr, wfA, Rn.fresh, Rn.waited, wfKeep, wfPost, wf31]
      generalize waitA L n sm t 4 0 (fun v => wfT v == wfG a && wfR v == 0) = R at hd hs ⊢
      obtain ⟨rs, ra, rsn, rd, rw_⟩ := R
      obtain ⟨rfl, rfl⟩ := hd
      obtain rfl := hs
      simp [Rn.note, Rn.fin, Rn.goto, Rn.setA, normF, behindA, Wk.zero]

/-- A ticket; one who reads. -/
def wfTk : WfP → Int
  | .idle h => if h = 2 then 1 else 0
  | .l1 _ => 1
  | .v0 => 1
  | .v1 _ => 1
  | .d0 => 1
  | .d1 _ => 1
  | _ => 0
def wfRd : WfP → Int
  | .idle h => if h = 1 then 1 else 0
  | .u0 => 1
  | .z0 _ => 1
  | .z1 _ => 1
  | _ => 0
theorem wfTk_01 : ∀ x, 0 ≤ wfTk x := by intro x; cases x <;> simp [wfTk]; split <;> omega
theorem wfTk_1 : ∀ x, wfTk x ≤ 1 := by intro x; cases x <;> simp [wfTk]; split <;> omega
theorem wfRd_01 : ∀ x, 0 ≤ wfRd x := by intro x; cases x <;> simp [wfRd]; split <;> omega
theorem wfRd_1 : ∀ x, wfRd x ≤ 1 := by intro x; cases x <;> simp [wfRd]; split <;> omega

/-- What is so of a task, by the true counts: readers inside, turns, tickets; its ticket. -/
def wfAt (R U t : Int) : WfP → Prop
  | .idle h => h = 0 ∨ h = 1 ∨ (h = 2 ∧ t = U ∧ R = 0)
  | .r1 a => wfCalm a = true
  | .l1 a => wfG a = t % 256
  | .v0 => t = U ∧ R = 0
  | .v1 a => t = U ∧ R = 0 ∧ wfT a = U % 256
  | .d0 => t = U ∧ R = 0
  | .d1 a => t = U ∧ R = 0 ∧ wfT a = U % 256
  | .q1 a => wfCalm a = true
  | .y1 a => wfCalm a = true ∧ wfR a = 0
  | .z1 a => wfCalm a = true ∧ wfR a = 1
  | _ => True
structure WfIs (n : Nat) (ps : List WfP) (x : Int) (R U G : Int) (T : Nat → Int) : Prop where
  w : 0 ≤ x ∧ x < 4294967296
  r : wfR x = R
  t : wfT x = U % 256
  g : wfG x = G % 256
  ug : U ≤ G
  nt : G - U = ws wfTk ps
  nr : R = ws wfRd ps
  rng : ∀ i, i < n → wfTk (ps.getD i (wfK.idle 0)) = 1 → U ≤ T i ∧ T i < G
  inj : ∀ i j, i < n → j < n → i ≠ j → wfTk (ps.getD i (wfK.idle 0)) = 1 → wfTk (ps.getD j (wfK.idle 0)) = 1 → T i ≠ T j
  sur : ∀ t, U ≤ t → t < G → ∃ i, i < n ∧ wfTk (ps.getD i (wfK.idle 0)) = 1 ∧ T i = t
  at_ : ∀ i, i < n → wfAt R U (T i) (ps.getD i (wfK.idle 0))
def wfI (n b : Nat) (ps : List WfP) (m : Nat → Int) : Prop := n ≤ 64 ∧ ps.length = n ∧ ∃ R U G T, WfIs n ps (m 0) R U G T
section
variable {R U G x x' : Int} {n : Nat} {ps : List WfP} {T : Nat → Int} {i : Nat} {p p' : WfP}
theorem WfIs.few (H : WfIs n ps x R U G T) (hn : n ≤ 64) (hl : ps.length = n) : 0 ≤ R ∧ R ≤ 64 ∧ G - U ≤ 64 ∧ wfCalm x = (G == U) := by
  have a1 := ws_nonneg wfRd_01 ps
  have a2 := ws_len wfRd_1 ps
  have a3 := ws_len wfTk_1 ps
  have h1 := H.nr
  have h2 := H.nt
  have h3 := H.ug
  refine ⟨by omega, by omega, by omega, ?_⟩
  unfold wfCalm
  rw [H.t, H.g]
  by_cases e : G = U
  · rw [e]; simp
  · have e1 : (G == U) = false := by simpa using e
    rw [e1]
    have : ¬ U % 256 = G % 256 := by omega
    simpa using this
theorem wf_get (hl : ps.length = n) (hi : i < n) {j : Nat} : (ps.set i p').getD j (wfK.idle 0) = if i = j then p' else ps.getD j (wfK.idle 0) := getDsetG (by omega)
/-- A place turns; readers come or go; no ticket does. -/
theorem WfIs.same (H : WfIs n ps x R U G T) (hl : ps.length = n) (hi : i < n) (hp : ps.getD i (wfK.idle 0) = p) (ht : wfTk p' = wfTk p) {R' : Int} (hd : R' = R - wfRd p + wfRd p') (ha : wfAt R' U (T i) p') (hw : 0 ≤ x' ∧ x' < 4294967296) (e : wfR x' = R' ∧ wfT x' = wfT x ∧ wfG x' = wfG x)
    (ho : R' = R ∨ G = U ∨ 1 ≤ R) : WfIs n (ps.set i p') x' R' U G T := by
  have s1 := ws_set (f := wfTk) (d := wfK.idle 0) (x := p') (l := ps) (i := i) (by omega)
  have s2 := ws_set (f := wfRd) (d := wfK.idle 0) (x := p') (l := ps) (i := i) (by omega)
  rw [hp] at s1 s2
  have hT : ∀ j, wfTk ((ps.set i p').getD j (wfK.idle 0)) = wfTk (ps.getD j (wfK.idle 0)) := fun j => by
    rw [wf_get hl hi]
    split
    · rename_i e; subst e; rw [hp, ht]
    · rfl
  refine ⟨hw, e.1, e.2.1.trans H.t, e.2.2.trans H.g, H.ug, by have := H.nt; omega, by have := H.nr; omega, fun j hj h => H.rng j hj (by rw [← hT]; exact h), fun j k hj hk hjk h1 h2 => H.inj j k hj hk hjk (by rw [← hT]; exact h1) (by rw [← hT]; exact h2), fun t h1 h2 => ?_, fun j hj => ?_⟩
  · obtain ⟨j, g1, g2, g3⟩ := H.sur t h1 h2
    exact ⟨j, g1, by rw [hT]; exact g2, g3⟩
  · rw [wf_get hl hi]
    split
    · rename_i e; subst e; exact ha
    · have hrj := H.rng j hj
      have hj := H.at_ j hj
      generalize ps.getD j (wfK.idle 0) = q at hj hrj
      cases q <;> simp only [wfAt, wfTk] at hj hrj ⊢ <;> first | exact hj | skip
      case idle h =>
        rcases hj with h1 | h1 | ⟨h1, h3, h4⟩
        · exact Or.inl h1
        · exact Or.inr (Or.inl h1)
        · have := hrj (by rw [if_pos h1])
          exact Or.inr (Or.inr ⟨h1, h3, by omega⟩)
      all_goals (have := hrj trivial; omega)
/-- A ticket is taken; readers go. -/
theorem WfIs.take (H : WfIs n ps x R U G T) (hl : ps.length = n) (hi : i < n) (hp : ps.getD i (wfK.idle 0) = p) (ht0 : wfTk p = 0) (ht : wfTk p' = 1) {R' : Int} (hd : R' = R - wfRd p + wfRd p') (ha : wfAt R' U G p') (hw : 0 ≤ x' ∧ x' < 4294967296) (e : wfR x' = R' ∧ wfT x' = wfT x ∧ wfG x' = (wfG x + 1) % 256) (ho : R' = R ∨ G = U) :
    ∃ T', WfIs n (ps.set i p') x' R' U (G + 1) T' := by
  have s1 := ws_set (f := wfTk) (d := wfK.idle 0) (x := p') (l := ps) (i := i) (by omega)
  have s2 := ws_set (f := wfRd) (d := wfK.idle 0) (x := p') (l := ps) (i := i) (by omega)
  rw [hp] at s1 s2
  have hug := H.ug
  refine ⟨fun j => if j = i then G else T j, hw, e.1, e.2.1.trans H.t, by rw [e.2.2, H.g]; omega, by omega, by have := H.nt; omega, by have := H.nr; omega, fun j hj h => ?_, fun j k hj hk hjk h1 h2 => ?_, fun t h1 h2 => ?_, fun j hj => ?_⟩
  · rw [wf_get hl hi] at h
    by_cases e : i = j
    · subst e; simp only [if_true]; omega
    · rw [if_neg e] at h
      simp only [if_neg (fun h : j = i => e h.symm)]
      have := H.rng j hj h
      omega
  · rw [wf_get hl hi] at h1 h2
    by_cases e1 : i = j
    · subst e1
      rw [if_neg hjk] at h2
      have := H.rng k hk h2
      simp only [if_true, if_neg (fun h : k = i => hjk h.symm)]
      omega
    · rw [if_neg e1] at h1
      by_cases e2 : i = k
      · subst e2
        have := H.rng j hj h1
        simp only [if_true, if_neg (fun h : j = i => e1 h.symm)]
        omega
      · rw [if_neg e2] at h2
        simp only [if_neg (fun h : j = i => e1 h.symm), if_neg (fun h : k = i => e2 h.symm)]
        exact H.inj j k hj hk hjk h1 h2
  · by_cases hu : t = G
    · exact ⟨i, hi, by rw [wf_get hl hi, if_pos rfl]; exact ht, by simp [hu]⟩
    · obtain ⟨j, g1, g2, g3⟩ := H.sur t h1 (by omega)
      have hji : ¬ i = j := by rintro rfl; rw [hp, ht0] at g2; omega
      exact ⟨j, g1, by rw [wf_get hl hi, if_neg hji]; exact g2, by simp only [if_neg (fun h : j = i => hji h.symm)]; exact g3⟩
  · rw [wf_get hl hi]
    by_cases e1 : i = j
    · subst e1; simp only [if_true]; exact ha
    · simp only [if_neg e1, if_neg (fun h : j = i => e1 h.symm)]
      have hrj := H.rng j hj
      have hj := H.at_ j hj
      generalize ps.getD j (wfK.idle 0) = q at hj hrj
      cases q <;> simp only [wfAt, wfTk] at hj hrj ⊢ <;> first | exact hj | skip
      case idle h =>
        rcases hj with h1 | h1 | ⟨h1, h3, h4⟩
        · exact Or.inl h1
        · exact Or.inr (Or.inl h1)
        · have := hrj (by rw [if_pos h1])
          exact Or.inr (Or.inr ⟨h1, h3, by omega⟩)
      all_goals (have := hrj trivial; omega)
/-- The turn is given on. -/
theorem WfIs.turn (H : WfIs n ps x R U G T) (hl : ps.length = n) (hi : i < n) (hp : ps.getD i (wfK.idle 0) = p) (ht0 : wfTk p = 1) (hR : T i = U) (ht : wfTk p' = 0) {R' : Int} (hd : R' = R - wfRd p + wfRd p') (ha : wfAt R' (U + 1) (T i) p') (hw : 0 ≤ x' ∧ x' < 4294967296) (e : wfR x' = R' ∧ wfT x' = (wfT x + 1) % 256 ∧ wfG x' = wfG x) :
    WfIs n (ps.set i p') x' R' (U + 1) G T := by
  have s1 := ws_set (f := wfTk) (d := wfK.idle 0) (x := p') (l := ps) (i := i) (by omega)
  have s2 := ws_set (f := wfRd) (d := wfK.idle 0) (x := p') (l := ps) (i := i) (by omega)
  rw [hp] at s1 s2
  have hru := (H.rng i hi (by rw [hp]; exact ht0)).2
  refine ⟨hw, e.1, by rw [e.2.1, H.t]; omega, e.2.2.trans H.g, by omega, by have := H.nt; omega, by have := H.nr; omega, fun j hj h => ?_, fun j k hj hk hjk h1 h2 => ?_, fun t h1 h2 => ?_, fun j hj => ?_⟩
  · rw [wf_get hl hi] at h
    by_cases e : i = j
    · subst e; rw [if_pos rfl, ht] at h; omega
    · rw [if_neg e] at h
      have g1 := H.rng j hj h
      have g2 := H.inj i j hi hj e (by rw [hp]; exact ht0) h
      omega
  · rw [wf_get hl hi] at h1 h2
    have e1 : ¬ i = j := by rintro rfl; rw [if_pos rfl, ht] at h1; omega
    have e2 : ¬ i = k := by rintro rfl; rw [if_pos rfl, ht] at h2; omega
    rw [if_neg e1] at h1
    rw [if_neg e2] at h2
    exact H.inj j k hj hk hjk h1 h2
  · obtain ⟨j, g1, g2, g3⟩ := H.sur t (by omega) h2
    have hji : ¬ i = j := by rintro rfl; omega
    exact ⟨j, g1, by rw [wf_get hl hi, if_neg hji]; exact g2, g3⟩
  · rw [wf_get hl hi]
    by_cases e1 : i = j
    · subst e1; rw [if_pos rfl]; exact ha
    · rw [if_neg e1]
      have g2 := fun h => H.inj i j hi hj e1 (by rw [hp]; exact ht0) h
      have hj := H.at_ j hj
      generalize ps.getD j (wfK.idle 0) = q at hj g2
      cases q <;> simp only [wfAt, wfTk] at hj g2 ⊢ <;> first | exact hj | skip
      case idle h =>
        rcases hj with h1 | h1 | ⟨h1, h3, h4⟩
        · exact Or.inl h1
        · exact Or.inr (Or.inl h1)
        · exact absurd (hR.trans h3.symm) (g2 (by rw [if_pos h1]))
      all_goals (exfalso; simp at g2; omega)
end

theorem wgv_add1 {v : Int} (h : 0 ≤ v ∧ v < 4294967296) (hr : wfR v < 255) : (0 ≤ (v + 1) % 4294967296 ∧ (v + 1) % 4294967296 < 4294967296) ∧ wfR ((v + 1) % 4294967296) = wfR v + 1 ∧ wfT ((v + 1) % 4294967296) = wfT v ∧ wfG ((v + 1) % 4294967296) = wfG v := by
  unfold wfR wfT wfG at *; omega
theorem wgv_sub1 {v : Int} (h : 0 ≤ v ∧ v < 4294967296) (hr : 1 ≤ wfR v) : (0 ≤ (v + 4294967295) % 4294967296 ∧ (v + 4294967295) % 4294967296 < 4294967296) ∧ wfR ((v + 4294967295) % 4294967296) = wfR v - 1 ∧ wfT ((v + 4294967295) % 4294967296) = wfT v ∧ wfG ((v + 4294967295) % 4294967296) = wfG v := by
  unfold wfR wfT wfG at *; omega
theorem wgv_ticket {v : Int} (h : 0 ≤ v ∧ v < 4294967296) : (0 ≤ (v + 65536) % 4294967296 ∧ (v + 65536) % 4294967296 < 4294967296) ∧ wfR ((v + 65536) % 4294967296) = wfR v ∧ wfT ((v + 65536) % 4294967296) = wfT v ∧ wfG ((v + 65536) % 4294967296) = (wfG v + 1) % 256 := by
  unfold wfR wfT wfG at *; omega
theorem wgv_up {v : Int} (h : 0 ≤ v ∧ v < 4294967296) (hr : 1 ≤ wfR v) : (0 ≤ (v + 65535) % 4294967296 ∧ (v + 65535) % 4294967296 < 4294967296) ∧ wfR ((v + 65535) % 4294967296) = wfR v - 1 ∧ wfT ((v + 65535) % 4294967296) = wfT v ∧ wfG ((v + 65535) % 4294967296) = (wfG v + 1) % 256 := by
  unfold wfR wfT wfG at *; omega
theorem wgv_next {v : Int} (h : 0 ≤ v ∧ v < 4294967296) : (0 ≤ (v + bump8 v) % 4294967296 ∧ (v + bump8 v) % 4294967296 < 4294967296) ∧ wfR ((v + bump8 v) % 4294967296) = wfR v ∧ wfT ((v + bump8 v) % 4294967296) = (wfT v + 1) % 256 ∧ wfG ((v + bump8 v) % 4294967296) = wfG v := by
  have e : (v + bump8 v) % 4294967296 = v - v / 256 % 256 * 256 + (v / 256 % 256 + 1) % 256 * 256 := by unfold bump8; omega
  rw [e]
  unfold wfR wfT wfG at *
  refine ⟨⟨by omega, by omega⟩, by omega, by omega, by omega⟩
theorem wgv_next1 {v : Int} (h : 0 ≤ v ∧ v < 4294967296) (hr : wfR v = 0) : (0 ≤ (v + (bump8 v + 1) % 4294967296) % 4294967296 ∧ (v + (bump8 v + 1) % 4294967296) % 4294967296 < 4294967296) ∧ wfR ((v + (bump8 v + 1) % 4294967296) % 4294967296) = 1 ∧ wfT ((v + (bump8 v + 1) % 4294967296) % 4294967296) = (wfT v + 1) % 256 ∧ wfG ((v + (bump8 v + 1) % 4294967296) % 4294967296) = wfG v := by
  have h1 := wgv_next h
  have e : (v + (bump8 v + 1) % 4294967296) % 4294967296 = ((v + bump8 v) % 4294967296 + 1) % 4294967296 := by omega
  rw [e]
  obtain ⟨h2, h3, h4, h5⟩ := h1
  have := wgv_add1 h2 (by omega)
  rw [h3, h4, h5] at this
  refine ⟨this.1, by omega, this.2.2.1, this.2.2.2⟩


theorem bump8_same {a x : Int} (h : wfT a = wfT x) : bump8 a = bump8 x := by
  unfold wfT at h
  unfold bump8
  rw [h]
theorem wf_I {n b : Nat} {ps : List WfP} {m : Nat → Int} {R U G : Int} {T : Nat → Int} (h1 : n ≤ 64) (h2 : ps.length = n) (H : WfIs n ps (m 0) R U G T) : wfI n b ps m := ⟨h1, h2, R, U, G, T, H⟩

set_option maxHeartbeats 3200000 in
theorem wf_kept (n : Nat) : wfK.Keeps n (wfI n) := by
  refine ⟨fun b ps m H => H, fun b ps m i _ _ _ => trivial, fun b ps m i op h H hi hl hp hm => ?_, fun b ps m i H hi hl hw hop => ?_, fun b ps m i c pr H hi hl hw hpr => ?_, fun b ps m i j c pr H hi hj hij hl hw hop hwj hpr => ?_⟩
  · obtain ⟨h1, h2, R, U, G, T, H⟩ := H
    have ha := H.at_ i hi
    rw [hp] at ha
    have ha : h = 0 ∨ h = 1 ∨ (h = 2 ∧ T i = U ∧ R = 0) := ha
    have key : wfTk (wfK.start op h) = wfTk (wfK.idle h) ∧ wfRd (wfK.start op h) = wfRd (wfK.idle h) ∧ wfAt R U (T i) (wfK.start op h) := by
      rcases may_ops hm with ⟨rfl, rfl | rfl | rfl | rfl⟩ | ⟨rfl, rfl | rfl⟩ | ⟨g1, g2, rfl | rfl⟩ <;> simp [wfK, wfStart, wfTk, wfRd, wfAt] <;> omega
    exact wf_I h1 (by simpa using h2) (H.same hl hi hp key.1 (R' := R) (by rw [key.2.1]; omega) key.2.2 H.w ⟨H.r, rfl, rfl⟩ (Or.inl rfl))
  · obtain ⟨h1, h2, R, U, G, T, H⟩ := H
    have ha := H.at_ i hi
    have hrg := H.rng i hi
    have hact : wfK.act i (ps.getD i (wfK.idle 0)) m = wfAct (m 0) (ps.getD i (wfK.idle 0)) := rfl
    rw [hact]
    obtain ⟨p, hp⟩ : ∃ p, ps.getD i (wfK.idle 0) = p := ⟨_, rfl⟩
    rw [hp] at ha hrg hw hop ⊢
    have hl2 : ∀ q, (ps.set i q).length = n := fun q => by simpa using h2
    obtain ⟨f1, f2, f3, f4⟩ := H.few h1 h2
    have hr := H.r
    have ht := H.t
    have hg := H.g
    have hug := H.ug
    have hx := H.w
    have d1 := ws_one (d := wfK.idle 0) wfRd_01 (l := ps) (i := i) (by omega)
    rw [hp, ← H.nr] at d1
    have hwr : ∀ v, written m (some (0, v)) 0 = v := fun v => by simp [written, upd]
    have nowr : ∀ q, wfTk q = wfTk p → wfRd q = wfRd p → wfAt R U (T i) q → wfI n b (ps.set i q) m := fun q g1 g2 g3 => wf_I h1 (hl2 q) (H.same hl hi hp g1 (by rw [g2]; omega) g3 H.w ⟨H.r, rfl, rfl⟩ (Or.inl rfl))
    have read : ∀ q v R', R' = R - wfRd p + wfRd q → wfTk q = wfTk p → wfAt R' U (T i) q → (0 ≤ v ∧ v < 4294967296) → (wfR v = R' ∧ wfT v = wfT (m 0) ∧ wfG v = wfG (m 0)) → (R' = R ∨ G = U ∨ 1 ≤ R) → wfI n b (ps.set i q) (written m (some (0, v))) := fun q v R' g1 g2 g3 g4 g5 g6 =>
      wf_I h1 (hl2 q) (R := R') (by rw [hwr]; exact H.same hl hi hp g2 g1 g3 g4 g5 g6)
    have taken : ∀ q v R', wfTk p = 0 → wfTk q = 1 → R' = R - wfRd p + wfRd q → wfAt R' U G q → (0 ≤ v ∧ v < 4294967296) → (wfR v = R' ∧ wfT v = wfT (m 0) ∧ wfG v = (wfG (m 0) + 1) % 256) → (R' = R ∨ G = U) → wfI n b (ps.set i q) (written m (some (0, v))) := fun q v R' g1 g2 g3 g4 g5 g6 g7 => by
      obtain ⟨T', H'⟩ := H.take hl hi hp g1 g2 g3 g4 g5 g6 g7
      exact wf_I h1 (hl2 q) (by rw [hwr]; exact H')
    have turned : ∀ q v R', wfTk p = 1 → T i = U → wfTk q = 0 → R' = R - wfRd p + wfRd q → wfAt R' (U + 1) (T i) q → (0 ≤ v ∧ v < 4294967296) → (wfR v = R' ∧ wfT v = (wfT (m 0) + 1) % 256 ∧ wfG v = wfG (m 0)) → wfI n b (ps.set i q) (written m (some (0, v))) := fun q v R' g1 g2 g3 g4 g5 g6 g7 =>
      wf_I h1 (hl2 q) (by rw [hwr]; exact H.turn hl hi hp g1 g2 g3 g4 g5 g6 g7)
    have calm : ∀ a, m 0 = a → wfCalm a = true → G = U := fun a g1 g2 => by rw [← g1, f4] at g2; simpa using g2
    cases p <;> simp [wfK, wfWait] at hw <;> simp [wfK, wfConc, wfFr, Fr.zero] at hop <;> simp only [wfAt] at ha <;> simp only [wfTk] at hrg <;> simp only [wfRd] at d1 <;> simp only [wfAct]
    case r0 =>
      split
      · exact nowr _ rfl rfl (by assumption)
      · exact nowr _ rfl rfl trivial
    case r3 a =>
      split
      · exact nowr _ rfl rfl (by assumption)
      · exact nowr _ rfl rfl trivial
    case r1 a =>
      by_cases hq : m 0 = a
      · rw [if_pos hq, ← hq]
        have k := wgv_add1 hx (by omega)
        exact read _ _ (R + 1) (by simp [wfRd]) rfl (Or.inr (Or.inl rfl)) k.1 ⟨by omega, k.2.2.1, k.2.2.2⟩ (Or.inr (Or.inl (calm a hq ha)))
      · rw [if_neg hq]; exact nowr _ rfl rfl trivial
    case q1 a =>
      by_cases hq : m 0 = a
      · rw [if_pos hq, ← hq]
        have k := wgv_add1 hx (by omega)
        exact read _ _ (R + 1) (by simp [wfRd]) rfl (Or.inr (Or.inl rfl)) k.1 ⟨by omega, k.2.2.1, k.2.2.2⟩ (Or.inr (Or.inl (calm a hq ha)))
      · rw [if_neg hq]; exact nowr _ rfl rfl trivial
    case u0 =>
      have k := wgv_sub1 hx (by omega)
      exact read _ _ (R - 1) (by simp [wfRd]) rfl (Or.inl rfl) k.1 ⟨by omega, k.2.2.1, k.2.2.2⟩ (Or.inr (Or.inr (by omega)))
    case l0 =>
      have k := wgv_ticket hx
      exact taken _ _ R rfl rfl (by simp [wfRd]) hg k.1 ⟨by omega, k.2.2.1, k.2.2.2⟩ (Or.inl rfl)
    case v0 => exact nowr _ rfl rfl ⟨ha.1, ha.2, ht⟩
    case d0 => exact nowr _ rfl rfl ⟨ha.1, ha.2, ht⟩
    case v1 a =>
      have k := wgv_next hx
      rw [bump8_same (x := m 0) (by rw [ha.2.2, ht])]
      exact turned _ _ R rfl ha.1 rfl (by simp [wfRd]) (Or.inl rfl) k.1 ⟨by omega, k.2.2.1, k.2.2.2⟩
    case d1 a =>
      have k := wgv_next1 hx (by omega)
      rw [bump8_same (x := m 0) (by rw [ha.2.2, ht])]
      exact turned _ _ 1 rfl ha.1 rfl (by simp [wfRd]; omega) (Or.inr (Or.inl rfl)) k.1 ⟨k.2.1, k.2.2.1, k.2.2.2⟩
    case q0 a =>
      split
      · exact nowr _ rfl rfl (by assumption)
      · exact nowr _ rfl rfl (Or.inl rfl)
    case y0 a =>
      split
      · rename_i hq
        simp at hq
        exact nowr _ rfl rfl hq
      · exact nowr _ rfl rfl (Or.inl rfl)
    case z0 a =>
      split
      · rename_i hq
        simp at hq
        exact nowr _ rfl rfl hq
      · exact nowr _ rfl rfl (Or.inr (Or.inl rfl))
    case y1 a =>
      by_cases hq : m 0 = a
      · rw [if_pos hq, ← hq]
        have hc := calm a hq ha.1
        rw [← hq] at ha
        have k := wgv_ticket hx
        exact taken _ _ R rfl rfl (by simp [wfRd]) (Or.inr (Or.inr ⟨rfl, hc, by omega⟩)) k.1 ⟨by omega, k.2.2.1, k.2.2.2⟩ (Or.inl rfl)
      · rw [if_neg hq]; exact nowr _ rfl rfl trivial
    case z1 a =>
      by_cases hq : m 0 = a
      · rw [if_pos hq, ← hq]
        have hc := calm a hq ha.1
        rw [← hq] at ha
        have k := wgv_up hx (by omega)
        exact taken _ _ 0 rfl rfl (by simp [wfRd]; omega) (Or.inr (Or.inr ⟨rfl, hc, rfl⟩)) k.1 ⟨by omega, k.2.2.1, k.2.2.2⟩ (Or.inr hc)
      · rw [if_neg hq]; exact nowr _ rfl rfl trivial
  · obtain ⟨h1, h2, R, U, G, T, H⟩ := H
    have ha := H.at_ i hi
    have hrg := H.rng i hi
    have hpost : wfK.post (ps.getD i (wfK.idle 0)) (m c) = wfPost (m c) (ps.getD i (wfK.idle 0)) := rfl
    rw [hpost]
    obtain ⟨p, hp⟩ : ∃ p, ps.getD i (wfK.idle 0) = p := ⟨_, rfl⟩
    rw [hp] at ha hrg hw ⊢
    obtain ⟨f1, f2, f3, f4⟩ := H.few h1 h2
    have hr := H.r
    have ht := H.t
    cases p <;> simp [wfK, wfWait] at hw <;> simp only [wfAt] at ha <;> simp only [wfTk] at hrg
    case r2 a =>
      obtain ⟨rfl, rfl⟩ := hw
      exact wf_I h1 (by simpa using h2) (H.same (p' := .r1 (m 0)) (R' := R) hl hi hp rfl (by simp [wfRd]) hpr H.w ⟨H.r, rfl, rfl⟩ (Or.inl rfl))
    case l1 a =>
      obtain ⟨rfl, rfl⟩ := hw
      have hq : wfT (m 0) = wfG a ∧ wfR (m 0) = 0 := by simpa using hpr
      have hr2 := hrg trivial
      exact wf_I h1 (by simpa using h2) (H.same (p' := .idle 2) (R' := R) hl hi hp rfl (by simp [wfRd]) (Or.inr (Or.inr ⟨rfl, by omega, by omega⟩)) H.w ⟨H.r, rfl, rfl⟩ (Or.inl rfl))
  · obtain ⟨h1, h2, R, U, G, T, H⟩ := H
    have hact : wfK.act i (ps.getD i (wfK.idle 0)) m = wfAct (m 0) (ps.getD i (wfK.idle 0)) := rfl
    rw [hact] at hpr ⊢
    have hai := H.at_ i hi
    have hrj := H.rng j hj
    obtain ⟨p, hp⟩ : ∃ p, ps.getD i (wfK.idle 0) = p := ⟨_, rfl⟩
    obtain ⟨q, hq⟩ : ∃ q, ps.getD j (wfK.idle 0) = q := ⟨_, rfl⟩
    rw [hp] at hai hw hop hpr ⊢
    rw [hq] at hrj hwj
    obtain ⟨f1, f2, f3, f4⟩ := H.few h1 h2
    have hr := H.r
    have ht := H.t
    have hg := H.g
    have hx := H.w
    have hug := H.ug
    have hwr : ∀ v, written m (some (0, v)) 0 = v := fun v => by simp [written, upd]
    have hc : c = 0 ∧ (pr = wfCalm ∨ ∃ a, q = .l1 a ∧ pr = (fun v => wfT v == wfG a && wfR v == 0)) := by
      cases q <;> simp [wfK, wfWait] at hwj
      case r2 a => exact ⟨hwj.1.symm, Or.inl hwj.2.symm⟩
      case l1 a => exact ⟨hwj.1.symm, Or.inr ⟨a, rfl, hwj.2.symm⟩⟩
    obtain ⟨rfl, hprs⟩ := hc
    have keep : written m (wfAct (m 0) p).2.1 0 = m 0 → pr (m 0) = true ∨ (wfAct (m 0) p).2.2 = some 0 := fun e => Or.inl (by rw [← e]; exact hpr)
    have more : ∀ v, written m (wfAct (m 0) p).2.1 0 = v → wfR v ≠ 0 → wfT v = wfT (m 0) → wfG v = wfG (m 0) → pr (m 0) = true ∨ (wfAct (m 0) p).2.2 = some 0 := fun v e e1 e2 e3 => by
      rw [e] at hpr
      rcases hprs with rfl | ⟨a, rfl, rfl⟩
      · left
        unfold wfCalm at hpr ⊢
        rw [← e2, ← e3]; exact hpr
      · simp at hpr
        exact absurd hpr.2 e1
    have tick : ∀ v, written m (wfAct (m 0) p).2.1 0 = v → (wfR v = wfR (m 0) ∨ G = U) → wfT v = wfT (m 0) → wfG v = (wfG (m 0) + 1) % 256 → pr (m 0) = true ∨ (wfAct (m 0) p).2.2 = some 0 := fun v e e1 e2 e3 => by
      rw [e] at hpr
      rcases hprs with rfl | ⟨a, rfl, rfl⟩
      · exfalso
        unfold wfCalm at hpr
        rw [e2, e3, ht, hg] at hpr
        have : U % 256 = (G % 256 + 1) % 256 := by simpa using hpr
        omega
      · have hr2 := hrj rfl
        rcases e1 with e1 | e1
        · left
          simp only at hpr ⊢
          rw [e1, e2] at hpr
          exact hpr
        · omega
    cases p <;> simp [wfK, wfWait] at hw <;> simp [wfK, wfConc, wfFr, Fr.zero] at hop <;> simp only [wfAt] at hai
    case u0 => exact Or.inr rfl
    case v1 a => exact Or.inr rfl
    case d1 a => exact Or.inr rfl
    case r0 => exact keep rfl
    case r3 a => exact keep rfl
    case v0 => exact keep rfl
    case d0 => exact keep rfl
    case q0 a => exact keep rfl
    case y0 a => exact keep rfl
    case z0 a => exact keep rfl
    case l0 =>
      have k := wgv_ticket hx
      exact tick _ (hwr _) (Or.inl k.2.1) k.2.2.1 k.2.2.2
    case r1 a =>
      by_cases hq : m 0 = a
      · have k := wgv_add1 hx (by omega)
        exact more ((m 0 + 1) % 4294967296) (by simp only [wfAct, if_pos hq]; rw [hwr, hq]) (by omega) k.2.2.1 k.2.2.2
      · exact keep (by simp only [wfAct, if_neg hq]; rfl)
    case q1 a =>
      by_cases hq : m 0 = a
      · have k := wgv_add1 hx (by omega)
        exact more ((m 0 + 1) % 4294967296) (by simp only [wfAct, if_pos hq]; rw [hwr, hq]) (by omega) k.2.2.1 k.2.2.2
      · exact keep (by simp only [wfAct, if_neg hq]; rfl)
    case y1 a =>
      by_cases hq : m 0 = a
      · have k := wgv_ticket hx
        exact tick ((m 0 + 65536) % 4294967296) (by simp only [wfAct, if_pos hq]; rw [hwr, hq]) (Or.inl k.2.1) k.2.2.1 k.2.2.2
      · exact keep (by simp only [wfAct, if_neg hq]; rfl)
    case z1 a =>
      by_cases hq : m 0 = a
      · have hc : G = U := by
          have := hai.1
          rw [← hq, f4] at this
          simpa using this
        rw [← hq] at hai
        have k := wgv_up hx (by omega)
        exact tick ((m 0 + 65535) % 4294967296) (by simp only [wfAct, if_pos hq]; rw [hwr, hq]) (Or.inr hc) k.2.2.1 k.2.2.2
      · exact keep (by simp only [wfAct, if_neg hq]; rfl)

/-- How many writes are left; how many that wake; how many steps while no word changes. -/
def wfNw : WfP → Nat
  | .idle h => if h = 0 then 0 else 1
  | .u0 => 1
  | .l1 _ => 1
  | .v0 => 1
  | .v1 _ => 1
  | _ => 2
def wfNv : WfP → Nat
  | .idle h => if h = 0 then 0 else 1
  | .d0 => 2
  | .d1 _ => 2
  | _ => 1
def wfCp (x : Int) : WfP → Nat
  | .idle h => if h = 0 then 0 else if h = 1 then 1 else 2
  | .r0 => 6 | .r3 _ => 6
  | .r1 a => if x = a then 1 else 7
  | .r2 _ => if wfCalm x then 2 else 5
  | .l1 a => if wfT x == wfG a && wfR x == 0 then 3 else 5
  | .v0 => 2 | .d0 => 2
  | .q0 _ => 2 | .y0 _ => 2 | .z0 _ => 2
  | .q1 a => if x = a then 1 else 3
  | .y1 a => if x = a then 1 else 3
  | .z1 a => if x = a then 1 else 3
  | _ => 1

set_option maxHeartbeats 1600000 in
theorem wf_live (n : Nat) : wfK.Live n (wfI n) 2 2 9 wfNw wfNv (fun m _ p => wfCp (m 0) p) := by
  refine ⟨fun p => by cases p <;> simp [wfNw] <;> (repeat' split) <;> omega, fun p => by cases p <;> simp [wfNv] <;> (repeat' split) <;> omega, by decide, fun m t p => by cases p <;> simp [wfCp] <;> (repeat' split) <;> omega, fun m t p c pr hw hpr => ?_, fun m t p c pr hw hpr => ?_, fun t p c pr v hw => ?_,
    fun m t p w hw hop he => ?_, fun b ps m t p hI hpl ht hpt hw hop he => ?_, fun m t h hh => ?_, fun m t => rfl, fun m t p hw hz => ?_, fun b ps m H hl hall => ?_⟩
  · cases p <;> simp [wfK, wfWait] at hw
    · obtain ⟨rfl, rfl⟩ := hw
      simp [wfK, wfPost, wfCp, hpr]
    · obtain ⟨rfl, rfl⟩ := hw
      simp only [wfK, wfPost, wfCp, hpr]
      decide
  · cases p <;> simp [wfK, wfWait] at hw
    · obtain ⟨rfl, rfl⟩ := hw
      simp [wfCp, hpr]
    · obtain ⟨rfl, rfl⟩ := hw
      simp only [wfCp, hpr]
      decide
  · cases p <;> simp [wfK, wfWait] at hw <;> simp [wfK, wfPost, wfNw, wfNv]
  · have hact : wfK.act t p m = wfAct (m 0) p := rfl
    rw [hact] at he ⊢
    cases p <;> simp [wfK, wfWait] at hw <;> simp [wfK, wfConc, wfFr, Fr.zero] at hop
    case r1 a => by_cases hq : m 0 = a <;> simp [wfAct, hq] at he <;> simp [wfAct, wfNw, wfNv, hq]
    case q1 a => by_cases hq : m 0 = a <;> simp [wfAct, hq] at he <;> simp [wfAct, wfNw, wfNv, hq]
    case y1 a => by_cases hq : m 0 = a <;> simp [wfAct, hq] at he <;> simp [wfAct, wfNw, wfNv, hq]
    case z1 a => by_cases hq : m 0 = a <;> simp [wfAct, hq] at he <;> simp [wfAct, wfNw, wfNv, hq]
    all_goals first | (simp [wfAct] at he; done) | simp [wfAct, wfNw, wfNv]
  · have hact : wfK.act t p m = wfAct (m 0) p := rfl
    rw [hact] at he ⊢
    show _ ∧ _ ∧ _ ∧ wfCp (m 0) (wfAct (m 0) p).1 + 1 ≤ wfCp (m 0) p
    clear hact hpt hI
    cases p <;> simp [wfK, wfWait] at hw <;> simp [wfK, wfConc, wfFr, Fr.zero] at hop
    case r0 => by_cases hq : wfCalm (m 0) = true <;> simp [wfAct, wfNw, wfNv, wfCp, hq]
    case r3 a => by_cases hq : wfCalm (m 0) = true <;> simp [wfAct, wfNw, wfNv, wfCp, hq]
    case v0 => simp [wfAct, wfNw, wfNv, wfCp]
    case d0 => simp [wfAct, wfNw, wfNv, wfCp]
    case q0 a => by_cases hq : wfCalm (m 0) = true <;> simp [wfAct, wfNw, wfNv, wfCp, hq]
    case y0 a => simp only [wfAct]; split <;> simp [wfNw, wfNv, wfCp]
    case z0 a => simp only [wfAct]; split <;> simp [wfNw, wfNv, wfCp]
    case r1 a => by_cases hq : m 0 = a <;> simp [wfAct, hq] at he <;> simp [wfAct, wfNw, wfNv, wfCp, hq]
    case q1 a => by_cases hq : m 0 = a <;> simp [wfAct, hq] at he <;> simp [wfAct, wfNw, wfNv, wfCp, hq]
    case y1 a => by_cases hq : m 0 = a <;> simp [wfAct, hq] at he <;> simp [wfAct, wfNw, wfNv, wfCp, hq]
    case z1 a => by_cases hq : m 0 = a <;> simp [wfAct, hq] at he <;> simp [wfAct, wfNw, wfNv, wfCp, hq]
    all_goals (simp [wfAct] at he)
  · rcases hh with rfl | rfl <;> simp [wfK, wfStart, wfNw, wfNv, wfCp]
  · cases p <;> simp [wfK, wfWait] at hw <;> simp [wfCp] at hz
    case idle h =>
      rcases Decidable.em (h = 0) with h0 | h0
      · subst h0; rfl
      · have hz := hz h0
        split at hz <;> simp at hz
    all_goals (split at hz <;> simp at hz)
  · obtain ⟨h1, h2, R, U, G, T, H⟩ := H
    obtain ⟨f1, f2, f3, f4⟩ := H.few h1 h2
    have hd0 : ws wfRd ps = 0 := by
      refine ws_all0 (d := wfK.idle 0) hl (fun i hi => ?_)
      rcases hall i hi with h | ⟨c, pr, hw, _⟩
      · rw [h]; rfl
      · generalize ps.getD i (wfK.idle 0) = p at hw ⊢
        cases p <;> simp [wfK, wfWait] at hw <;> rfl
    have hnr := H.nr
    have hr := H.r
    have ht := H.t
    intro i hi
    rcases hall i hi with h | ⟨c, pr, hw, hpr⟩
    · exact h
    · exfalso
      have hgu : U < G := by
        have hug := H.ug
        have hrg := H.rng i hi
        generalize ps.getD i (wfK.idle 0) = p at hw hrg
        cases p <;> simp [wfK, wfWait] at hw
        · obtain ⟨rfl, rfl⟩ := hw
          rw [f4] at hpr
          have : G ≠ U := by simpa using hpr
          omega
        · have := hrg rfl
          omega
      obtain ⟨j, hj, g2, g3⟩ := H.sur U (Int.le_refl _) hgu
      have haj := H.at_ j hj
      rcases hall j hj with h | ⟨c, pr, hw, hpr⟩
      · rw [h, show wfTk (wfK.idle 0) = 0 from rfl] at g2; exact absurd g2 (by decide)
      · generalize ps.getD j (wfK.idle 0) = p at hw haj g2
        cases p <;> simp [wfK, wfWait] at hw <;> simp only [wfAt] at haj
        · simp [wfTk] at g2
        · obtain ⟨rfl, rfl⟩ := hw
          simp at hpr
          exact hpr (by rw [ht, haj, g3]) (by omega)

theorem wf_all (n : Nat) (mode : Int) : wfK.All n mode (wfI n) 2 2 9 wfNw wfNv (fun m _ p => wfCp (m 0) p) := by
  refine ⟨wf_good n mode, wf_kept n, wf_live n, fun b ps m i h H hi hl hp => ?_, fun b ps m i j H hl hi hj hji hp => ?_, fun t h => rfl⟩
  · obtain ⟨h1, h2, R, U, G, T, H⟩ := H
    have := H.at_ i hi
    rw [hp] at this
    have this : h = 0 ∨ h = 1 ∨ (h = 2 ∧ T i = U ∧ R = 0) := this
    omega
  · obtain ⟨h1, h2, R, U, G, T, H⟩ := H
    have hai := H.at_ i hi
    have haj := H.at_ j hj
    have hin := H.inj i j hi hj (fun h => hji h.symm)
    have d1 := ws_one (d := wfK.idle 0) wfRd_01 (l := ps) (i := j) (by omega)
    rw [← H.nr] at d1
    rw [hp] at hai hin
    have hai : (2 : Int) = 0 ∨ (2 : Int) = 1 ∨ ((2 : Int) = 2 ∧ T i = U ∧ R = 0) := hai
    have e2 : wfTk (wfK.idle 2) = 1 := rfl
    have hin := hin e2
    generalize ps.getD j (wfK.idle 0) = p at haj hin d1
    cases p <;> simp only [wfAt, wfTk, wfRd] at haj hin d1 <;> first | rfl | skip
    case idle h =>
      show h = 0
      rcases haj with rfl | rfl | ⟨rfl, h3, h4⟩
      · rfl
      · simp at d1; omega
      · simp at hin; omega
    all_goals first | omega | (have := hin trivial; omega)

/-- ONE WRITES, OR MANY READ. -/
theorem wf_excludes (k : Nat) (d base : Int) (h1 : 1 ≤ k) (h2 : k ≤ 6) (hd : d = 1 ∨ d = 2) (hb : 0 ≤ base ∧ base < 4294967296) (l : List (Int × Int)) (hlen : l.length ≤ 500) : ExcludesOk wfA k (Mt.start k d (own6 base ++ List.replicate ((8 + 4 * (k : Int)).toNat - 1) 0)) l := by
  have hfit : k * ((9 + 1) * 2 + 2 * k * 2) + 2 * k + 9 < 2 * k * (8 * k + 40) := by
    rcases (show k = 1 ∨ k = 2 ∨ k = 3 ∨ k = 4 ∨ k = 5 ∨ k = 6 by omega) with rfl | rfl | rfl | rfl | rfl | rfl <;> decide
  refine excludes_ok (K := wfK) (wf_all k d) h1 (by omega) hd hfit rfl l (start_MI (wf_all k d) _ (by simp [own6]; omega) ?_)
  have hr : ∀ i, (List.replicate k (wfK.idle 0)).getD i (wfK.idle 0) = wfK.idle 0 := fun i => by
    rw [List.getD_eq_getElem?_getD, List.getElem?_replicate]; split <;> rfl
  have hx : mainOf k (own6 base ++ List.replicate ((8 + 4 * (k : Int)).toNat - 1) 0) 0 = base % 256 * 65792 := by simp [mainOf, own6]
  refine ⟨by omega, by simp, 0, base % 256, base % 256, fun _ => 0, ?_⟩
  rw [hx]
  have hz : 0 ≤ base % 256 ∧ base % 256 < 256 := by omega
  generalize base % 256 = z at hz
  have z0 : z * 65792 % 256 = 0 := by omega
  have z1 : z * 65792 / 256 = z * 257 := by omega
  have z2 : z * 65792 / 65536 = z := by omega
  have z3 : z * 257 % 256 = z := by omega
  refine ⟨by omega, z0, by unfold wfT; rw [z1, z3]; omega, by unfold wfG; rw [z2], by omega, ?_, ?_, fun i _ h => ?_, fun i j _ _ _ h => ?_, fun t g1 g2 => by omega, fun i _ => ?_⟩
  · rw [ws_replicate (f := wfTk) rfl]; omega
  · rw [ws_replicate (f := wfRd) rfl]
  · rw [hr, show wfTk (wfK.idle 0) = 0 from rfl] at h; exact absurd h (by decide)
  · rw [hr, show wfTk (wfK.idle 0) = 0 from rfl] at h; exact absurd h (by decide)
  · rw [hr]; exact Or.inl rfl

end Go.Proofs.Ytmbbcgkfankiaaa.Z

/- Law 16: the statement WfExcludes. Written by genmat.py. -/
set_option linter.unusedVariables false
set_option linter.unusedSimpArgs false
namespace Go.Proofs.Ytmbbcgkfankiaaa.Z
open Go.RowKit

theorem wfExcludes_any {B : Option Addr} {m d : Nat} {l : List (Int × Int)} (n mode base : Int) (w : World) (hn : 0 ≤ n ∧ n < 256) (hm : 0 ≤ mode ∧ mode < 256) (hb : 0 ≤ base ∧ base < 4294967296) (hB : Rd w 2 B m (l.flatMap turnDec)) (hl : ∀ x, x ∈ l → (0 ≤ x.1 ∧ x.1 < 256) ∧ (0 ≤ x.2 ∧ x.2 < 256)) :
    Calls Try.prog 6 #[.int .u8 n, .int .u8 mode, .int .u32 base, .slice B m d] w fun e w' => e = .returned (.bool true) ∧ Touch [] w w' := by
  by_cases h5 : m ≤ 500
  · exact wf_excludes_some n mode base l w hn hm hb hB hl h5 (fun k hk => wf_excludes k (1 + mode % 2) base (by omega) (by omega) (by omega) hb l (by rw [turn_len hB]; exact h5))
  · exact wf_excludes_long n mode base w hn hm hb (by omega)

end Go.Proofs.Ytmbbcgkfankiaaa.Z
