/- 6 texts of this claim, joined: what each shows stands at its own head. -/
import Derived.Test.YtlndihdlodempaaZLive2
/- Locks as tasks that wait for cells, and wake each other: a step of a task that is with an operation. No lock in sight. -/
set_option linter.unusedVariables false
set_option linter.unusedSimpArgs false
namespace Go.Proofs.Ytlndihdlodempaa.Z
open Go.RowKit

theorem set_self {α : Type} {l : List α} {i : Nat} {d v : α} (h : i < l.length) (e : l.getD i d = v) : l.set i v = l := by
  subst e
  simp [List.getD, h]

section
variable {P : Type} {K : LockM P} {I : Nat → List P → (Nat → Int) → Prop} {n b : Nat} {M : Mt} {ps : List P} {N V C : Nat} {nw nv : P → Nat} {cp : (Nat → Int) → Nat → P → Nat} {i : Nat} {f : Fr} {h : Int} {p : P}

def Goes (K : LockM P) (I : Nat → List P → (Nat → Int) → Prop) (n b : Nat) (nw nv : P → Nat) (cp : (Nat → Int) → Nat → P → Nat) (M : Mt) (ps : List P) (i : Nat) (f : Fr) (h : Int) : Prop :=
  ∃ ps', MI K I n b (M.goes K.g i f h) ps' ∧ Went K n nw nv cp M ps i (M.goes K.g i f h) ps'

theorem left_off {f : Fr} (h : f.wk.on = false) : leftF n f = 0 := by unfold leftF; rw [h]; rfl
theorem left_zero {f : Fr} (h : f.wk = Wk.zero) : leftF n f = 0 := left_off (by rw [h]; rfl)
theorem wkOf_off {mode : Int} : (wkOf mode none).on = false := rfl
theorem stuck_not {L : List Int} {n mode task st : Int} (h : stageA mode st ≠ 3) : stuckA L n mode task st = false := by
  unfold stuckA
  have : (stageA mode st == 3) = false := by simpa using h
  rw [this]
  rfl

theorem MI.weaken (Kp : K.Keeps n I) (H : MI K I n (b + 1) M ps) : MI K I n b M ps := ⟨H.num, H.fsl, H.hol, H.psl, H.len, H.abs, Kp.weak _ _ _ H.inv, H.watch, H.woken⟩

/-- From a place that does not wait. -/
theorem goes_act (G : K.Good n M.mode) (Kp : K.Keeps n I) (Lv : K.Live n I N V C nw nv cp) (h1 : 1 ≤ n) (hm : M.mode = 1 ∨ M.mode = 2) (H : MI K I n (b + 1) M ps) (hi : i < n)
    (hf : M.fs.getD i Fr.zero = (K.conc p).1) (hh : M.hold.getD i 0 = (K.conc p).2) (hp : ps.getD i (K.idle 0) = p) (hop : (K.conc p).1.op ≠ 0) (hw : K.wait i p = none) : Goes K I n b nw nv cp M ps i (K.conc p).1 (K.conc p).2 := by
  obtain ⟨q1, q2, q3⟩ := G.plain p
  have hfl := H.fsl
  have hhl := H.hol
  have hpl := H.psl
  have hok := Kp.ok _ ps _ i H.inv hi hpl
  have hacts := Kp.acts _ ps _ i H.inv hi hpl
  have hwks := fun j c pr => Kp.wakes _ ps _ i j c pr H.inv hi
  have hlw := Lv.write (mainOf n M.L) i p
  have hlq := Lv.quiet _ ps (mainOf n M.L) i p H.inv hpl hi hp
  rw [hp] at hok hacts hwks
  have A := G.act p i (M.run i (K.conc p).1) hok hi hw hop H.num rfl rfl rfl H.len
  have hacts := hacts hw hop
  rw [show (M.run i (K.conc p).1).L = M.L from rfl] at A
  have hstep : M.goes K.g i (K.conc p).1 (K.conc p).2 = _ := goes_step (by rw [q2]; rfl) (stuck_not (by rw [q1, stage_zero]; decide))
  have hh2 : (K.conc p).2 ≠ 2 := fun e => hop (by rw [G.two p e, G.idle_conc]; rfl)
  obtain ⟨f', h', e1, e2, e3, e4⟩ := after_abs (t := i) hm G h1 A.f A.st (show _ = wkOf M.mode _ from A.wk) A.op hh2
  rw [put_if e1] at hstep
  unfold Goes
  rw [hstep, A.L]
  have hmw := main_written H.len A.lt
  have hL : (M.run i (K.conc p).1).L = M.L := rfl
  rw [hL]
  generalize hR : K.act i p (mainOf n M.L) = R at *
  obtain ⟨p', w, k⟩ := R
  simp only at *
  refine ⟨ps.set i p', MI.put H G hi (by rw [writtenL_len]; exact H.len) e2 (by rw [hmw]; exact hacts) (fun c pr _ hs => by omega) (fun j hj _ => writtenL_far A.lt (by omega)) (fun c pr _ hs => by omega) (fun j c pr hj hji hwt hs hpr => ?_), ?_⟩
  · rw [hmw] at hpr
    rcases hwks j c pr hj (fun h => hji h.symm) hpl hw hop hwt (by exact hpr) with hold | hwake
    · rcases H.woken j c pr hj hwt hs hold with h3 | ⟨u, h3, h4, h5⟩
      · exact Or.inl (by rw [writtenL_far A.lt (by omega)]; exact h3)
      · refine Or.inr (Or.inr ⟨u, h3, ?_, h4, h5⟩)
        rintro rfl
        rw [hf, q2] at h4
        cases h4
    · refine Or.inr (Or.inl ?_)
      have hm2 := (H.abs j hj).st_mode G (Or.inr hs)
      rw [e4, hwake]
      show (beginA M.mode c).on = true ∧ (beginA M.mode c).cell = c ∧ (beginA M.mode c).i ≤ j
      unfold beginA
      rw [if_pos hm2]
      exact ⟨rfl, rfl, by simp⟩
  · obtain ⟨o1, o2, o3, o4⟩ := put_went (K := K) (f' := f') (h' := h') (p' := p') (L' := writtenL M.L w) (M := M) (ps := ps) (i := i) (by omega) (by omega) (by omega)
    refine ⟨⟨rfl, rfl⟩, o1, ?_⟩
    rw [o2, o4, hf, hp]
    have hl0 : leftF n (K.conc p).1 = 0 := left_zero q2
    cases w with
    | some x =>
      right; left
      obtain ⟨g1, g2⟩ := hlw x hw hop rfl
      refine ⟨hl0, g1, ?_⟩
      cases k with
      | none => rw [left_zero (f := f') (by rw [e4]; rfl)]; simpa using g2
      | some c =>
        simp only [Option.isSome_some, if_true] at g2
        split <;> omega
    | none =>
      right; right
      obtain ⟨g1, g2, g3, g4⟩ := hlq hw hop rfl
      subst g1
      refine ⟨hl0, left_zero (f := f') (by rw [e4]; rfl), rfl, g2, g3, fun j hj hji => rfl, Or.inl ?_⟩
      have := potF_plain Lv (m := mainOf n M.L) (mode := M.mode) (t := i) (f := f') (p := p') (q := (M.put i f' h' (writtenL M.L none)).L.getD (8 + 3 * n + i) 0) e3
      have hpp : potF K cp (mainOf n M.L) M.mode i (K.conc p).1 p (M.L.getD (8 + 3 * n + i) 0) = cp (mainOf n M.L) i p := by
        unfold potF
        rw [if_neg (by omega), hw]
      rw [hpp]
      omega

/-- What the first look tells. -/
theorem look0 {L : List Int} {mode task : Int} {c : Nat} {pr : Int → Bool} (hl : L.length = 8 + 4 * n) (hc : c < 8 + 2 * n) :
    waitA L n mode task 0 c pr = ⟨if pr (mainOf n L c) then 0 else if mode = 2 then 1 else 0, ⟨1, c, 0, 0, mainOf n L c⟩, pr (mainOf n L c), pr (mainOf n L c), L⟩ := by
  have e : doA L ⟨1, (c : Int), 0, 0, 0⟩ = (⟨1, c, 0, 0, mainOf n L c⟩, true, L) := by
    rw [doA_at (by omega)]
    simp [mainOf, hc]
  unfold waitA
  dsimp only
  rw [stage_zero, e]
  simp
theorem look2 {L : List Int} {task : Int} {c : Nat} {pr : Int → Bool} (hl : L.length = 8 + 4 * n) (hc : c < 8 + 2 * n) :
    waitA L n 2 task 2 c pr = ⟨if pr (mainOf n L c) then 4 else 3, ⟨1, c, 0, 0, mainOf n L c⟩, pr (mainOf n L c), false, L⟩ := by
  have e : doA L ⟨1, (c : Int), 0, 0, 0⟩ = (⟨1, c, 0, 0, mainOf n L c⟩, true, L) := by
    rw [doA_at (by omega)]
    simp [mainOf, hc]
  unfold waitA
  dsimp only
  rw [stage_at rfl (by omega) (by omega), e]
  simp
theorem look1 {L : List Int} {c : Nat} {pr : Int → Bool} (h1 : 1 ≤ n) (h2 : n ≤ 64) (hi : i < n) (hl : L.length = 8 + 4 * n) :
    ∃ a, waitA L n 2 i 1 c pr = ⟨2, a, false, false, L.set (8 + 2 * n + i) (((c : Int) + 1) % 4294967296)⟩ := by
  have e2 : (cellP n 2 i).toNat = 8 + 2 * n + i := by rw [cell_row (by omega) (by omega) (by omega) (by omega)]; omega
  have b2 : 0 ≤ cellP n 2 i ∧ cellP n 2 i < L.length := by rw [cell_row (by omega) (by omega) (by omega) (by omega)]; omega
  unfold waitA
  dsimp only
  rw [stage_at rfl (by omega) (by omega), if_pos rfl, doA_at b2, e2]
  exact ⟨_, rfl⟩
theorem look4 {L : List Int} {c : Nat} {pr : Int → Bool} (h1 : 1 ≤ n) (h2 : n ≤ 64) (hi : i < n) (hl : L.length = 8 + 4 * n) :
    (waitA L n 2 i 4 c pr).words = L.set (8 + 2 * n + i) 0 := by
  have e2 : (cellP n 2 i).toNat = 8 + 2 * n + i := by rw [cell_row (by omega) (by omega) (by omega) (by omega)]; omega
  have b2 : 0 ≤ cellP n 2 i ∧ cellP n 2 i < L.length := by rw [cell_row (by omega) (by omega) (by omega) (by omega)]; omega
  unfold waitA
  dsimp only
  rw [stage_at rfl (by omega) (by omega), if_neg (by decide), if_neg (by decide), if_neg (by decide), if_pos rfl, doA_at b2, e2]
  simp
theorem there_is_ {L : List Int} (h1 : 1 ≤ n) (h2 : n ≤ 64) (hi : i < n) (hl : L.length = 8 + 4 * n) : thereA L n i = (L.getD (8 + 3 * n + i) 0 != 0) := by
  have e2 : (cellP n 3 i).toNat = 8 + 3 * n + i := by rw [cell_row (by omega) (by omega) (by omega) (by omega)]; omega
  have b2 : 0 ≤ cellP n 3 i ∧ cellP n 3 i < L.length := by rw [cell_row (by omega) (by omega) (by omega) (by omega)]; omega
  unfold thereA ldA
  rw [if_pos b2, e2]
theorem look3 {L : List Int} {c : Nat} {pr : Int → Bool} (h1 : 1 ≤ n) (h2 : n ≤ 64) (hi : i < n) (hl : L.length = 8 + 4 * n) (hq : L.getD (8 + 3 * n + i) 0 ≠ 0) :
    ∃ a, waitA L n 2 i 3 c pr = ⟨2, a, false, false, L.set (8 + 3 * n + i) 0⟩ := by
  have e2 : (cellP n 3 i).toNat = 8 + 3 * n + i := by rw [cell_row (by omega) (by omega) (by omega) (by omega)]; omega
  have b2 : 0 ≤ cellP n 3 i ∧ cellP n 3 i < L.length := by rw [cell_row (by omega) (by omega) (by omega) (by omega)]; omega
  have ht : takeA L n i = (⟨4, cellP n 3 i, 0, 0, L.getD (8 + 3 * n + i) 0⟩, true, L.set (8 + 3 * n + i) 0) := by
    unfold takeA
    rw [there_is_ h1 h2 hi hl, if_pos (by simpa using hq), doA_at b2, e2]
    simp
  unfold waitA
  dsimp only
  rw [stage_at rfl (by omega) (by omega), if_neg (by decide), if_neg (by decide), if_pos rfl, ht]
  exact ⟨_, rfl⟩

/-- From a place that waits, at first. -/
theorem goes_look (G : K.Good n M.mode) (Kp : K.Keeps n I) (Lv : K.Live n I N V C nw nv cp) (h1 : 1 ≤ n) (hm : M.mode = 1 ∨ M.mode = 2) (H : MI K I n (b + 1) M ps) (hi : i < n)
    (hf : M.fs.getD i Fr.zero = (K.conc p).1) (hh : M.hold.getD i 0 = (K.conc p).2) (hp : ps.getD i (K.idle 0) = p) {c : Nat} {pr : Int → Bool} (hw : K.wait i p = some (c, pr)) : Goes K I n b nw nv cp M ps i (K.conc p).1 (K.conc p).2 := by
  obtain ⟨q1, q2, q3⟩ := G.plain p
  have hop := G.wait_op i p c pr hw
  have hfl := H.fsl
  have hhl := H.hol
  have hpl := H.psl
  have hok := Kp.ok _ ps _ i H.inv hi hpl
  have hsees := Kp.sees _ ps _ i c pr H.inv hi hpl
  rw [hp] at hok hsees
  have hsees := hsees hw
  have hc := G.wait_lt i p c pr hok hi hw
  have hfst : (M.run i (K.conc p).1).f = { (K.conc p).1 with st := 0 } := by
    show (K.conc p).1 = _
    rw [← q1]
  obtain ⟨s1, s2, s3⟩ := G.wait_step p i c pr 0 (M.run i (K.conc p).1) hok hi hw (Int.le_refl _) (by omega) H.num rfl rfl hfst H.len
  rw [show (M.run i (K.conc p).1).L = M.L from rfl, look0 H.len hc] at s1 s2 s3
  simp only at s1 s2 s3
  have hstep : M.goes K.g i (K.conc p).1 (K.conc p).2 = _ := goes_step (by rw [q2]; rfl) (stuck_not (by rw [q1, stage_zero]; decide))
  have hh2 : (K.conc p).2 ≠ 2 := fun e => hop (by rw [G.two p e, G.idle_conc]; rfl)
  have hl0 : leftF n (K.conc p).1 = 0 := left_zero q2
  unfold Goes
  cases hpr : pr (mainOf n M.L c) with
  | true =>
    obtain ⟨s4, s5, s6, s7⟩ := s2 hpr
    obtain ⟨f', h', e1, e2, e3, e4⟩ := after_abs (t := i) (w := none) hm G h1 s4 s5 s6 s7 hh2
    rw [put_if e1] at hstep
    rw [hstep, s1]
    refine ⟨ps.set i (K.post p (mainOf n M.L c)), MI.put H G hi H.len e2 (hsees hpr) (fun c pr _ hs => by omega) (fun j hj _ => rfl) (fun c pr _ hs => by omega) (MI.others H (by rw [hf, q2]; rfl) rfl (fun _ _ _ => rfl) f'), ?_⟩
    obtain ⟨o1, o2, o3, o4⟩ := put_went (K := K) (f' := f') (h' := h') (p' := K.post p (mainOf n M.L c)) (L' := M.L) (M := M) (ps := ps) (i := i) (by omega) (by omega) (by omega)
    refine ⟨⟨rfl, rfl⟩, o1, Or.inr (Or.inr ?_)⟩
    rw [o2, o4, hf, hp]
    obtain ⟨g1, g2⟩ := Lv.post_w i p c pr (mainOf n M.L c) hw
    refine ⟨hl0, left_zero (f := f') e4, rfl, g1, g2, fun j hj hji => rfl, Or.inl ?_⟩
    have h5 := potF_plain Lv (m := mainOf n M.L) (mode := M.mode) (t := i) (f := f') (p := K.post p (mainOf n M.L c)) (q := M.L.getD (8 + 3 * n + i) 0) e3
    have h6 := Lv.wait_yes (mainOf n M.L) i p c pr hw hpr
    have hpp : potF K cp (mainOf n M.L) M.mode i (K.conc p).1 p (M.L.getD (8 + 3 * n + i) 0) = cp (mainOf n M.L) i p := by
      unfold potF
      rw [if_neg (by omega), hw]
      simp [hpr, q1]
    rw [hpp]
    exact Nat.le_trans (Nat.succ_le_succ h5) h6
  | false =>
    have s4 := s3 hpr
    rw [hpr] at s4
    simp only [Bool.false_eq_true, if_false] at s4
    have hnover : (K.g (M.run i (K.conc p).1)).over = false := by
      unfold Rn.over
      rw [s4]
      simp [q3]
    rw [hnover] at hstep
    simp only [Bool.false_eq_true, if_false] at hstep
    rw [hstep, s1, s4]
    rcases hm with hm | hm
    · rw [if_neg (by omega)]
      have e0 : ({ (K.conc p).1 with st := 0 } : Fr) = (K.conc p).1 := hfst.symm
      have e9 : M.put i { (K.conc p).1 with st := 0 } (K.conc p).2 M.L = M := by
        rw [e0, ← hf, ← hh]
        exact put_same (by omega) (by omega)
      rw [e9]
      refine ⟨ps, H.weaken Kp, ⟨rfl, rfl⟩, fun j _ => ⟨rfl, rfl, rfl⟩, Or.inr (Or.inr ?_)⟩
      rw [hf]
      refine ⟨hl0, hl0, rfl, Nat.le_refl _, Nat.le_refl _, fun _ _ _ => rfl, Or.inr (Or.inl ?_)⟩
      have hpp : potF K cp (mainOf n M.L) M.mode i (K.conc p).1 (ps.getD i (K.idle 0)) (M.L.getD (8 + 3 * n + i) 0) = 0 := by
        unfold potF
        rw [hp, if_neg (by omega), hw]
        simp [hpr, hm]
      exact ⟨hpp, hpp⟩
    · rw [if_pos hm]
      refine ⟨ps.set i p, MI.put H G hi H.len (AbsF.staged p c pr 1 hm hok hw (by simp)) (by rw [set_self (by omega) hp]; exact Kp.weak _ _ _ H.inv) (fun c pr _ hs => by simp at hs) (fun j hj _ => rfl) (fun c pr _ hs => by simp at hs) (MI.others H (by rw [hf, q2]; rfl) rfl (fun _ _ _ => rfl) _), ?_⟩
      obtain ⟨o1, o2, o3, o4⟩ := put_went (K := K) (f' := { (K.conc p).1 with st := 1 }) (h' := (K.conc p).2) (p' := p) (L' := M.L) (M := M) (ps := ps) (i := i) (by omega) (by omega) (by omega)
      refine ⟨⟨rfl, rfl⟩, o1, Or.inr (Or.inr ?_)⟩
      rw [o2, o4, hf, hp]
      refine ⟨hl0, left_zero q2, rfl, Nat.le_refl _, Nat.le_refl _, fun _ _ _ => rfl, Or.inl ?_⟩
      show potF K cp (mainOf n M.L) M.mode i { (K.conc p).1 with st := 1 } p (M.L.getD (8 + 3 * n + i) 0) + 1 ≤ _
      unfold potF
      rw [hw]
      simp [hpr, hm, q1]
      omega
end
end Go.Proofs.Ytlndihdlodempaa.Z

/- Locks as tasks that wait for cells, and wake each other: steps of a wake-up, of one who sleeps; any step. No lock in sight. -/
set_option linter.unusedVariables false
set_option linter.unusedSimpArgs false
namespace Go.Proofs.Ytlndihdlodempaa.Z
open Go.RowKit

section
variable {P : Type} {K : LockM P} {I : Nat → List P → (Nat → Int) → Prop} {n b : Nat} {M : Mt} {ps : List P} {N V C : Nat} {nw nv : P → Nat} {cp : (Nat → Int) → Nat → P → Nat} {i : Nat} {f : Fr} {h : Int} {p : P}

/-- A wake-up's step: what it leaves, where it is then, and whose permit it gives. -/
theorem wake_goes {L : List Int} {k : Wk} (h1 : 1 ≤ n) (h2 : n ≤ 64) (hl : L.length = 8 + 4 * n) (hk : k.on = true) (h0 : 0 ≤ k.i) (hi : k.i < n) (hc : 0 ≤ k.cell) {k' : Wk} {L' : List Int} (e1 : (wakeA L n k).1 = k') (e2 : (wakeA L n k).2.2 = L') :
    (k' = Wk.zero ∨ (k'.on = true ∧ 0 ≤ k'.i ∧ k'.i < n ∧ 0 ≤ k'.cell)) ∧ L'.length = 8 + 4 * n ∧ mainOf n L' = mainOf n L ∧ (∀ j, j < n → L'.getD (8 + 2 * n + j) 0 = L.getD (8 + 2 * n + j) 0) ∧
    (∀ j, j < n → L.getD (8 + 3 * n + j) 0 ≠ 0 → L'.getD (8 + 3 * n + j) 0 ≠ 0) ∧ (∀ f : Fr, leftF n { f with wk := k' } + 1 ≤ leftF n { f with wk := k }) ∧
    (∀ j, j < n → k.i ≤ j → L.getD (8 + 2 * n + j) 0 = (k.cell + 1) % 4294967296 → L'.getD (8 + 3 * n + j) 0 ≠ 0 ∨ (k'.on = true ∧ k'.cell = k.cell ∧ k'.i ≤ j)) := by
  rw [wake_is h1 h2 hl hk h0 hi] at e1 e2
  have hnx : nextA n k = Wk.zero ∨ ((nextA n k).on = true ∧ 0 ≤ (nextA n k).i ∧ (nextA n k).i < n ∧ 0 ≤ (nextA n k).cell) := by
    unfold nextA
    split
    · exact Or.inl rfl
    · exact Or.inr ⟨hk, by simp; omega, by simp; omega, hc⟩
  have hpass : ∀ j : Nat, j < n → k.i < j → (nextA n k).on = true ∧ (nextA n k).cell = k.cell ∧ (nextA n k).i ≤ j := by
    intro j hj hlt
    unfold nextA
    rw [if_neg (by omega)]
    exact ⟨hk, rfl, by simp; omega⟩
  by_cases hh : k.hit = true
  · rw [if_pos hh] at e1 e2
    simp only at e1 e2
    subst e1 e2
    refine ⟨hnx, by simpa using hl, main_far (by omega), fun j hj => getDset_ne (by omega), fun j hj hne => ?_, fun f => left_next hk h0 hi, fun j hj hle hwt => ?_⟩
    · rw [getDset]; split; decide; exact hne
    · by_cases e : k.i.toNat = j
      · left; rw [getDset, if_pos (by omega)]; decide
      · right; exact hpass j hj (by omega)
  · rw [if_neg hh] at e1 e2
    simp only at e1 e2
    subst e2
    by_cases hm : L.getD (8 + 2 * n + k.i.toNat) 0 = (k.cell + 1) % 4294967296
    · rw [if_pos hm] at e1
      subst e1
      refine ⟨Or.inr ⟨rfl, h0, hi, hc⟩, hl, rfl, fun _ _ => rfl, fun _ _ h => h, fun f => ?_, fun j hj hle hwt => Or.inr ⟨rfl, rfl, hle⟩⟩
      unfold leftF
      simp [hk, hh]
      omega
    · rw [if_neg hm] at e1
      subst e1
      refine ⟨hnx, hl, rfl, fun _ _ => rfl, fun _ _ h => h, fun f => left_next hk h0 hi, fun j hj hle hwt => ?_⟩
      by_cases e : k.i.toNat = j
      · subst e; exact absurd hwt hm
      · right; exact hpass j hj (by omega)

theorem left_pos {k : Wk} {f : Fr} (hk : k.on = true) (h0 : 0 ≤ k.i) (hi : k.i < n) (e : f.wk = k) : 0 < leftF n f := by
  unfold leftF
  rw [e, if_pos hk]
  split <;> omega

/-- A step of a wake-up, whosever. -/
theorem goes_waking (G : K.Good n M.mode) (Kp : K.Keeps n I) (h1 : 1 ≤ n) (h2 : n ≤ 64) (H : MI K I n (b + 1) M ps) (hi : i < n) (hm : M.mode = 2)
    (hf : M.fs.getD i Fr.zero = f) (hh : M.hold.getD i 0 = h) (hp : ps.getD i (K.idle 0) = p) (hk : f.wk.on = true) (h0 : 0 ≤ f.wk.i) (hlt : f.wk.i < n) (hc : 0 ≤ f.wk.cell) (hst : f.st = 0)
    (hend : f.ret ≠ 0 → AbsF K n M.mode i Fr.zero (behindA f.op f.ret h) p) (hmore : ∀ k' : Wk, (f.ret = 0 ∧ k' = Wk.zero) ∨ (k'.on = true ∧ 0 ≤ k'.i ∧ k'.i < n ∧ 0 ≤ k'.cell) → AbsF K n M.mode i { f with wk := k' } h p) :
    Goes K I n b nw nv cp M ps i f h := by
  have hfl := H.fsl
  have hhl := H.hol
  have hpl := H.psl
  have hnum := H.num
  obtain ⟨k', e1⟩ : ∃ k', (wakeA M.L n f.wk).1 = k' := ⟨_, rfl⟩
  obtain ⟨L', e2⟩ : ∃ L', (wakeA M.L n f.wk).2.2 = L' := ⟨_, rfl⟩
  obtain ⟨c1, c2, c3, c4, c5, c6, c7⟩ := wake_goes h1 h2 H.len hk h0 hlt hc e1 e2
  have hstep := goes_wake (g := K.g) (M := M) (i := i) (f := f) (h := h) hk
  rw [hnum, e1, e2] at hstep
  have hps : ps.set i p = ps := set_self (by omega) hp
  have main : ∀ f' h', AbsF K n M.mode i f' h' p → f'.st = 0 → f'.wk = k' → MI K I n b (M.put i f' h' L') ps ∧ Went K n nw nv cp M ps i (M.put i f' h' L') ps := by
    intro f' h' ha hs hw'
    constructor
    · rw [← hps]
      refine MI.put H G hi c2 ha (by rw [hps, c3]; exact Kp.weak _ _ _ H.inv) (fun c pr _ h => by omega) (fun j hj _ => c4 j hj) (fun c pr _ h => by omega) (fun j c pr hj hji hwt hs3 hpr => ?_)
      rw [c3] at hpr
      rcases H.woken j c pr hj hwt hs3 hpr with h3 | ⟨u, h3, h4, h5, h6⟩
      · exact Or.inl (c5 j hj h3)
      · by_cases e : u = i
        · subst e
          rw [hf] at h4 h5 h6
          have hwj := H.watch j c pr hj hwt (Or.inr hs3)
          rw [hw']
          rcases c7 j hj h6 (by rw [h5]; exact hwj) with h7 | ⟨h7, h8, h9⟩
          · exact Or.inl h7
          · exact Or.inr (Or.inl ⟨h7, by rw [h8, h5], h9⟩)
        · exact Or.inr (Or.inr ⟨u, h3, e, h4, h5, h6⟩)
    · obtain ⟨o1, o2, o3, o4⟩ := put_went (K := K) (f' := f') (h' := h') (p' := p) (L' := L') (M := M) (ps := ps) (i := i) (by omega) (by omega) (by omega)
      refine ⟨⟨rfl, rfl⟩, fun j hj => ⟨(o1 j hj).1, (o1 j hj).2.1, rfl⟩, Or.inl ?_⟩
      rw [o2, hf]
      refine ⟨left_pos hk h0 hlt rfl, ?_, rfl, c3⟩
      have := c6 f
      have e3 : leftF n f' = leftF n { f with wk := k' } := by unfold leftF; rw [hw']
      rw [e3]
      exact this
  unfold Goes
  rw [hstep]
  by_cases hb : f.ret ≠ 0 ∧ k'.on = false
  · rw [if_pos hb]
    have hz : k' = Wk.zero := by
      rcases c1 with h3 | h3
      · exact h3
      · rw [hb.2] at h3; cases h3.1
    exact ⟨ps, main _ _ (hend hb.1) rfl hz.symm⟩
  · rw [if_neg hb]
    refine ⟨ps, main _ _ (hmore k' ?_) hst rfl⟩
    rcases c1 with h3 | h3
    · left
      refine ⟨?_, h3⟩
      rcases Decidable.em (f.ret = 0) with h4 | h4
      · exact h4
      · exact absurd ⟨h4, by rw [h3]; rfl⟩ hb
    · exact Or.inr h3

/-- Of one who waits and is parked. -/
theorem goes_staged (G : K.Good n M.mode) (Kp : K.Keeps n I) (Lv : K.Live n I N V C nw nv cp) (h1 : 1 ≤ n) (h2 : n ≤ 64) (H : MI K I n (b + 1) M ps) (hi : i < n) {c : Nat} {pr : Int → Bool} {st : Int} (hm : M.mode = 2) (hok : K.ok p) (hw : K.wait i p = some (c, pr)) (hst : st = 1 ∨ st = 2 ∨ st = 3)
    (hf : M.fs.getD i Fr.zero = { (K.conc p).1 with st := st }) (hh : M.hold.getD i 0 = (K.conc p).2) (hp : ps.getD i (K.idle 0) = p) : Goes K I n b nw nv cp M ps i { (K.conc p).1 with st := st } (K.conc p).2 := by
  obtain ⟨q1, q2, q3⟩ := G.plain p
  have hop := G.wait_op i p c pr hw
  have hfl := H.fsl
  have hhl := H.hol
  have hpl := H.psl
  have hsees := Kp.sees _ ps _ i c pr H.inv hi hpl
  rw [hp] at hsees
  have hsees := hsees hw
  have hc := G.wait_lt i p c pr hok hi hw
  obtain ⟨s1, s2, s3⟩ := G.wait_step p i c pr st (M.run i { (K.conc p).1 with st := st }) hok hi hw (by omega) (by omega) H.num rfl rfl rfl H.len
  rw [show (M.run i { (K.conc p).1 with st := st }).L = M.L from rfl] at s1 s2 s3
  have hl0 : ∀ s : Int, leftF n { (K.conc p).1 with st := s } = 0 := fun s => left_zero q2
  have hps : ps.set i p = ps := set_self (by omega) hp
  have hoff : (M.fs.getD i Fr.zero).wk.on = false := by rw [hf]; show (K.conc p).1.wk.on = false; rw [q2]; rfl
  have hinv : I b (ps.set i p) (mainOf n M.L) := by rw [hps]; exact Kp.weak _ _ _ H.inv
  have hno : ∀ s' : Rn, s'.f.ret = 0 → s'.over = false := fun s' e => by unfold Rn.over; rw [e]; rfl
  unfold Goes
  rw [hm] at s1 s2 s3
  rcases hst with rfl | rfl | rfl
  · -- announce
    obtain ⟨a, ha⟩ := look1 (c := c) (pr := pr) h1 h2 hi H.len
    rw [ha] at s1 s3
    have s4 := s3 rfl
    simp only [Bool.false_eq_true, if_false] at s1 s4
    have hstep : M.goes K.g i { (K.conc p).1 with st := 1 } (K.conc p).2 = _ := goes_step (by show (K.conc p).1.wk.on = false; rw [q2]; rfl) (stuck_not (by show stageA M.mode 1 ≠ 3; rw [stage_at hm (by omega) (by omega)]; decide))
    rw [hno _ (by rw [s4]; exact q3)] at hstep
    simp only [Bool.false_eq_true, if_false] at hstep
    rw [hstep, s1, s4]
    have hmf : mainOf n (M.L.set (8 + 2 * n + i) (((c : Int) + 1) % 4294967296)) = mainOf n M.L := main_far (by omega)
    refine ⟨ps.set i p, MI.put H G hi (by simpa using H.len) (AbsF.staged p c pr 2 hm hok hw (by simp)) (by rw [hmf]; exact hinv) (fun c2 pr2 hw2 _ => ?_) (fun j hj hji => getDset_ne (by omega)) (fun c pr _ hs => by simp at hs) (MI.others H hoff hmf (fun j hj hji => getDset_ne (by omega)) _), ?_⟩
    · rw [hw] at hw2
      obtain ⟨rfl, rfl⟩ := Prod.mk.inj (Option.some.inj hw2)
      have := H.len
      rw [getDset, if_pos ⟨rfl, by omega⟩]
    · obtain ⟨o1, o2, o3, o4⟩ := put_went (K := K) (f' := { (K.conc p).1 with st := 2 }) (h' := (K.conc p).2) (p' := p) (L' := M.L.set (8 + 2 * n + i) (((c : Int) + 1) % 4294967296)) (M := M) (ps := ps) (i := i) (by omega) (by omega) (by omega)
      refine ⟨⟨rfl, rfl⟩, o1, Or.inr (Or.inr ?_)⟩
      rw [o2, o4, hf, hp]
      refine ⟨hl0 1, hl0 2, hmf, Nat.le_refl _, Nat.le_refl _, fun j hj hji => getDset_ne (by omega), Or.inl ?_⟩
      show potF K cp (mainOf n M.L) M.mode i { (K.conc p).1 with st := 2 } p ((M.L.set (8 + 2 * n + i) (((c : Int) + 1) % 4294967296)).getD (8 + 3 * n + i) 0) + 1 ≤ _
      rw [getDset_ne (by omega)]
      unfold potF
      rw [hw]
      cases hpr : pr (mainOf n M.L c) <;> simp [hpr, hm] <;> omega
  · -- look again
    rw [look2 H.len hc] at s1 s3
    simp only at s1 s3
    have s4 := s3 trivial
    have hstep : M.goes K.g i { (K.conc p).1 with st := 2 } (K.conc p).2 = _ := goes_step (by show (K.conc p).1.wk.on = false; rw [q2]; rfl) (stuck_not (by show stageA M.mode 2 ≠ 3; rw [stage_at hm (by omega) (by omega)]; decide))
    cases hpr : pr (mainOf n M.L c) with
    | true =>
      rw [hpr] at s4
      simp only [if_true] at s4
      rw [hno _ (by rw [s4]; exact q3)] at hstep
      simp only [Bool.false_eq_true, if_false] at hstep
      rw [hstep, s1, s4]
      refine ⟨ps.set i (K.post p (mainOf n M.L c)), MI.put H G hi H.len (AbsF.seen p c pr (mainOf n M.L c) hm hok hw hpr) (hsees hpr) (fun c pr _ hs => by simp at hs) (fun j hj _ => rfl) (fun c pr _ hs => by simp at hs) (MI.others H hoff rfl (fun _ _ _ => rfl) _), ?_⟩
      obtain ⟨o1, o2, o3, o4⟩ := put_went (K := K) (f' := { (K.conc p).1 with a := K.keep p (mainOf n M.L c), st := 4 }) (h' := (K.conc p).2) (p' := K.post p (mainOf n M.L c)) (L' := M.L) (M := M) (ps := ps) (i := i) (by omega) (by omega) (by omega)
      refine ⟨⟨rfl, rfl⟩, o1, Or.inr (Or.inr ?_)⟩
      rw [o2, o4, hf, hp]
      obtain ⟨g1, g2⟩ := Lv.post_w i p c pr (mainOf n M.L c) hw
      refine ⟨hl0 2, left_zero q2, rfl, g1, g2, fun _ _ _ => rfl, Or.inl ?_⟩
      have h6 := Lv.wait_yes (mainOf n M.L) i p c pr hw hpr
      unfold potF
      rw [hw]
      simp only [if_true, hpr]
      simp
      omega
    | false =>
      rw [hpr] at s4
      simp only [Bool.false_eq_true, if_false] at s4
      rw [hno _ (by rw [s4]; exact q3)] at hstep
      simp only [Bool.false_eq_true, if_false] at hstep
      rw [hstep, s1, s4]
      refine ⟨ps.set i p, MI.put H G hi H.len (AbsF.staged p c pr 3 hm hok hw (by simp)) hinv (fun c2 pr2 hw2 _ => ?_) (fun j hj _ => rfl) (fun c2 pr2 hw2 _ => ?_) (MI.others H hoff rfl (fun _ _ _ => rfl) _), ?_⟩
      · rw [← hp] at hw2
        exact H.watch i c2 pr2 hi hw2 (by rw [hf]; simp)
      · rw [hw] at hw2
        obtain ⟨rfl, rfl⟩ := Prod.mk.inj (Option.some.inj hw2)
        exact hpr
      · obtain ⟨o1, o2, o3, o4⟩ := put_went (K := K) (f' := { (K.conc p).1 with st := 3 }) (h' := (K.conc p).2) (p' := p) (L' := M.L) (M := M) (ps := ps) (i := i) (by omega) (by omega) (by omega)
        refine ⟨⟨rfl, rfl⟩, o1, Or.inr (Or.inr ?_)⟩
        rw [o2, o4, hf, hp]
        refine ⟨hl0 2, hl0 3, rfl, Nat.le_refl _, Nat.le_refl _, fun _ _ _ => rfl, Or.inl ?_⟩
        show potF K cp (mainOf n M.L) M.mode i { (K.conc p).1 with st := 3 } p (M.L.getD (8 + 3 * n + i) 0) + 1 ≤ _
        unfold potF
        rw [hw]
        simp [hpr, hm]
        omega
  · -- sleep
    by_cases hq : M.L.getD (8 + 3 * n + i) 0 = 0
    · have hstep : M.goes K.g i { (K.conc p).1 with st := 3 } (K.conc p).2 = _ := goes_stuck (by show (K.conc p).1.wk.on = false; rw [q2]; rfl) (by
        show stuckA M.L M.n M.mode i 3 = true
        unfold stuckA
        rw [stage_at hm (by omega) (by omega), H.num, there_is_ h1 h2 hi H.len, hq]
        rfl)
      have hsame : M.put i { (K.conc p).1 with st := 3 } (K.conc p).2 M.L = M := by
        rw [← hf, ← hh]
        exact put_same (by omega) (by omega)
      rw [hstep, hsame]
      refine ⟨ps, H.weaken Kp, ⟨rfl, rfl⟩, fun j _ => ⟨rfl, rfl, rfl⟩, Or.inr (Or.inr ?_)⟩
      rw [hf]
      refine ⟨hl0 3, hl0 3, rfl, Nat.le_refl _, Nat.le_refl _, fun _ _ _ => rfl, Or.inr ?_⟩
      cases hpr : pr (mainOf n M.L c) with
      | false =>
        left
        have hpp : potF K cp (mainOf n M.L) M.mode i { (K.conc p).1 with st := 3 } (ps.getD i (K.idle 0)) (M.L.getD (8 + 3 * n + i) 0) = 0 := by
          unfold potF
          rw [hp, hw, hq]
          simp [hpr, hm]
        exact ⟨hpp, hpp⟩
      | true =>
        right
        rcases H.woken i c pr hi (by rw [hp]; exact hw) (by rw [hf]) hpr with h3 | ⟨u, h3, h4, h5⟩
        · exact absurd hq h3
        · exact ⟨u, h3, h4⟩
    · obtain ⟨a, ha⟩ := look3 (c := c) (pr := pr) h1 h2 hi H.len hq
      rw [ha] at s1 s3
      have s4 := s3 rfl
      simp only [Bool.false_eq_true, if_false] at s1 s4
      have hstep : M.goes K.g i { (K.conc p).1 with st := 3 } (K.conc p).2 = _ := goes_step (by show (K.conc p).1.wk.on = false; rw [q2]; rfl) (by
        show stuckA M.L M.n M.mode i 3 = false
        unfold stuckA
        rw [H.num, there_is_ h1 h2 hi H.len]
        have : (M.L.getD (8 + 3 * n + i) 0 != 0) = true := by simpa using hq
        rw [this]
        simp)
      rw [hno _ (by rw [s4]; exact q3)] at hstep
      simp only [Bool.false_eq_true, if_false] at hstep
      rw [hstep, s1, s4]
      have hmf : mainOf n (M.L.set (8 + 3 * n + i) 0) = mainOf n M.L := main_far (by omega)
      have hlen := H.len
      refine ⟨ps.set i p, MI.put H G hi (by simpa using H.len) (AbsF.staged p c pr 2 hm hok hw (by simp)) (by rw [hmf]; exact hinv) (fun c2 pr2 hw2 _ => ?_) (fun j hj hji => getDset_ne (by omega)) (fun c pr _ hs => by simp at hs) (MI.others H hoff hmf (fun j hj hji => getDset_ne (by omega)) _), ?_⟩
      · rw [← hp] at hw2
        rw [getDset_ne (by omega)]
        exact H.watch i c2 pr2 hi hw2 (by rw [hf]; simp)
      · obtain ⟨o1, o2, o3, o4⟩ := put_went (K := K) (f' := { (K.conc p).1 with st := 2 }) (h' := (K.conc p).2) (p' := p) (L' := M.L.set (8 + 3 * n + i) 0) (M := M) (ps := ps) (i := i) (by omega) (by omega) (by omega)
        refine ⟨⟨rfl, rfl⟩, o1, Or.inr (Or.inr ?_)⟩
        rw [o2, o4, hf, hp]
        refine ⟨hl0 3, hl0 2, hmf, Nat.le_refl _, Nat.le_refl _, fun j hj hji => getDset_ne (by omega), Or.inl ?_⟩
        show potF K cp (mainOf n M.L) M.mode i { (K.conc p).1 with st := 2 } p ((M.L.set (8 + 3 * n + i) 0).getD (8 + 3 * n + i) 0) + 1 ≤ _
        rw [getDset, if_pos ⟨rfl, by omega⟩]
        unfold potF
        rw [hw]
        cases hpr : pr (mainOf n M.L c) with
        | true => simp [hpr, hm]; omega
        | false =>
          have hq2 : ¬ M.L[8 + 3 * n + i]?.getD 0 = 0 := by rw [← List.getD_eq_getElem?_getD]; exact hq
          simp [hpr, hm, hq2]

/-- Of one who has seen it, and forgets. -/
theorem goes_seen (G : K.Good n M.mode) (Kp : K.Keeps n I) (Lv : K.Live n I N V C nw nv cp) (h1 : 1 ≤ n) (h2 : n ≤ 64) (H : MI K I n (b + 1) M ps) (hi : i < n) {q : P} {c : Nat} {pr : Int → Bool} {v : Int} (hm : M.mode = 2) (hok : K.ok q) (hw : K.wait i q = some (c, pr)) (hpr : pr v = true)
    (hf : M.fs.getD i Fr.zero = { (K.conc q).1 with a := K.keep q v, st := 4 }) (hh : M.hold.getD i 0 = (K.conc q).2) (hp : ps.getD i (K.idle 0) = K.post q v) : Goes K I n b nw nv cp M ps i { (K.conc q).1 with a := K.keep q v, st := 4 } (K.conc q).2 := by
  obtain ⟨q1, q2, q3⟩ := G.plain q
  have hop := G.wait_op i q c pr hw
  have hfl := H.fsl
  have hhl := H.hol
  have hpl := H.psl
  have hh2 : (K.conc q).2 ≠ 2 := fun e => hop (by rw [G.two q e, G.idle_conc]; rfl)
  obtain ⟨s1, s2, s3, s4, s5⟩ := G.wait_last q i c pr v (M.run i { (K.conc q).1 with a := K.keep q v, st := 4 }) hok hi hm hw hpr H.num rfl rfl rfl H.len
  rw [show (M.run i { (K.conc q).1 with a := K.keep q v, st := 4 }).L = M.L from rfl, hm, look4 h1 h2 hi H.len] at s1
  have hoff : (M.fs.getD i Fr.zero).wk.on = false := by rw [hf]; show (K.conc q).1.wk.on = false; rw [q2]; rfl
  have hstep : M.goes K.g i { (K.conc q).1 with a := K.keep q v, st := 4 } (K.conc q).2 = _ := goes_step (by show (K.conc q).1.wk.on = false; rw [q2]; rfl) (stuck_not (by show stageA M.mode 4 ≠ 3; rw [stage_at hm (by omega) (by omega)]; decide))
  obtain ⟨f', h', e1, e2, e3, e4⟩ := after_abs (t := i) (w := none) (Or.inr hm) G h1 s2 s3 s4 s5 hh2
  rw [put_if e1] at hstep
  unfold Goes
  rw [hstep, s1]
  have hmf : mainOf n (M.L.set (8 + 2 * n + i) 0) = mainOf n M.L := main_far (by omega)
  have hps : ps.set i (K.post q v) = ps := set_self (by omega) hp
  refine ⟨ps.set i (K.post q v), MI.put H G hi (by simpa using H.len) e2 (by rw [hmf, hps]; exact Kp.weak _ _ _ H.inv) (fun c pr _ hs => by omega) (fun j hj hji => getDset_ne (by omega)) (fun c pr _ hs => by omega) (MI.others H hoff hmf (fun j hj hji => getDset_ne (by omega)) f'), ?_⟩
  obtain ⟨o1, o2, o3, o4⟩ := put_went (K := K) (f' := f') (h' := h') (p' := K.post q v) (L' := M.L.set (8 + 2 * n + i) 0) (M := M) (ps := ps) (i := i) (by omega) (by omega) (by omega)
  refine ⟨⟨rfl, rfl⟩, o1, Or.inr (Or.inr ?_)⟩
  rw [o2, o4, hf, hp]
  refine ⟨left_zero q2, left_zero e4, hmf, Nat.le_refl _, Nat.le_refl _, fun j hj hji => getDset_ne (by omega), Or.inl ?_⟩
  have h5 := potF_plain Lv (m := mainOf n M.L) (mode := M.mode) (t := i) (f := f') (p := K.post q v) (q := (M.L.set (8 + 2 * n + i) 0).getD (8 + 3 * n + i) 0) e3
  have h6 : potF K cp (mainOf n M.L) M.mode i { (K.conc q).1 with a := K.keep q v, st := 4 } (K.post q v) (M.L.getD (8 + 3 * n + i) 0) = 1 + cp (mainOf n M.L) i (K.post q v) := by
    unfold potF
    rw [if_pos rfl]
  rw [h6]
  exact Nat.le_trans (Nat.succ_le_succ h5) (by omega)

/-- ANY STEP of a task that is with an operation. -/
theorem goes_any (G : K.Good n M.mode) (Kp : K.Keeps n I) (Lv : K.Live n I N V C nw nv cp) (h1 : 1 ≤ n) (h2 : n ≤ 64) (hm : M.mode = 1 ∨ M.mode = 2) (H : MI K I n (b + 1) M ps) (hi : i < n) (hop : (M.fs.getD i Fr.zero).op ≠ 0) :
    Goes K I n b nw nv cp M ps i (M.fs.getD i Fr.zero) (M.hold.getD i 0) := by
  have ha := H.abs i hi
  obtain ⟨f, hf⟩ : ∃ f, M.fs.getD i Fr.zero = f := ⟨_, rfl⟩
  obtain ⟨h, hh⟩ : ∃ h, M.hold.getD i 0 = h := ⟨_, rfl⟩
  obtain ⟨p, hp⟩ : ∃ p, ps.getD i (K.idle 0) = p := ⟨_, rfl⟩
  rw [hf] at hop
  rw [hf, hh]
  rw [hf, hh, hp] at ha
  cases ha with
  | plain =>
    cases hw : K.wait i p with
    | none => exact goes_act G Kp Lv h1 hm H hi hf hh hp hop hw
    | some x => obtain ⟨c, pr⟩ := x; exact goes_look G Kp Lv h1 hm H hi hf hh hp hw
  | waking _ k hm2 hk h0 hlt hc hop2 =>
    obtain ⟨q1, q2, q3⟩ := G.plain p
    refine goes_waking G Kp h1 h2 H hi hm2 hf hh hp hk h0 hlt hc q1 (fun hr => absurd q3 hr) (fun k' hk' => ?_)
    rcases hk' with ⟨_, rfl⟩ | ⟨g1, g2, g3, g4⟩
    · have e : ({ { (K.conc p).1 with wk := k } with wk := Wk.zero } : Fr) = (K.conc p).1 := by
        show ({ (K.conc p).1 with wk := Wk.zero } : Fr) = _
        rw [← q2]
      rw [e]
      exact AbsF.plain p
    · exact AbsF.waking p k' hm2 g1 g2 g3 g4 hop2
  | staged _ c pr st hm2 hok hw hst => exact goes_staged G Kp Lv h1 h2 H hi hm2 hok hw hst hf hh hp
  | seen q c pr v hm2 hok hw hpr => exact goes_seen G Kp Lv h1 h2 H hi hm2 hok hw hpr hf hh hp
  | over _ _ hm2 hk h0 hlt hc hop2 hr hst hh2 =>
    refine goes_waking G Kp h1 h2 H hi hm2 hf hh hp hk h0 hlt hc hst (fun _ => ?_) (fun k' hk' => ?_)
    · have := AbsF.plain (K := K) (n := n) (mode := M.mode) (t := i) (K.idle (behindA f.op f.ret h))
      rw [G.idle_conc] at this
      exact this
    · rcases hk' with ⟨h3, _⟩ | ⟨g1, g2, g3, g4⟩
      · exact absurd h3 hr
      · exact AbsF.over { f with wk := k' } h hm2 g1 g2 g3 g4 hop2 hr hst hh2
end
end Go.Proofs.Ytlndihdlodempaa.Z

/- Locks as tasks that wait for cells, and wake each other: picks, rounds; all come to rest. No lock in sight. -/
set_option linter.unusedVariables false
set_option linter.unusedSimpArgs false
namespace Go.Proofs.Ytlndihdlodempaa.Z
open Go.RowKit

/-- A sum, a greatest one, over the first numbers. -/
def sm : Nat → (Nat → Nat) → Nat
  | 0, _ => 0
  | n + 1, f => sm n f + f n
def mx : Nat → (Nat → Nat) → Nat
  | 0, _ => 0
  | n + 1, f => max (mx n f) (f n)
theorem sm_le {f g : Nat → Nat} : ∀ n, (∀ j, j < n → f j ≤ g j) → sm n f ≤ sm n g
  | 0, _ => Nat.le_refl _
  | n + 1, h => by
    have := sm_le n (fun j hj => h j (by omega))
    have := h n (by omega)
    unfold sm
    omega
theorem sm_same {f g : Nat → Nat} : ∀ n, (∀ j, j < n → f j = g j) → sm n f = sm n g
  | 0, _ => rfl
  | n + 1, h => by
    have := sm_same n (fun j hj => h j (by omega))
    have := h n (by omega)
    unfold sm
    omega
theorem sm_one {f g : Nat → Nat} {i : Nat} : ∀ n, i < n → (∀ j, j < n → j ≠ i → f j = g j) → sm n f + g i = sm n g + f i
  | 0, h, _ => by omega
  | n + 1, h, hh => by
    unfold sm
    by_cases e : i = n
    · subst e
      have := sm_same (f := f) (g := g) i (fun j hj => hh j (by omega) (by omega))
      omega
    · have := sm_one n (by omega) (fun j hj hji => hh j (by omega) hji)
      have := hh n (by omega) (fun h => e h.symm)
      omega
theorem sm_const (n c : Nat) : sm n (fun _ => c) = n * c := by
  induction n with
  | zero => simp [sm]
  | succ n ih => unfold sm; rw [ih, Nat.succ_mul]
theorem mx_le {f : Nat → Nat} {b : Nat} : ∀ n, (∀ j, j < n → f j ≤ b) → mx n f ≤ b
  | 0, _ => Nat.zero_le _
  | n + 1, h => by
    have := mx_le n (fun j hj => h j (by omega))
    have := h n (by omega)
    unfold mx
    omega
theorem le_mx {f : Nat → Nat} {j : Nat} : ∀ n, j < n → f j ≤ mx n f
  | 0, h => by omega
  | n + 1, h => by
    unfold mx
    by_cases e : j = n
    · subst e; omega
    · have := le_mx (f := f) (j := j) n (by omega)
      omega

section
variable {P : Type} {K : LockM P} {I : Nat → List P → (Nat → Int) → Prop} {n b : Nat} {M : Mt} {ps : List P} {N V C : Nat} {nw nv : P → Nat} {cp : (Nat → Int) → Nat → P → Nat} {i : Nat} {f : Fr} {h : Int} {p : P}

theorem goes_put {g : Rn → Rn} {M : Mt} {i : Nat} {f f0 : Fr} {h h0 : Int} : (M.put i f0 h0 M.L).goes g i f h = M.goes g i f h := by
  unfold Mt.goes
  simp only [put_put]
  rfl
theorem AbsF.idle (G : K.Good n M.mode) {t : Nat} (H : AbsF K n M.mode t f h p) (hop : f.op = 0) : f = Fr.zero ∧ p = K.idle h := by
  cases H with
  | plain =>
    have e := G.idle_only p hop
    refine ⟨?_, e⟩
    rw [e, G.idle_conc]
  | waking _ k _ _ _ _ _ h9 => exact absurd hop h9
  | staged _ c pr st _ _ hw _ => exact absurd hop (G.wait_op t p c pr hw)
  | seen q c pr v _ _ hw _ => exact absurd hop (G.wait_op t q c pr hw)
  | over _ _ _ _ _ _ _ h9 => exact absurd hop h9
theorem AbsF.holds (G : K.Good n M.mode) {t : Nat} (H : AbsF K n M.mode t f h p) : (h ≠ 0 → (K.conc p).2 ≠ 0) ∧ (h = 2 → p = K.idle 2) := by
  cases H with
  | plain => exact ⟨fun h => h, fun h => G.two p h⟩
  | waking _ k _ _ _ _ _ h9 => exact ⟨fun h => h, fun h => G.two p h⟩
  | staged _ c pr st _ _ hw _ => exact ⟨fun h => h, fun h => G.two p h⟩
  | seen q c pr v _ _ hw _ =>
    refine ⟨fun h => G.post_hold t q c pr v hw h, fun h => ?_⟩
    have := G.two q h
    have h9 := G.wait_op t q c pr hw
    rw [this, G.idle_conc] at h9
    exact absurd rfl h9
  | over _ _ _ _ _ _ _ h9 h8 h7 h6 =>
    refine ⟨fun hh => ?_, fun hh => absurd hh h6⟩
    rw [G.idle_conc]
    show behindA f.op f.ret h ≠ 0
    unfold behindA
    repeat' split
    all_goals first | exact hh | decide

/-- An operation that begins. -/
theorem MI.begins (G : K.Good n M.mode) (Kp : K.Keeps n I) (H : MI K I n (b + 1) M ps) (hi : i < n) (hop : (M.fs.getD i Fr.zero).op = 0) {op : Int} (hmay : mayB op (M.hold.getD i 0) = true) :
    MI K I n b (M.put i (frOp op) (fromA op (M.hold.getD i 0)) M.L) (ps.set i (K.start op (M.hold.getD i 0))) := by
  obtain ⟨e1, e2⟩ := (H.abs i hi).idle G hop
  have hb := Kp.begins _ ps _ i op (M.hold.getD i 0) H.inv hi H.psl e2 hmay
  have ha := AbsF.plain (K := K) (n := n) (mode := M.mode) (t := i) (K.start op (M.hold.getD i 0))
  rw [G.start_conc op _ hmay] at ha
  exact MI.put H G hi H.len ha hb (fun c pr _ hs => by simp [frOp] at hs) (fun _ _ _ => rfl) (fun c pr _ hs => by simp [frOp] at hs) (MI.others H (by rw [e1]; rfl) rfl (fun _ _ _ => rfl) _)

/-- ANY PICK keeps what holds. -/
theorem play_keeps (G : K.Good n M.mode) (Kp : K.Keeps n I) (Lv : K.Live n I N V C nw nv cp) (h1 : 1 ≤ n) (h2 : n ≤ 64) (hm : M.mode = 1 ∨ M.mode = 2) (H : MI K I n (b + 2) M ps) (hi : i < n) (op : Int) :
    ∃ ps', MI K I n b (M.play K.g i op) ps' := by
  unfold Mt.play
  by_cases hop : (M.fs.getD i Fr.zero).op = 0
  · rw [if_pos hop]
    by_cases hmay : mayB op (M.hold.getD i 0) = true
    · rw [if_pos hmay, ← goes_put (f0 := frOp op) (h0 := fromA op (M.hold.getD i 0))]
      have H0 := H.begins G Kp hi hop hmay
      have hne : op ≠ 0 := by
        rintro rfl
        unfold mayB at hmay
        repeat' split at hmay
        all_goals simp at hmay
      obtain ⟨o1, o2, o3, o4⟩ := put_went (K := K) (f' := frOp op) (h' := fromA op (M.hold.getD i 0)) (p' := K.start op (M.hold.getD i 0)) (L' := M.L) (M := M) (ps := ps) (i := i) (by have := H.fsl; omega) (by have := H.hol; omega) (by have := H.psl; omega)
      obtain ⟨ps', h3, _⟩ := goes_any (M := M.put i (frOp op) (fromA op (M.hold.getD i 0)) M.L) G Kp Lv h1 h2 hm H0 hi (by rw [o2]; exact hne)
      rw [o2, o3] at h3
      exact ⟨ps', h3⟩
    · rw [if_neg hmay]
      exact ⟨ps, (H.weaken Kp).weaken Kp⟩
  · rw [if_neg hop]
    obtain ⟨ps', h3, _⟩ := goes_any G Kp Lv h1 h2 hm (H.weaken Kp) hi hop
    exact ⟨ps', h3⟩

def potM (K : LockM P) (cp : (Nat → Int) → Nat → P → Nat) (n : Nat) (M : Mt) (ps : List P) (j : Nat) : Nat := potF K cp (mainOf n M.L) M.mode j (M.fs.getD j Fr.zero) (ps.getD j (K.idle 0)) (M.L.getD (8 + 3 * n + j) 0)
def leftM (n : Nat) (M : Mt) (j : Nat) : Nat := leftF n (M.fs.getD j Fr.zero)
def aM (K : LockM P) (n C : Nat) (nw nv : P → Nat) (ps : List P) : Nat := sm n (fun j => (C + 1) * nw (ps.getD j (K.idle 0)) + 2 * n * nv (ps.getD j (K.idle 0)))
def bM (n : Nat) (M : Mt) : Nat := mx n (leftM n M)
def dM (K : LockM P) (cp : (Nat → Int) → Nat → P → Nat) (n C : Nat) (M : Mt) (ps : List P) : Nat := if 0 < bM n M then C else mx n (potM K cp n M ps)
/-- What is left to do at most. -/
def phi (K : LockM P) (nw nv : P → Nat) (cp : (Nat → Int) → Nat → P → Nat) (n C : Nat) (M : Mt) (ps : List P) : Nat := aM K n C nw nv ps + bM n M + dM K cp n C M ps

/-- A pick in a round: who holds gives back. -/
theorem play_went (G : K.Good n M.mode) (Kp : K.Keeps n I) (Lv : K.Live n I N V C nw nv cp) (hholds : ∀ b ps m i h, I b ps m → i < n → ps.length = n → ps.getD i (K.idle 0) = K.idle h → h = 0 ∨ h = 1 ∨ h = 2)
    (hiw : ∀ t h, K.wait t (K.idle h) = none) (h1 : 1 ≤ n) (h2 : n ≤ 64) (hm : M.mode = 1 ∨ M.mode = 2) (H : MI K I n (b + 2) M ps) (hi : i < n) :
    ∃ ps', MI K I n b (M.play K.g i (2 * M.hold.getD i 0)) ps' ∧ Went K n nw nv cp M ps i (M.play K.g i (2 * M.hold.getD i 0)) ps' := by
  unfold Mt.play
  by_cases hop : (M.fs.getD i Fr.zero).op = 0
  · rw [if_pos hop]
    obtain ⟨e1, e2⟩ := (H.abs i hi).idle G hop
    have hl0 : leftF n (M.fs.getD i Fr.zero) = 0 := by rw [e1]; rfl
    have hpot : potF K cp (mainOf n M.L) M.mode i (M.fs.getD i Fr.zero) (ps.getD i (K.idle 0)) (M.L.getD (8 + 3 * n + i) 0) = cp (mainOf n M.L) i (K.idle (M.hold.getD i 0)) := by
      unfold potF
      rw [e1, e2, hiw]
      rfl
    rcases hholds _ ps _ i _ H.inv hi H.psl e2 with h0 | h3
    · rw [if_neg (by rw [h0]; decide)]
      refine ⟨ps, (H.weaken Kp).weaken Kp, ⟨rfl, rfl⟩, fun j _ => ⟨rfl, rfl, rfl⟩, Or.inr (Or.inr ⟨hl0, hl0, rfl, Nat.le_refl _, Nat.le_refl _, fun _ _ _ => rfl, Or.inr (Or.inl ?_)⟩)⟩
      rw [hpot, h0, Lv.rests]
      exact ⟨rfl, rfl⟩
    · have hmay : mayB (2 * M.hold.getD i 0) (M.hold.getD i 0) = true := by rcases h3 with h | h <;> rw [h] <;> decide
      have hg := Lv.gives (mainOf n M.L) i (M.hold.getD i 0) h3
      have hsw := G.start_wait i _ _ hmay
      rw [if_pos hmay, ← goes_put (f0 := frOp (2 * M.hold.getD i 0)) (h0 := fromA (2 * M.hold.getD i 0) (M.hold.getD i 0))]
      have H0 := H.begins G Kp hi hop hmay
      obtain ⟨o1, o2, o3, o4⟩ := put_went (K := K) (f' := frOp (2 * M.hold.getD i 0)) (h' := fromA (2 * M.hold.getD i 0) (M.hold.getD i 0)) (p' := K.start (2 * M.hold.getD i 0) (M.hold.getD i 0)) (L' := M.L) (M := M) (ps := ps) (i := i) (by have := H.fsl; omega) (by have := H.hol; omega) (by have := H.psl; omega)
      obtain ⟨ps', h4, h5, h6, h7⟩ := goes_any (M := M.put i (frOp (2 * M.hold.getD i 0)) (fromA (2 * M.hold.getD i 0) (M.hold.getD i 0)) M.L) G Kp Lv h1 h2 hm H0 hi (by rw [o2]; show 2 * M.hold.getD i 0 ≠ 0; omega)
      rw [o2, o3] at h4 h5 h6 h7
      rw [o4] at h7
      refine ⟨ps', h4, ⟨h5.1.trans rfl, h5.2.trans rfl⟩, fun j hj => ?_, ?_⟩
      · obtain ⟨g1, g2, g3⟩ := h6 j hj
        obtain ⟨k1, k2, k3⟩ := o1 j hj
        exact ⟨g1.trans k1, g2.trans k2, g3.trans k3⟩
      · have hlz : leftF n (frOp (2 * M.hold.getD i 0)) = 0 := rfl
        have hpz : potF K cp (mainOf n M.L) M.mode i (frOp (2 * M.hold.getD i 0)) (K.start (2 * M.hold.getD i 0) (M.hold.getD i 0)) (M.L.getD (8 + 3 * n + i) 0) = cp (mainOf n M.L) i (K.start (2 * M.hold.getD i 0) (M.hold.getD i 0)) := by
          unfold potF
          rw [hsw]
          rfl
        rw [hpot, e2]
        rcases h7 with ⟨k1, _⟩ | ⟨k1, k2, k3⟩ | ⟨k1, k2, k3, k4, k5, k6, k7⟩
        · rw [hlz] at k1
          exact absurd k1 (by decide)
        · exact Or.inr (Or.inl ⟨hl0, by omega, by omega⟩)
        · refine Or.inr (Or.inr ⟨hl0, k2, k3, by omega, by omega, k6, ?_⟩)
          rcases k7 with k7 | ⟨k7, k8⟩ | ⟨j, k8, k9⟩
          · left
            have k7 : _ + 1 ≤ potF K cp (mainOf n M.L) M.mode i (frOp (2 * M.hold.getD i 0)) (K.start (2 * M.hold.getD i 0) (M.hold.getD i 0)) (M.L.getD (8 + 3 * n + i) 0) := k7
            rw [hpz] at k7
            exact Nat.le_trans k7 hg.2.2
          · have k7 : potF K cp (mainOf n M.L) M.mode i _ _ _ = 0 := k7
            rcases Nat.eq_zero_or_pos (cp (mainOf n M.L) i (K.idle (M.hold.getD i 0))) with hz | hz
            · exact Or.inr (Or.inl ⟨k7, hz⟩)
            · left
              rw [k7]
              exact hz
          · right; right
            by_cases e : j = i
            · subst e
              rw [o2] at k9
              cases k9
            · rw [(o1 j e).1] at k9
              exact ⟨j, k8, k9⟩
  · rw [if_neg hop]
    exact goes_any G Kp Lv h1 h2 hm (H.weaken Kp) hi hop

theorem pot_same (hn : ∀ {M' : Mt}, M'.mode = M.mode → True) {M' : Mt} {ps' : List P} {j : Nat} (e1 : M'.mode = M.mode) (e2 : mainOf n M'.L = mainOf n M.L) (e3 : M'.fs.getD j Fr.zero = M.fs.getD j Fr.zero) (e4 : ps'.getD j (K.idle 0) = ps.getD j (K.idle 0)) (e5 : M'.L.getD (8 + 3 * n + j) 0 = M.L.getD (8 + 3 * n + j) 0) :
    potM K cp n M' ps' j = potM K cp n M ps j := by
  unfold potM
  rw [e1, e2, e3, e4, e5]

/-- What a step does to what is left: a write lessens it; else each keeps its own. -/
theorem went_phi (Lv : K.Live n I N V C nw nv cp) (hi : i < n) {M' : Mt} {ps' : List P} (G' : AbsF K n M'.mode i (M'.fs.getD i Fr.zero) (M'.hold.getD i 0) (ps'.getD i (K.idle 0))) (hle : ∀ f : Fr, leftF n f ≤ 2 * n) (W : Went K n nw nv cp M ps i M' ps') :
    phi K nw nv cp n C M' ps' + 1 ≤ phi K nw nv cp n C M ps ∨
    (aM K n C nw nv ps' ≤ aM K n C nw nv ps ∧ (∀ j, j ≠ i → leftM n M' j = leftM n M j) ∧
      ((0 < leftM n M i ∧ leftM n M' i + 1 ≤ leftM n M i) ∨
       (leftM n M i = 0 ∧ leftM n M' i = 0 ∧ mainOf n M'.L = mainOf n M.L ∧ (∀ j, j < n → j ≠ i → potM K cp n M' ps' j = potM K cp n M ps j) ∧
         (potM K cp n M' ps' i + 1 ≤ potM K cp n M ps i ∨ (potM K cp n M' ps' i = 0 ∧ potM K cp n M ps i = 0) ∨ ∃ j, j < n ∧ (M.fs.getD j Fr.zero).wk.on = true)))) := by
  obtain ⟨⟨_, hmode⟩, hoth, hk⟩ := W
  have hlo : ∀ j, j ≠ i → leftM n M' j = leftM n M j := fun j hj => by unfold leftM; rw [(hoth j hj).1]
  have hone : aM K n C nw nv ps' + ((C + 1) * nw (ps.getD i (K.idle 0)) + 2 * n * nv (ps.getD i (K.idle 0))) = aM K n C nw nv ps + ((C + 1) * nw (ps'.getD i (K.idle 0)) + 2 * n * nv (ps'.getD i (K.idle 0))) :=
    sm_one (f := fun j => (C + 1) * nw (ps'.getD j (K.idle 0)) + 2 * n * nv (ps'.getD j (K.idle 0))) (g := fun j => (C + 1) * nw (ps.getD j (K.idle 0)) + 2 * n * nv (ps.getD j (K.idle 0))) n hi (fun j _ hj => by rw [(hoth j hj).2.2])
  rcases hk with ⟨k1, k2, rfl, k4⟩ | ⟨k1, k2, k3⟩ | ⟨k1, k2, k3, k4, k5, k6, k7⟩
  · exact Or.inr ⟨Nat.le_refl _, hlo, Or.inl ⟨k1, k2⟩⟩
  · left
    generalize hu : (if 0 < leftF n (M'.fs.getD i Fr.zero) then 1 else 0) = u at k3
    have hb : bM n M' ≤ bM n M + 2 * n * u := by
      refine mx_le n (fun j hj => ?_)
      by_cases e : j = i
      · subst e
        by_cases h0 : 0 < leftF n (M'.fs.getD j Fr.zero)
        · rw [if_pos h0] at hu
          subst hu
          have := hle (M'.fs.getD j Fr.zero)
          unfold leftM
          omega
        · unfold leftM
          omega
      · rw [hlo j e]
        have := le_mx (f := leftM n M) n hj
        unfold bM
        omega
    have hd : dM K cp n C M' ps' ≤ C := by
      unfold dM
      split
      · exact Nat.le_refl _
      · exact mx_le n (fun j _ => potF_le Lv)
    have e1 : (C + 1) * (nw (ps'.getD i (K.idle 0)) + 1) ≤ (C + 1) * nw (ps.getD i (K.idle 0)) := Nat.mul_le_mul_left _ k2
    have e2 : 2 * n * (nv (ps'.getD i (K.idle 0)) + u) ≤ 2 * n * nv (ps.getD i (K.idle 0)) := Nat.mul_le_mul_left _ k3
    rw [Nat.mul_add] at e1 e2
    unfold phi
    omega
  · right
    have e1 : (C + 1) * nw (ps'.getD i (K.idle 0)) ≤ (C + 1) * nw (ps.getD i (K.idle 0)) := Nat.mul_le_mul_left _ k4
    have e2 : 2 * n * nv (ps'.getD i (K.idle 0)) ≤ 2 * n * nv (ps.getD i (K.idle 0)) := Nat.mul_le_mul_left _ k5
    refine ⟨by omega, hlo, Or.inr ⟨k1, k2, k3, fun j hj hji => ?_, ?_⟩⟩
    · obtain ⟨g1, g2, g3⟩ := hoth j hji
      exact pot_same (fun _ => trivial) hmode k3 g1 g3 (k6 j hj hji)
    · unfold potM
      rw [hmode, k3]
      exact k7
end
end Go.Proofs.Ytlndihdlodempaa.Z

/- Locks as tasks that wait for cells, and wake each other: one writes, or many read; let go on, all come to rest. No lock in sight. -/
set_option linter.unusedVariables false
set_option linter.unusedSimpArgs false
namespace Go.Proofs.Ytlndihdlodempaa.Z
open Go.RowKit

/-- What a lock brings, whole. -/
structure LockM.All {P : Type} (K : LockM P) (n : Nat) (mode : Int) (I : Nat → List P → (Nat → Int) → Prop) (N V C : Nat) (nw nv : P → Nat) (cp : (Nat → Int) → Nat → P → Nat) : Prop where
  good : K.Good n mode
  keeps : K.Keeps n I
  live : K.Live n I N V C nw nv cp
  holds : ∀ b ps m i h, I b ps m → i < n → ps.length = n → ps.getD i (K.idle 0) = K.idle h → h = 0 ∨ h = 1 ∨ h = 2
  excl : ∀ b ps m i j, I b ps m → ps.length = n → i < n → j < n → j ≠ i → ps.getD i (K.idle 0) = K.idle 2 → (K.conc (ps.getD j (K.idle 0))).2 = 0
  still : ∀ t h, K.wait t (K.idle h) = none

section
variable {P : Type} {K : LockM P} {I : Nat → List P → (Nat → Int) → Prop} {n b : Nat} {mode : Int} {M : Mt} {ps : List P} {N V C : Nat} {nw nv : P → Nat} {cp : (Nat → Int) → Nat → P → Nat} {i : Nat} {f : Fr} {h : Int} {p : P}

theorem left_le (n : Nat) (f : Fr) : leftF n f ≤ 2 * n := by
  unfold leftF
  split <;> omega

/-- All are idle, and hold nothing. -/
def Rest (n : Nat) (M : Mt) : Prop := ∀ j, j < n → M.fs.getD j Fr.zero = Fr.zero ∧ M.hold.getD j 0 = 0

theorem rest_of (A : K.All n mode I N V C nw nv cp) (hM : M.mode = mode) (H : MI K I n b M ps) (hoff : ∀ j, j < n → leftM n M j = 0) (hpot : ∀ j, j < n → potM K cp n M ps j = 0) : Rest n M := by
  have G := A.good
  rw [← hM] at G
  have hwoff : ∀ j, j < n → (M.fs.getD j Fr.zero).wk.on = true → (M.fs.getD j Fr.zero).wk.i < n → False := fun j hj hk hlt => by
    have := hoff j hj
    unfold leftM leftF at this
    rw [if_pos hk] at this
    split at this <;> omega
  have hw : ∀ j, j < n → ps.getD j (K.idle 0) = K.idle 0 ∨ ∃ c pr, K.wait j (ps.getD j (K.idle 0)) = some (c, pr) ∧ pr (mainOf n M.L c) = false := by
    intro j hj
    have hp := hpot j hj
    unfold potM potF at hp
    split at hp
    · omega
    split at hp
    · rename_i c pr hw
      cases hpr : pr (mainOf n M.L c) with
      | true =>
        rw [hpr] at hp
        have := A.live.wait_yes _ _ _ _ _ hw hpr
        simp only [if_true] at hp
        omega
      | false => exact Or.inr ⟨c, pr, hw, hpr⟩
    · rename_i hw
      exact Or.inl (A.live.zero _ _ _ hw hp)
  have hid := A.live.free _ ps _ H.inv H.psl hw
  intro j hj
  have ha := H.abs j hj
  have hpj := hid j hj
  have hp := hpot j hj
  obtain ⟨f, hf⟩ : ∃ f, M.fs.getD j Fr.zero = f := ⟨_, rfl⟩
  obtain ⟨h, hh⟩ : ∃ h, M.hold.getD j 0 = h := ⟨_, rfl⟩
  have hwo := hwoff j hj
  rw [hf] at hwo
  unfold potM at hp
  rw [hpj, hf] at hp
  rw [hf, hh, hpj] at ha
  rw [hf, hh]
  generalize hq : K.idle 0 = q0 at ha
  cases ha with
  | plain =>
    subst hq
    rw [G.idle_conc]
    exact ⟨rfl, rfl⟩
  | waking _ k _ hk _ hlt _ _ => exact absurd (hwo hk hlt) id
  | staged _ c pr st _ _ hw2 _ =>
    subst hq
    rw [A.still] at hw2
    cases hw2
  | seen q c pr v _ _ hw2 _ =>
    unfold potF at hp
    rw [if_pos rfl] at hp
    omega
  | over _ _ _ hk _ hlt _ _ => exact absurd (hwo hk hlt) id

theorem rest_play (H : Rest n M) (hi : i < n) {g : Rn → Rn} : M.play g i (2 * M.hold.getD i 0) = M := by
  obtain ⟨e1, e2⟩ := H i hi
  unfold Mt.play
  rw [e1, e2, if_pos (show Fr.zero.op = 0 from rfl), if_neg (by decide)]
theorem rest_back (H : Rest n M) {g : Rn → Rn} : ∀ t, t ≤ n → backA g M t = M
  | 0, _ => rfl
  | t + 1, ht => by
    unfold backA
    rw [rest_back H t (by omega)]
    exact rest_play H (by omega)

/-- A ROUND goes on, or all rest. -/
theorem round_went (A : K.All n mode I N V C nw nv cp) (h1 : 1 ≤ n) (h2 : n ≤ 64) (hm : mode = 1 ∨ mode = 2) (hM : M.mode = mode) (H : MI K I n (b + 2 * n) M ps) :
    ∃ ps', MI K I n b (backA K.g M n) ps' ∧ (backA K.g M n).mode = mode ∧ (phi K nw nv cp n C (backA K.g M n) ps' + 1 ≤ phi K nw nv cp n C M ps ∨ Rest n M) := by
  have key : ∀ t, t ≤ n → ∃ ps', MI K I n (b + 2 * (n - t)) (backA K.g M t) ps' ∧ (backA K.g M t).mode = mode ∧ (phi K nw nv cp n C (backA K.g M t) ps' + 1 ≤ phi K nw nv cp n C M ps ∨
      (aM K n C nw nv ps' ≤ aM K n C nw nv ps ∧ phi K nw nv cp n C (backA K.g M t) ps' ≤ phi K nw nv cp n C M ps ∧
        (0 < bM n M → (∀ j, j < t → leftM n (backA K.g M t) j + 1 ≤ bM n M) ∧ ∀ j, t ≤ j → j < n → leftM n (backA K.g M t) j = leftM n M j) ∧
        (bM n M = 0 → (∀ j, j < n → leftM n (backA K.g M t) j = 0) ∧ (∀ j, j < t → potM K cp n (backA K.g M t) ps' j + 1 ≤ potM K cp n M ps j ∨ (potM K cp n (backA K.g M t) ps' j = 0 ∧ potM K cp n M ps j = 0)) ∧
          ∀ j, t ≤ j → j < n → potM K cp n (backA K.g M t) ps' j = potM K cp n M ps j))) := by
    intro t
    induction t with
    | zero =>
      intro _
      refine ⟨ps, H, hM, Or.inr ⟨Nat.le_refl _, Nat.le_refl _, fun hb => ⟨fun j hj => by omega, fun j _ _ => rfl⟩, fun hb => ⟨fun j hj => ?_, fun j hj => by omega, fun j _ _ => rfl⟩⟩⟩
      have := le_mx (f := leftM n M) n hj
      unfold bM at hb
      show leftM n M j = 0
      omega
    | succ t ih =>
      intro ht
      obtain ⟨q, hq, hmode, hor⟩ := ih (by omega)
      rw [show b + 2 * (n - t) = b + 2 * (n - (t + 1)) + 2 by omega] at hq
      have htn : t < n := by omega
      show ∃ ps', MI K I n (b + 2 * (n - (t + 1))) ((backA K.g M t).play K.g t (2 * (backA K.g M t).hold.getD t 0)) ps' ∧ ((backA K.g M t).play K.g t (2 * (backA K.g M t).hold.getD t 0)).mode = mode ∧ (phi K nw nv cp n C ((backA K.g M t).play K.g t (2 * (backA K.g M t).hold.getD t 0)) ps' + 1 ≤ phi K nw nv cp n C M ps ∨
        (aM K n C nw nv ps' ≤ aM K n C nw nv ps ∧ phi K nw nv cp n C ((backA K.g M t).play K.g t (2 * (backA K.g M t).hold.getD t 0)) ps' ≤ phi K nw nv cp n C M ps ∧
          (0 < bM n M → (∀ j, j < t + 1 → leftM n ((backA K.g M t).play K.g t (2 * (backA K.g M t).hold.getD t 0)) j + 1 ≤ bM n M) ∧ ∀ j, t + 1 ≤ j → j < n → leftM n ((backA K.g M t).play K.g t (2 * (backA K.g M t).hold.getD t 0)) j = leftM n M j) ∧
          (bM n M = 0 → (∀ j, j < n → leftM n ((backA K.g M t).play K.g t (2 * (backA K.g M t).hold.getD t 0)) j = 0) ∧ (∀ j, j < t + 1 → potM K cp n ((backA K.g M t).play K.g t (2 * (backA K.g M t).hold.getD t 0)) ps' j + 1 ≤ potM K cp n M ps j ∨ (potM K cp n ((backA K.g M t).play K.g t (2 * (backA K.g M t).hold.getD t 0)) ps' j = 0 ∧ potM K cp n M ps j = 0)) ∧
            ∀ j, t + 1 ≤ j → j < n → potM K cp n ((backA K.g M t).play K.g t (2 * (backA K.g M t).hold.getD t 0)) ps' j = potM K cp n M ps j)))
      generalize backA K.g M t = Mt1 at hq hmode hor ⊢
      have G := A.good
      rw [← hmode] at G
      obtain ⟨q', h3, W⟩ := play_went (M := Mt1) G A.keeps A.live A.holds A.still h1 h2 (by rw [hmode]; exact hm) hq htn
      have hW := went_phi A.live htn (h3.abs t htn) (left_le n) W
      refine ⟨q', h3, W.num.2.trans hmode, ?_⟩
      generalize Mt1.play K.g t (2 * Mt1.hold.getD t 0) = Mt2 at h3 W hW ⊢
      have mono : phi K nw nv cp n C Mt2 q' ≤ phi K nw nv cp n C Mt1 q := by
        rcases hW with h4 | ⟨h4, h5, h6⟩
        · omega
        · have hb : bM n Mt2 ≤ bM n Mt1 := by
            refine mx_le n (fun j hj => ?_)
            have h9 := le_mx (f := leftM n Mt1) n hj
            unfold bM
            by_cases e : j = t
            · subst e
              rcases h6 with ⟨_, h7⟩ | ⟨_, h7, _⟩ <;> omega
            · rw [h5 j e]; exact h9
          have hd : dM K cp n C Mt2 q' ≤ dM K cp n C Mt1 q := by
            unfold dM
            have hC : ∀ (M3 : Mt) (q3 : List P), (if 0 < bM n M3 then C else mx n (potM K cp n M3 q3)) ≤ C := fun M3 q3 => by
              split
              · exact Nat.le_refl _
              · exact mx_le n (fun j _ => potF_le A.live)
            by_cases hb0 : 0 < bM n Mt1
            · rw [if_pos hb0]; exact hC Mt2 q'
            · rw [if_neg hb0, if_neg (by omega)]
              refine mx_le n (fun j hj => ?_)
              have h9 := le_mx (f := potM K cp n Mt1 q) n hj
              have hl := fun j (hj : j < n) => le_mx (f := leftM n Mt1) n hj
              unfold bM at hb0
              rcases h6 with ⟨h7, _⟩ | ⟨_, _, _, h8, h10⟩
              · have := hl t htn; omega
              · by_cases e : j = t
                · subst e
                  rcases h10 with h10 | ⟨h10, _⟩ | ⟨u, hu, h10⟩
                  · omega
                  · omega
                  · have h11 := hl u hu
                    have h12 := (hq.abs u hu)
                    exfalso
                    have : 0 < leftM n Mt1 u := by
                      unfold leftM
                      generalize Mt1.fs.getD u Fr.zero = f at h10 h12
                      generalize Mt1.hold.getD u 0 = hh at h12
                      generalize q.getD u (K.idle 0) = pp at h12
                      cases h12 with
                      | plain => rw [(G.plain pp).2.1] at h10; cases h10
                      | waking _ k _ hk h0 hlt _ _ => exact left_pos hk h0 hlt rfl
                      | staged _ c pr st _ _ hw2 _ => rw [show ({ (K.conc pp).1 with st := st } : Fr).wk = (K.conc pp).1.wk from rfl, (G.plain pp).2.1] at h10; cases h10
                      | seen q c pr v _ _ hw2 _ => rw [show ({ (K.conc q).1 with a := K.keep q v, st := 4 } : Fr).wk = (K.conc q).1.wk from rfl, (G.plain q).2.1] at h10; cases h10
                      | over _ _ _ hk h0 hlt _ _ => exact left_pos hk h0 hlt rfl
                    omega
                · rw [h8 j hj e]; exact h9
          unfold phi
          omega
      rcases hor with h4 | ⟨h4, h5, h6, h7⟩
      · left; omega
      · rcases hW with h8 | ⟨h8, h9, h10⟩
        · left; omega
        · right
          refine ⟨by omega, by omega, fun hb => ?_, fun hb => ?_⟩
          · obtain ⟨k1, k2⟩ := h6 hb
            refine ⟨fun j hj => ?_, fun j hj hjn => ?_⟩
            · by_cases e : j = t
              · subst e
                have h11 := k2 j (Nat.le_refl _) htn
                have h12 := le_mx (f := leftM n M) n htn
                unfold bM at hb ⊢
                rcases h10 with ⟨_, h10⟩ | ⟨_, h10, _⟩ <;> omega
              · rw [h9 j e]; exact k1 j (by omega)
            · rw [h9 j (by omega)]; exact k2 j (by omega) hjn
          · obtain ⟨k1, k2, k3⟩ := h7 hb
            rcases h10 with ⟨h10, _⟩ | ⟨_, h11, h12, h13, h14⟩
            · have := k1 t htn; omega
            · refine ⟨fun j hj => ?_, fun j hj => ?_, fun j hj hjn => ?_⟩
              · by_cases e : j = t
                · subst e; exact h11
                · rw [h9 j e]; exact k1 j hj
              · by_cases e : j = t
                · subst e
                  rw [← k3 j (Nat.le_refl _) htn]
                  rcases h14 with h14 | h14 | ⟨u, hu, h14⟩
                  · exact Or.inl h14
                  · exact Or.inr h14
                  · exfalso
                    have h15 := k1 u hu
                    have h12 := (hq.abs u hu)
                    have : 0 < leftM n Mt1 u := by
                      unfold leftM
                      generalize Mt1.fs.getD u Fr.zero = f at h14 h12
                      generalize Mt1.hold.getD u 0 = hh at h12
                      generalize q.getD u (K.idle 0) = pp at h12
                      cases h12 with
                      | plain => rw [(G.plain pp).2.1] at h14; cases h14
                      | waking _ k _ hk h0 hlt _ _ => exact left_pos hk h0 hlt rfl
                      | staged _ c pr st _ _ hw2 _ => rw [show ({ (K.conc pp).1 with st := st } : Fr).wk = (K.conc pp).1.wk from rfl, (G.plain pp).2.1] at h14; cases h14
                      | seen q c pr v _ _ hw2 _ => rw [show ({ (K.conc q).1 with a := K.keep q v, st := 4 } : Fr).wk = (K.conc q).1.wk from rfl, (G.plain q).2.1] at h14; cases h14
                      | over _ _ _ hk h0 hlt _ _ => exact left_pos hk h0 hlt rfl
                    omega
                · rw [h13 j (by omega) e]; exact k2 j (by omega)
              · rw [h13 j hjn (by omega)]; exact k3 j (by omega) hjn
  obtain ⟨ps', h3, hmode, h4⟩ := key n (Nat.le_refl _)
  rw [Nat.sub_self] at h3
  refine ⟨ps', h3, hmode, ?_⟩
  rcases h4 with h4 | ⟨h4, h5, h6, h7⟩
  · exact Or.inl h4
  · have hC : dM K cp n C (backA K.g M n) ps' ≤ C := by
      unfold dM
      split
      · exact Nat.le_refl _
      · exact mx_le n (fun j _ => potF_le A.live)
    by_cases hb : 0 < bM n M
    · left
      obtain ⟨k1, _⟩ := h6 hb
      have : bM n (backA K.g M n) + 1 ≤ bM n M := by
        have : bM n (backA K.g M n) ≤ bM n M - 1 := mx_le n (fun j hj => by have := k1 j hj; omega)
        omega
      have hd : dM K cp n C M ps = C := by unfold dM; rw [if_pos hb]
      unfold phi
      omega
    · obtain ⟨k1, k2, _⟩ := h7 (by omega)
      have hb2 : bM n (backA K.g M n) = 0 := by
        have : bM n (backA K.g M n) ≤ 0 := mx_le n (fun j hj => by have := k1 j hj; omega)
        omega
      have hd : dM K cp n C M ps = mx n (potM K cp n M ps) := by unfold dM; rw [if_neg hb]
      have hd2 : dM K cp n C (backA K.g M n) ps' = mx n (potM K cp n (backA K.g M n) ps') := by unfold dM; rw [if_neg (by omega)]
      by_cases hz : 0 < mx n (potM K cp n M ps)
      · left
        have : mx n (potM K cp n (backA K.g M n) ps') ≤ mx n (potM K cp n M ps) - 1 := mx_le n (fun j hj => by
          have h9 := le_mx (f := potM K cp n M ps) n hj
          rcases k2 j hj with h8 | ⟨h8, _⟩ <;> omega)
        unfold phi
        omega
      · right
        refine rest_of A hM H (fun j hj => ?_) (fun j hj => ?_)
        · have := le_mx (f := leftM n M) n hj
          unfold bM at hb
          omega
        · have := le_mx (f := potM K cp n M ps) n hj
          omega

/-- ROUNDS: all come to rest. -/
theorem rounds_rest (A : K.All n mode I N V C nw nv cp) (h1 : 1 ≤ n) (h2 : n ≤ 64) (hm : mode = 1 ∨ mode = 2) (hM : M.mode = mode) {B : Nat} (H : MI K I n B M ps) : ∀ r b, b + 2 * n * r = B → ∃ ps', MI K I n b (roundsA K.g n M r) ps' ∧ (roundsA K.g n M r).mode = mode ∧ (phi K nw nv cp n C (roundsA K.g n M r) ps' + r ≤ phi K nw nv cp n C M ps ∨ Rest n (roundsA K.g n M r))
  | 0, b, hb => ⟨ps, by have : b = B := by simpa using hb
                        rw [this]; exact H, hM, Or.inl (Nat.le_refl _)⟩
  | r + 1, b, hb => by
    obtain ⟨q, h3, h4, h5⟩ := rounds_rest A h1 h2 hm hM H r (b + 2 * n) (by rw [← hb, Nat.mul_add]; omega)
    obtain ⟨q', h6, h7, h8⟩ := round_went A h1 h2 hm h4 h3
    refine ⟨q', h6, h7, ?_⟩
    show _ ∨ Rest n (backA K.g (roundsA K.g n M r) n)
    rcases h5 with h5 | h5
    · rcases h8 with h8 | h8
      · left
        show phi K nw nv cp n C (backA K.g (roundsA K.g n M r) n) q' + (r + 1) ≤ _
        omega
      · right
        rw [rest_back h8 n (Nat.le_refl _)]
        exact h8
    · right
      rw [rest_back h5 n (Nat.le_refl _)]
      exact h5
theorem phi_le (A : K.All n mode I N V C nw nv cp) : phi K nw nv cp n C M ps ≤ n * ((C + 1) * N + 2 * n * V) + 2 * n + C := by
  have e1 : aM K n C nw nv ps ≤ n * ((C + 1) * N + 2 * n * V) := by
    rw [← sm_const]
    refine sm_le n (fun j _ => ?_)
    exact Nat.add_le_add (Nat.mul_le_mul_left _ (A.live.nwle _)) (Nat.mul_le_mul_left _ (A.live.nvle _))
  have e2 : bM n M ≤ 2 * n := mx_le n (fun j _ => left_le n _)
  have e3 : dM K cp n C M ps ≤ C := by
    unfold dM
    split
    · exact Nat.le_refl _
    · exact mx_le n (fun j _ => potF_le A.live)
  unfold phi
  omega

theorem count_one : ∀ (l : List Int) (i : Nat), (∀ j, j < l.length → j ≠ i → l.getD j 0 = 0) → l.countP (· == 2) ≤ 1 ∧ (l.getD i 0 = 2 → l.countP (· == 1) = 0)
  | [], i, _ => by simp
  | x :: l, 0, h => by
    have hz : ∀ y, y ∈ l → y = 0 := fun y hy => by
      obtain ⟨j, hj, rfl⟩ := List.getElem_of_mem hy
      have := h (j + 1) (by simpa using hj) (by omega)
      simpa [List.getD, hj] using this
    have c2 : l.countP (· == 2) = 0 := by rw [List.countP_eq_zero]; intro y hy; rw [hz y hy]; decide
    have c1 : l.countP (· == 1) = 0 := by rw [List.countP_eq_zero]; intro y hy; rw [hz y hy]; decide
    refine ⟨?_, fun hx => ?_⟩
    · rw [List.countP_cons, c2]; split <;> omega
    · have hx : x = 2 := hx
      rw [List.countP_cons, c1, hx]
      decide
  | x :: l, i + 1, h => by
    have hx : x = 0 := h 0 (by simp) (by omega)
    obtain ⟨c2, c1⟩ := count_one l i (fun j hj hji => by
      have := h (j + 1) (by simpa using hj) (by omega)
      simpa using this)
    subst hx
    refine ⟨?_, fun hx => ?_⟩
    · rw [List.countP_cons]; simpa using c2
    · rw [List.countP_cons]; simpa using c1 (by simpa using hx)

theorem excl_many (A : K.All n mode I N V C nw nv cp) (hM : M.mode = mode) (H : MI K I n b M ps) : ¬ (M.many 2 > 1 ∨ M.many 2 = 1 ∧ M.many 1 > 0) := by
  have G := A.good
  rw [← hM] at G
  intro hc
  have hpos : 0 < M.hold.countP (· == 2) := by unfold Mt.many at hc; omega
  rw [List.countP_pos_iff] at hpos
  obtain ⟨y, hy, he⟩ := hpos
  obtain ⟨i, hi, rfl⟩ := List.getElem_of_mem hy
  have hin : i < n := by have := H.hol; omega
  have h2 : M.hold.getD i 0 = 2 := by have : M.hold[i] = 2 := by simpa using he
                                      simpa [List.getD, hi] using this
  have hp := ((H.abs i hin).holds G).2 h2
  obtain ⟨c2, c1⟩ := count_one M.hold i (fun j hj hji => by
    have hjn : j < n := by have := H.hol; omega
    have h0 := A.excl _ ps _ i j H.inv H.psl hin hjn hji hp
    have h3 := ((H.abs j hjn).holds G).1
    rcases Decidable.em (M.hold.getD j 0 = 0) with h4 | h4
    · exact h4
    · exact absurd h0 (h3 h4))
  have := c1 h2
  unfold Mt.many at hc
  omega

theorem plays_keep (A : K.All n mode I N V C nw nv cp) (h1 : 1 ≤ n) (h2 : n ≤ 64) (hm : mode = 1 ∨ mode = 2) : ∀ (l : List (Int × Int)) (b : Nat) (M : Mt) (ps : List P), M.mode = mode → MI K I n (b + 2 * l.length) M ps → ∃ ps', MI K I n b (playsA K.g n M l) ps' ∧ (playsA K.g n M l).mode = mode
  | [], b, M, ps, hM, H => ⟨ps, H, hM⟩
  | x :: l, b, M, ps, hM, H => by
    have G := A.good
    rw [← hM] at G
    rw [show b + 2 * (x :: l).length = b + 2 * l.length + 2 by rw [List.length_cons]; omega] at H
    obtain ⟨q, h3⟩ := play_keeps G A.keeps A.live h1 h2 (by rw [hM]; exact hm) H (i := (x.1 % (n : Int)).toNat) (by have := Int.emod_lt_of_pos x.1 (show (0 : Int) < n by omega); omega) (x.2 % 9)
    exact plays_keep A h1 h2 hm l b _ q ((play_same K.g M _ _).2.1.trans hM) h3

/-- ONE WRITES, OR MANY READ; let go on, all come to rest. -/
theorem excludes_ok (A : K.All n mode I N V C nw nv cp) (h1 : 1 ≤ n) (h2 : n ≤ 64) (hm : mode = 1 ∨ mode = 2) (hfit : n * ((C + 1) * N + 2 * n * V) + 2 * n + C < 2 * n * (8 * n + 40)) (hM : M.mode = mode) (l : List (Int × Int)) (H : MI K I n (2 * n * (2 * n * (8 * n + 40)) + 2 * l.length) M ps) : ExcludesOk K.g n M l := by
  constructor
  · intro j hj
    have e : (l.take j).length = j := by rw [List.length_take]; omega
    obtain ⟨q, h3, h4⟩ := plays_keep A h1 h2 hm (l.take j) (2 * n * (2 * n * (8 * n + 40)) + 2 * (l.length - j)) M ps hM (by rw [e]; rw [show 2 * n * (2 * n * (8 * n + 40)) + 2 * (l.length - j) + 2 * j = 2 * n * (2 * n * (8 * n + 40)) + 2 * l.length by omega]; exact H)
    exact excl_many A h4 h3
  · intro t ht
    obtain ⟨q, h3, h4⟩ := plays_keep A h1 h2 hm l (2 * n * (2 * n * (8 * n + 40))) M ps hM H
    obtain ⟨q', h5, h6, h7⟩ := rounds_rest A h1 h2 hm h4 h3 (2 * n * (8 * n + 40)) 0 (by omega)
    rcases h7 with h7 | h7
    · have := phi_le (M := playsA K.g n M l) (ps := q) A
      omega
    · obtain ⟨e1, e2⟩ := h7 t ht
      rw [e1]
      exact ⟨rfl, e2⟩

/-- How all begin. -/
theorem start_MI (A : K.All n mode I N V C nw nv cp) (L : List Int) (hL : L.length = 8 + 4 * n) (hI : I b (List.replicate n (K.idle 0)) (mainOf n L)) : MI K I n b (Mt.start n mode L) (List.replicate n (K.idle 0)) := by
  have hr : ∀ j, (List.replicate n (K.idle 0)).getD j (K.idle 0) = K.idle 0 := fun j => by
    rw [List.getD_eq_getElem?_getD, List.getElem?_replicate]; split <;> rfl
  have hf : ∀ j, (List.replicate n Fr.zero).getD j Fr.zero = Fr.zero := fun j => by
    rw [List.getD_eq_getElem?_getD, List.getElem?_replicate]; split <;> rfl
  have hh : ∀ j, (List.replicate n (0 : Int)).getD j 0 = 0 := fun j => by
    rw [List.getD_eq_getElem?_getD, List.getElem?_replicate]; split <;> rfl
  refine ⟨rfl, by simp [Mt.start], by simp [Mt.start], by simp, hL, fun i hi => ?_, hI, fun i c pr hi hw _ => ?_, fun i c pr hi hw _ _ => ?_⟩
  · show AbsF K n mode i ((List.replicate n Fr.zero).getD i Fr.zero) ((List.replicate n (0 : Int)).getD i 0) _
    rw [hr, hf, hh]
    have := AbsF.plain (K := K) (n := n) (mode := mode) (t := i) (K.idle 0)
    rw [A.good.idle_conc] at this
    exact this
  · rw [hr, A.still] at hw
    cases hw
  · rw [hr, A.still] at hw
    cases hw
end
end Go.Proofs.Ytlndihdlodempaa.Z

/- Sums over places; accesses to the words that are no watches. No lock in sight. -/
set_option linter.unusedVariables false
set_option linter.unusedSimpArgs false
namespace Go.Proofs.Ytlndihdlodempaa.Z
open Go.RowKit

section
variable {P : Type}
def ws (f : P → Int) : List P → Int
  | [] => 0
  | x :: l => f x + ws f l
theorem ws_set {f : P → Int} {d x : P} : ∀ {l : List P} {i : Nat}, i < l.length → ws f (l.set i x) = ws f l - f (l.getD i d) + f x
  | [], i, h => by simp at h
  | y :: l, 0, _ => by simp [ws]; omega
  | y :: l, i + 1, h => by
    have := ws_set (f := f) (d := d) (x := x) (l := l) (i := i) (by simpa using h)
    simp [ws] at this ⊢
    omega
theorem ws_nonneg {f : P → Int} (h : ∀ x, 0 ≤ f x) : ∀ l : List P, 0 ≤ ws f l
  | [] => Int.le_refl _
  | x :: l => by have := ws_nonneg h l; have := h x; simp [ws]; omega
theorem ws_le {f g : P → Int} (h : ∀ x, f x ≤ g x) : ∀ l : List P, ws f l ≤ ws g l
  | [] => Int.le_refl _
  | x :: l => by have := ws_le h l; have := h x; simp [ws]; omega
theorem ws_len {f : P → Int} (h : ∀ x, f x ≤ 1) : ∀ l : List P, ws f l ≤ l.length
  | [] => by simp [ws]
  | x :: l => by have := ws_len h l; have := h x; simp [ws]; omega
theorem ws_one {f : P → Int} {d : P} (h : ∀ x, 0 ≤ f x) : ∀ {l : List P} {i : Nat}, i < l.length → f (l.getD i d) ≤ ws f l
  | [], i, hi => by simp at hi
  | x :: l, 0, _ => by have := ws_nonneg h l; simp [ws]; omega
  | x :: l, i + 1, hi => by
    have := ws_one h (l := l) (i := i) (d := d) (by simpa using hi)
    have := h x
    simp [ws] at *
    omega
theorem ws_two {f : P → Int} {d : P} (h : ∀ x, 0 ≤ f x) {l : List P} {i j : Nat} (hi : i < l.length) (hj : j < l.length) (hij : i ≠ j) : f (l.getD i d) + f (l.getD j d) ≤ ws f l := by
  have h3 : ∀ {l : List P} {i j : Nat}, i < l.length → j < l.length → i ≠ j → f (l.getD i d) + f (l.getD j d) ≤ ws f l := by
    intro l
    induction l with
    | nil => intro i j hi _ _; simp at hi
    | cons x l ih =>
      intro i j hi hj hij
      cases i with
      | zero =>
        cases j with
        | zero => exact absurd rfl hij
        | succ j =>
          have := ws_one (d := d) h (l := l) (i := j) (by simpa using hj)
          simp [ws] at *
          omega
      | succ i =>
        cases j with
        | zero =>
          have := ws_one (d := d) h (l := l) (i := i) (by simpa using hi)
          simp [ws] at *
          omega
        | succ j =>
          have := ih (i := i) (j := j) (by simpa using hi) (by simpa using hj) (by omega)
          have := h x
          simp [ws] at *
          omega
  exact h3 hi hj hij
theorem ws_zero {f : P → Int} {l : List P} (h : ∀ x, x ∈ l → f x = 0) : ws f l = 0 := by
  induction l with
  | nil => rfl
  | cons x l ih => simp [ws, h x (by simp), ih (fun y hy => h y (List.mem_cons_of_mem _ hy))]
theorem ws_replicate {f : P → Int} {n : Nat} {x : P} (h : f x = 0) : ws f (List.replicate n x) = 0 := ws_zero (fun y hy => by rw [(List.mem_replicate.1 hy).2, h])
theorem ws_all0 {f : P → Int} {d : P} {l : List P} {n : Nat} (hl : l.length = n) (h : ∀ i, i < n → f (l.getD i d) = 0) : ws f l = 0 := by
  refine ws_zero (fun y hy => ?_)
  obtain ⟨i, hi, rfl⟩ := List.getElem_of_mem hy
  have := h i (by omega)
  simpa [List.getD, hi] using this
/-- A thing that one has, somebody has. -/
theorem ws_some {f : P → Int} {d : P} {l : List P} {n : Nat} (hl : l.length = n) (h : ws f l ≠ 0) : ∃ i, i < n ∧ f (l.getD i d) ≠ 0 := by
  rcases Classical.em (∃ i, i < n ∧ f (l.getD i d) ≠ 0) with h1 | h1
  · exact h1
  · exfalso
    refine h (ws_all0 (d := d) hl (fun i hi => ?_))
    rcases Decidable.em (f (l.getD i d) = 0) with h2 | h2
    · exact h2
    · exact absurd ⟨i, hi, h2⟩ h1
end

section
variable {n : Nat} {L : List Int} {c x y : Int}
theorem at_ld (hl : L.length = 8 + 4 * n) (h0 : 0 ≤ c) (hc : c.toNat < 8 + 2 * n) : doA L ⟨1, c, 0, 0, 0⟩ = (⟨1, c, 0, 0, mainOf n L c.toNat⟩, true, L) := by
  rw [doA_at (by omega)]
  simp [mainOf, hc]
theorem at_ad (hl : L.length = 8 + 4 * n) (h0 : 0 ≤ c) (hc : c.toNat < 8 + 2 * n) : doA L ⟨3, c, x, 0, 0⟩ = (⟨3, c, x, 0, mainOf n L c.toNat⟩, true, L.set c.toNat ((mainOf n L c.toNat + x) % 4294967296)) := by
  rw [doA_at (by omega)]
  simp [mainOf, hc]
theorem at_st (hl : L.length = 8 + 4 * n) (h0 : 0 ≤ c) (hc : c.toNat < 8 + 2 * n) : doA L ⟨2, c, x, 0, 0⟩ = (⟨2, c, x, 0, mainOf n L c.toNat⟩, true, L.set c.toNat x) := by
  rw [doA_at (by omega)]
  simp [mainOf, hc]
theorem at_sw (hl : L.length = 8 + 4 * n) (h0 : 0 ≤ c) (hc : c.toNat < 8 + 2 * n) : doA L ⟨4, c, x, 0, 0⟩ = (⟨4, c, x, 0, mainOf n L c.toNat⟩, true, L.set c.toNat x) := by
  rw [doA_at (by omega)]
  simp [mainOf, hc]
theorem at_cas (hl : L.length = 8 + 4 * n) (h0 : 0 ≤ c) (hc : c.toNat < 8 + 2 * n) : doA L ⟨5, c, x, y, 0⟩ = (⟨5, c, x, y, mainOf n L c.toNat⟩, true, if mainOf n L c.toNat = x then L.set c.toNat y else L) := by
  rw [doA_at (by omega)]
  simp [mainOf, hc]
theorem at_casB (hl : L.length = 8 + 4 * n) (h0 : 0 ≤ c) (hc : c.toNat < 8 + 2 * n) : casB L c x y = (mainOf n L c.toNat == x) := by
  unfold casB
  rw [at_cas hl h0 hc]
  simp
end
/-- A wait that is done has no stage. -/
theorem wait_done {L : List Int} {n mode task st c : Int} {p : Int → Bool} (h : (waitA L n mode task st c p).done = true) : (waitA L n mode task st c p).stage = 0 := by
  unfold waitA at h ⊢
  dsimp only at h ⊢
  repeat' split at h
  all_goals first | (simp at h; done) | skip
  all_goals simp_all
theorem wait4_done {L : List Int} {n mode task c : Int} {p : Int → Bool} (hm : mode = 2) : (waitA L n mode task 4 c p).done = true ∧ (waitA L n mode task 4 c p).stage = 0 := by
  unfold waitA
  dsimp only
  rw [stage_at hm (by omega) (by omega)]
  exact ⟨rfl, rfl⟩
theorem wait4_seen {L : List Int} {n mode task c : Int} {p : Int → Bool} (hm : mode = 2) : (waitA L n mode task 4 c p).seen = false := by
  unfold waitA
  dsimp only
  rw [stage_at hm (by omega) (by omega)]
  rfl
theorem wait_ds {L : List Int} {n mode task st c : Int} {p : Int → Bool} (h0 : 0 ≤ st) (h3 : st ≤ 3) (h : (waitA L n mode task st c p).done = true) : (waitA L n mode task st c p).seen = true := by
  have hs : stageA mode st ≠ 4 := by unfold stageA; split <;> omega
  unfold waitA at h ⊢
  dsimp only at h ⊢
  rw [if_neg hs] at h ⊢
  repeat' split at h
  all_goals first | (simp at h; done) | skip
  all_goals simp_all
theorem may_ops {op h : Int} (hm : mayB op h = true) : (h = 0 ∧ (op = 1 ∨ op = 3 ∨ op = 5 ∨ op = 6)) ∨ (h = 1 ∧ (op = 2 ∨ op = 7)) ∨ (h ≠ 0 ∧ h ≠ 1 ∧ (op = 4 ∨ op = 8)) := by
  unfold mayB at hm
  split at hm
  · rename_i h0
    simp at hm
    exact Or.inl ⟨h0, by omega⟩
  split at hm
  · rename_i h0 h1
    simp at hm
    exact Or.inr (Or.inl ⟨h1, by omega⟩)
  · rename_i h0 h1
    simp at hm
    exact Or.inr (Or.inr ⟨h0, h1, by omega⟩)

end Go.Proofs.Ytlndihdlodempaa.Z

/- A queue of tasks, each of which knows who stands behind it: what holds of it, and stays so. No lock in sight. -/
set_option linter.unusedVariables false
set_option linter.unusedSimpArgs false
namespace Go.Proofs.Ytlndihdlodempaa.Z
open Go.RowKit

/-- Where a task is with the queue: not in it; its link is cleared; it is marked as blocked, too; it is behind another one and has not told so; it waits; it is in; it looked and found nobody; it saw that somebody comes; it knows who stands behind it. -/
inductive Mk
  | out | nx | nb | e3 (a : Int) | e4 | hd | g1 | g2 | g3 (a : Int)
def Mk.turn : Mk → Bool
  | .hd => true | .g1 => true | .g2 => true | .g3 _ => true
  | _ => false
def Mk.inq : Mk → Bool
  | .out => false | .nx => false | .nb => false
  | _ => true
/-- The queue's end, as a word. -/
def tlw : List Nat → Int
  | [] => 0
  | [x] => x + 1
  | _ :: y :: r => tlw (y :: r)
def Chain (ks : Nat → Mk) (nx bl : Nat → Int) : List Nat → Prop
  | [] => True
  | [x] => nx x = 0
  | x :: y :: r => ((ks y = .e3 (x + 1) ∧ nx x = 0) ∨ (ks y = .e4 ∧ nx x = y + 1)) ∧ bl y = 1 ∧ Chain ks nx bl (y :: r)
def Head (ks : Nat → Mk) (nx bl : Nat → Int) : List Nat → Prop
  | [] => True
  | x :: r => ks x = .hd ∨ ks x = .g1 ∨ (ks x = .g2 ∧ r ≠ []) ∨ (∃ a, ks x = .g3 a ∧ nx x = a ∧ a ≠ 0) ∨ (ks x = .e4 ∧ bl x = 0)
theorem head_cons {ks : Nat → Mk} {nx bl : Nat → Int} {x : Nat} {r : List Nat} : Head ks nx bl (x :: r) ↔ (ks x = .hd ∨ ks x = .g1 ∨ (ks x = .g2 ∧ r ≠ []) ∨ (∃ a, ks x = .g3 a ∧ nx x = a ∧ a ≠ 0) ∨ (ks x = .e4 ∧ bl x = 0)) := Iff.rfl
structure MxIs (n : Nat) (ks : Nat → Mk) (tail : Int) (nx bl : Nat → Int) (Q : List Nat) : Prop where
  nd : Q.Nodup
  lt : ∀ x, x ∈ Q → x < n
  inq : ∀ i, i < n → (i ∈ Q ↔ (ks i).inq = true)
  tl : tail = tlw Q
  ch : Chain ks nx bl Q
  hd : Head ks nx bl Q
  pre : ∀ i, i < n → ((ks i = .nx ∨ ks i = .nb) → nx i = 0) ∧ (ks i = .nb → bl i = 1)

theorem chain_congr {ks ks' : Nat → Mk} {nx nx' bl bl' : Nat → Int} : ∀ {Q : List Nat}, (∀ z, z ∈ Q → nx' z = nx z) → (∀ z, z ∈ Q.tail → ks' z = ks z ∧ bl' z = bl z) → Chain ks nx bl Q → Chain ks' nx' bl' Q
  | [], _, _, _ => trivial
  | [x], h1, _, h => by
    show nx' x = 0
    rw [h1 x (by simp)]
    exact h
  | x :: y :: r, h1, h2, h => by
    obtain ⟨h3, h4, h5⟩ := h
    obtain ⟨k1, k2⟩ := h2 y (by simp)
    refine ⟨?_, by rw [k2]; exact h4, chain_congr (fun z hz => h1 z (List.mem_cons_of_mem _ hz)) (fun z hz => h2 z (by simp only [List.tail_cons] at hz ⊢; exact List.mem_cons_of_mem _ hz)) h5⟩
    rw [k1, h1 x (by simp)]
    exact h3
theorem tlw_append : ∀ (Q : List Nat) (t : Nat), tlw (Q ++ [t]) = t + 1
  | [], t => rfl
  | [x], t => rfl
  | x :: y :: r, t => tlw_append (y :: r) t
theorem tlw_mem : ∀ {Q : List Nat}, Q ≠ [] → ∃ z, z ∈ Q ∧ tlw Q = (z : Int) + 1
  | [], h => absurd rfl h
  | [x], _ => ⟨x, by simp, rfl⟩
  | x :: y :: r, _ => by
    obtain ⟨z, h1, h2⟩ := tlw_mem (Q := y :: r) (by simp)
    exact ⟨z, List.mem_cons_of_mem _ h1, h2⟩
theorem tlw_zero {Q : List Nat} (h : tlw Q = 0) : Q = [] := by
  cases Q with
  | nil => rfl
  | cons x r =>
    obtain ⟨z, _, h2⟩ := tlw_mem (Q := x :: r) (by simp)
    omega
theorem chain_append {ks ks' : Nat → Mk} {nx nx' bl bl' : Nat → Int} {t : Nat} : ∀ {Q : List Nat}, Q ≠ [] → t ∉ Q → (∀ z, z ≠ t → nx' z = nx z ∧ ks' z = ks z ∧ bl' z = bl z) → ks' t = .e3 (tlw Q) → bl' t = 1 → nx' t = 0 → Chain ks nx bl Q → Chain ks' nx' bl' (Q ++ [t])
  | [], h, _, _, _, _, _, _ => absurd rfl h
  | [x], _, hn, h, h1, h2, h3, hc => by
    have hx : x ≠ t := by simpa using fun h => hn (by simp [h])
    exact ⟨Or.inl ⟨h1, by rw [(h x hx).1]; exact hc⟩, h2, h3⟩
  | x :: y :: r, _, hn, h, h1, h2, h3, hc => by
    obtain ⟨c1, c2, c3⟩ := hc
    have hx : x ≠ t := fun e => hn (by simp [e])
    have hy : y ≠ t := fun e => hn (by simp [e])
    refine ⟨?_, by rw [(h y hy).2.2]; exact c2, chain_append (Q := y :: r) (by simp) (fun e => hn (List.mem_cons_of_mem _ e)) h h1 h2 h3 c3⟩
    rw [(h x hx).1, (h y hy).2.1]
    exact c1
/-- Who is not first stands behind somebody. -/
theorem chain_pred {ks : Nat → Mk} {nx bl : Nat → Int} {t : Nat} : ∀ {x : Nat} {r : List Nat}, Chain ks nx bl (x :: r) → t ∈ r → ∃ p, p ∈ x :: r ∧ ((ks t = .e3 (p + 1) ∧ nx p = 0) ∨ (ks t = .e4 ∧ nx p = t + 1)) ∧ bl t = 1
  | x, [], _, h => by simp at h
  | x, y :: r, hc, h => by
    obtain ⟨c1, c2, c3⟩ := hc
    rcases List.mem_cons.1 h with rfl | h
    · exact ⟨x, by simp, c1, c2⟩
    · obtain ⟨p, h1, h2, h3⟩ := chain_pred c3 h
      exact ⟨p, List.mem_cons_of_mem _ h1, h2, h3⟩
theorem chain_link {ks ks' : Nat → Mk} {nx nx' bl : Nat → Int} {t p : Nat} : ∀ {x : Nat} {r : List Nat}, (x :: r).Nodup → Chain ks nx bl (x :: r) → t ∈ r → ks t = .e3 (p + 1) → (∀ z, z ≠ t → ks' z = ks z) → ks' t = .e4 → (∀ z, z ≠ p → nx' z = nx z) → nx' p = t + 1 → Chain ks' nx' bl (x :: r)
  | x, [], _, _, h, _, _, _, _, _ => by simp at h
  | x, y :: r, hnd, hc, h, ht, hk, hkt, hn, hnp => by
    obtain ⟨c1, c2, c3⟩ := hc
    have hxn : x ∉ y :: r := (List.nodup_cons.1 hnd).1
    have hnd2 := (List.nodup_cons.1 hnd).2
    rcases List.mem_cons.1 h with rfl | h
    · have hpx : p = x := by
        rcases c1 with ⟨c1, _⟩ | ⟨c1, _⟩
        · rw [ht] at c1
          have := Mk.e3.inj c1
          omega
        · rw [ht] at c1; cases c1
      subst hpx
      have htr : t ∉ r := (List.nodup_cons.1 hnd2).1
      refine ⟨Or.inr ⟨hkt, hnp⟩, c2, chain_congr (fun z hz => hn z (fun e => hxn (e ▸ hz))) (fun z hz => ⟨hk z (fun e => htr (by simpa [e] using hz)), rfl⟩) c3⟩
    · have hyt : y ≠ t := fun e => (List.nodup_cons.1 hnd2).1 (e ▸ h)
      obtain ⟨q, q1, q2, _⟩ := chain_pred c3 h
      have hqp : q = p := by
        rcases q2 with ⟨q2, _⟩ | ⟨q2, _⟩
        · rw [ht] at q2
          have := Mk.e3.inj q2
          omega
        · rw [ht] at q2; cases q2
      have hxp : x ≠ p := fun e => hxn (by rw [e, ← hqp]; exact q1)
      refine ⟨?_, c2, chain_link hnd2 c3 h ht hk hkt hn hnp⟩
      rw [hk y hyt, hn x hxp]
      exact c1
section
variable {n : Nat} {ks ks' : Nat → Mk} {tail tail' : Int} {nx nx' bl bl' : Nat → Int} {Q : List Nat} {t : Nat}
theorem MxIs.head_of (H : MxIs n ks tail nx bl Q) (ht : t < n) (h : (ks t).turn = true) : ∃ r, Q = t :: r := by
  have hm : t ∈ Q := (H.inq t ht).2 (by cases hk : ks t <;> rw [hk] at h <;> first | rfl | (cases h))
  have ch := H.ch
  cases Q with
  | nil => simp at hm
  | cons x r =>
    rcases List.mem_cons.1 hm with rfl | hm
    · exact ⟨r, rfl⟩
    · obtain ⟨p, _, h2, _⟩ := chain_pred ch hm
      rcases h2 with ⟨h2, _⟩ | ⟨h2, _⟩ <;> rw [h2] at h <;> cases h
theorem MxIs.one (H : MxIs n ks tail nx bl Q) {i j : Nat} (hi : i < n) (hj : j < n) (h1 : (ks i).turn = true) (h2 : (ks j).turn = true) : i = j := by
  obtain ⟨r, e1⟩ := H.head_of hi h1
  obtain ⟨r', e2⟩ := H.head_of hj h2
  rw [e1] at e2
  exact (List.cons.inj e2).1
theorem MxIs.none_of (H : MxIs n ks tail nx bl Q) (h : tail = 0) : ∀ i, i < n → (ks i).turn = false := fun i hi => by
  cases hk : (ks i).turn with
  | false => rfl
  | true =>
    obtain ⟨r, e⟩ := H.head_of hi hk
    have : Q = [] := tlw_zero (by rw [← H.tl]; exact h)
    rw [this] at e
    cases e
/-- Who waits and is free is first, and nobody is in. -/
theorem MxIs.first_of (H : MxIs n ks tail nx bl Q) (ht : t < n) (h : ks t = .e4) (hb : bl t ≠ 1) : (∃ r, Q = t :: r) ∧ ∀ i, i < n → (ks i).turn = false := by
  have hm : t ∈ Q := (H.inq t ht).2 (by rw [h]; rfl)
  have ch := H.ch
  have hq : ∃ r, Q = t :: r := by
    cases Q with
    | nil => simp at hm
    | cons x r =>
      rcases List.mem_cons.1 hm with rfl | hm
      · exact ⟨r, rfl⟩
      · obtain ⟨p, _, _, h3⟩ := chain_pred ch hm
        exact absurd h3 hb
  refine ⟨hq, fun i hi => ?_⟩
  cases hk : (ks i).turn with
  | false => rfl
  | true =>
    obtain ⟨r, e⟩ := hq
    obtain ⟨r', e2⟩ := H.head_of hi hk
    rw [e] at e2
    have := (List.cons.inj e2).1
    subst this
    rw [h] at hk
    cases hk
theorem head_congr (hx : ∀ z, z ∈ Q → nx' z = nx z ∧ ks' z = ks z ∧ bl' z = bl z) (h : Head ks nx bl Q) : Head ks' nx' bl' Q := by
  cases Q with
  | nil => trivial
  | cons x r =>
    obtain ⟨k1, k2, k3⟩ := hx x (by simp)
    rw [head_cons] at h ⊢
    rw [k1, k2, k3]
    exact h
/-- Of one who is not in it. -/
theorem MxIs.outs (H : MxIs n ks tail nx bl Q) (ht : t < n) (h0 : (ks t).inq = false) (hk : ∀ j, j ≠ t → ks' j = ks j) (h1 : (ks' t).inq = false) (hn : ∀ j, j ≠ t → nx' j = nx j) (hb : ∀ j, j ≠ t → bl' j = bl j) (e : tail' = tail)
    (hp : ((ks' t = .nx ∨ ks' t = .nb) → nx' t = 0) ∧ (ks' t = .nb → bl' t = 1)) : MxIs n ks' tail' nx' bl' Q := by
  have hq : t ∉ Q := fun h => by rw [(H.inq t ht).1 h] at h0; cases h0
  have hz : ∀ z, z ∈ Q → z ≠ t := fun z hz e => hq (e ▸ hz)
  refine ⟨H.nd, H.lt, fun i hi => ?_, e.trans H.tl, chain_congr (fun z h => hn z (hz z h)) (fun z h => ⟨hk z (hz z (List.mem_of_mem_tail h)), hb z (hz z (List.mem_of_mem_tail h))⟩) H.ch, head_congr (fun z h => ⟨hn z (hz z h), hk z (hz z h), hb z (hz z h)⟩) H.hd, fun i hi => ?_⟩
  · by_cases e : i = t
    · subst e; rw [h1]; simp [hq]
    · rw [hk i e]; exact H.inq i hi
  · by_cases e : i = t
    · subst e; exact hp
    · rw [hk i e, hn i e, hb i e]; exact H.pre i hi
/-- The first comes. -/
theorem MxIs.comes (H : MxIs n ks tail nx bl Q) (ht : t < n) (h0 : (ks t).inq = false) (hz : tail = 0) (hnx : nx t = 0) (hk : ∀ j, j ≠ t → ks' j = ks j) (h1 : ks' t = .hd) (hn : ∀ j, nx' j = nx j) (hb : ∀ j, bl' j = bl j) (e : tail' = t + 1) : MxIs n ks' tail' nx' bl' [t] := by
  have hq : Q = [] := tlw_zero (by rw [← H.tl]; exact hz)
  refine ⟨by simp, by simpa using ht, fun i hi => ?_, e, by show nx' t = 0; rw [hn]; exact hnx, Or.inl h1, fun i hi => ?_⟩
  · by_cases e : i = t
    · subst e; rw [h1]; simp [Mk.inq]
    · have := H.inq i hi
      rw [hq] at this
      rw [hk i e]
      simp only [List.mem_singleton, e, false_iff]
      intro h
      simpa using this.2 h
  · by_cases e : i = t
    · subst e; rw [h1]; exact ⟨(fun h => by rcases h with h | h <;> cases h), (fun h => by cases h)⟩
    · rw [hk i e, hn, hb]; exact H.pre i hi
/-- One comes behind others. -/
theorem MxIs.behind (H : MxIs n ks tail nx bl Q) (ht : t < n) (h0 : ks t = .nb) (hz : tail ≠ 0) (hk : ∀ j, j ≠ t → ks' j = ks j) (h1 : ks' t = .e3 tail) (hn : ∀ j, nx' j = nx j) (hb : ∀ j, bl' j = bl j) (e : tail' = t + 1) : MxIs n ks' tail' nx' bl' (Q ++ [t]) := by
  have hq : t ∉ Q := fun h => by have := (H.inq t ht).1 h; rw [h0] at this; cases this
  have hne : Q ≠ [] := fun h => hz (by rw [H.tl, h]; rfl)
  have hpre := H.pre t ht
  refine ⟨?_, fun x hx => ?_, fun i hi => ?_, by rw [e, tlw_append], chain_append hne hq (fun z hz => ⟨hn z, hk z hz, hb z⟩) (by rw [h1, H.tl]) (by rw [hb]; exact hpre.2 h0) (by rw [hn]; exact hpre.1 (Or.inr h0)) H.ch, ?_, fun i hi => ?_⟩
  · rw [List.nodup_append]
    refine ⟨H.nd, by simp, fun a ha b hb => ?_⟩
    simp only [List.mem_singleton] at hb
    subst hb
    exact fun e => hq (e ▸ ha)
  · rcases List.mem_append.1 hx with hx | hx
    · exact H.lt x hx
    · simp only [List.mem_singleton] at hx; omega
  · by_cases e : i = t
    · subst e; rw [h1]; simp [Mk.inq]
    · rw [hk i e]; simp only [List.mem_append, List.mem_singleton, e, or_false]; exact H.inq i hi
  · have hh := H.hd
    cases Q with
    | nil => exact absurd rfl hne
    | cons x r =>
      have hx : x ≠ t := fun e => hq (by simp [e])
      rw [head_cons] at hh
      show Head ks' nx' bl' (x :: (r ++ [t]))
      rw [head_cons]
      rw [hk x hx, hn, hb]
      rcases hh with h | h | ⟨h, h2⟩ | h | h
      · exact Or.inl h
      · exact Or.inr (Or.inl h)
      · exact Or.inr (Or.inr (Or.inl ⟨h, by simp⟩))
      · exact Or.inr (Or.inr (Or.inr (Or.inl h)))
      · exact Or.inr (Or.inr (Or.inr (Or.inr h)))
  · by_cases e : i = t
    · subst e; rw [h1]; exact ⟨(fun h => by rcases h with h | h <;> cases h), (fun h => by cases h)⟩
    · rw [hk i e, hn, hb]; exact H.pre i hi
/-- Whom one stands behind. -/
theorem MxIs.pred (H : MxIs n ks tail nx bl Q) (ht : t < n) {a : Int} (h0 : ks t = .e3 a) : ∃ p x r, Q = x :: r ∧ t ∈ r ∧ p ∈ Q ∧ p < n ∧ a = (p : Int) + 1 := by
  have hm : t ∈ Q := (H.inq t ht).2 (by rw [h0]; rfl)
  have ch := H.ch
  have hh := H.hd
  cases Q with
  | nil => simp at hm
  | cons x r =>
    rcases List.mem_cons.1 hm with rfl | hm
    · rw [head_cons] at hh
      rw [h0] at hh
      rcases hh with h | h | ⟨h, _⟩ | ⟨_, h, _⟩ | ⟨h, _⟩ <;> cases h
    · obtain ⟨p, h1, h2, _⟩ := chain_pred ch hm
      refine ⟨p, x, r, rfl, hm, h1, H.lt p h1, ?_⟩
      rcases h2 with ⟨h2, _⟩ | ⟨h2, _⟩
      · rw [h0] at h2; exact Mk.e3.inj h2
      · rw [h0] at h2; cases h2
/-- One tells whom it stands behind. -/
theorem MxIs.link (H : MxIs n ks tail nx bl Q) (ht : t < n) {p : Nat} (h0 : ks t = .e3 (p + 1)) (hk : ∀ j, j ≠ t → ks' j = ks j) (h1 : ks' t = .e4) (hn : ∀ j, j ≠ p → nx' j = nx j) (hnp : nx' p = t + 1) (hb : ∀ j, bl' j = bl j) (e : tail' = tail) : MxIs n ks' tail' nx' bl' Q := by
  obtain ⟨q, x, r, e1, e2, e3, e4, e5⟩ := H.pred ht h0
  have hqp : q = p := by omega
  subst hqp
  have hnd := H.nd
  have ch := H.ch
  have hh := H.hd
  rw [e1] at hnd ch hh
  have hxt : x ≠ t := fun e => (List.nodup_cons.1 hnd).1 (e ▸ e2)
  have hbl : bl' = bl := funext hb
  subst hbl
  refine ⟨H.nd, H.lt, fun i hi => ?_, e.trans H.tl, by rw [e1]; exact chain_link hnd ch e2 h0 hk h1 hn hnp, ?_, fun i hi => ?_⟩
  · by_cases e : i = t
    · subst e; rw [h1]; have := H.inq i hi; rw [h0] at this; exact this
    · rw [hk i e]; exact H.inq i hi
  · rw [e1]
    rw [head_cons] at hh ⊢
    rw [hk x hxt]
    rcases hh with h | h | h | ⟨a, h, h2, h3⟩ | h
    · exact Or.inl h
    · exact Or.inr (Or.inl h)
    · exact Or.inr (Or.inr (Or.inl h))
    · refine Or.inr (Or.inr (Or.inr (Or.inl ⟨a, h, ?_, h3⟩)))
      by_cases e : x = q
      · -- its link was nothing yet
        exfalso
        subst e
        obtain ⟨p, g1, g2, g3⟩ := chain_pred ch e2
        rcases g2 with ⟨g2, g4⟩ | ⟨g2, _⟩
        · rw [h0] at g2
          have : p = x := by have := Mk.e3.inj g2; omega
          subst this
          omega
        · rw [h0] at g2; cases g2
      · rw [hn x e]; exact h2
    · exact Or.inr (Or.inr (Or.inr (Or.inr h)))
  · by_cases e : i = t
    · subst e; rw [h1]; exact ⟨(fun h => by rcases h with h | h <;> cases h), (fun h => by cases h)⟩
    · rw [hk i e]
      by_cases e2 : i = q
      · subst e2
        have hq := (H.inq i hi).1 e3
        refine ⟨fun h => ?_, fun h => ?_⟩
        · rcases h with h | h <;> rw [h] at hq <;> cases hq
        · rw [h] at hq; cases hq
      · rw [hn i e2]; exact H.pre i hi
/-- Only the first's own place turns. -/
theorem MxIs.heads (H : MxIs n ks tail nx bl Q) (ht : t < n) {r : List Nat} (hq : Q = t :: r) (hk : ∀ j, j ≠ t → ks' j = ks j) (h1 : Head ks' nx' bl' (t :: r)) (hn : ∀ j, nx' j = nx j) (hb : ∀ j, bl' j = bl j) (e : tail' = tail) (hi1 : (ks' t).inq = true) : MxIs n ks' tail' nx' bl' Q := by
  have hnd := H.nd
  rw [hq] at hnd
  have htr := (List.nodup_cons.1 hnd).1
  refine ⟨H.nd, H.lt, fun i hi => ?_, e.trans H.tl, chain_congr (fun z _ => hn z) (fun z hz => ⟨hk z (fun e => htr (by rw [hq] at hz; simpa [e] using hz)), hb z⟩) H.ch, by rw [hq]; exact h1, fun i hi => ?_⟩
  · by_cases e : i = t
    · subst e; rw [hi1, hq]; simp
    · rw [hk i e]; exact H.inq i hi
  · by_cases e : i = t
    · subst e
      refine ⟨fun h => ?_, fun h => ?_⟩
      · rcases h with h | h <;> rw [h] at hi1 <;> cases hi1
      · rw [h] at hi1; cases hi1
    · rw [hk i e, hn, hb]; exact H.pre i hi
/-- The last one goes. -/
theorem MxIs.leaves (H : MxIs n ks tail nx bl Q) (ht : t < n) (h0 : (ks t).turn = true) (hz : tail = t + 1) (hk : ∀ j, j ≠ t → ks' j = ks j) (h1 : ks' t = .out) (hn : ∀ j, nx' j = nx j) (hb : ∀ j, bl' j = bl j) (e : tail' = 0) : MxIs n ks' tail' nx' bl' [] := by
  obtain ⟨r, hq⟩ := H.head_of ht h0
  have hr : r = [] := by
    cases r with
    | nil => rfl
    | cons y r =>
      exfalso
      obtain ⟨z, z1, z2⟩ := tlw_mem (Q := y :: r) (by simp)
      have h2 := H.tl
      rw [hq, hz] at h2
      have h3 : (t : Int) + 1 = tlw (y :: r) := h2
      have : z = t := by omega
      subst this
      have hnd := H.nd
      rw [hq] at hnd
      exact (List.nodup_cons.1 hnd).1 z1
  subst hr
  refine ⟨List.nodup_nil, by simp, fun i hi => ?_, e, trivial, trivial, fun i hi => ?_⟩
  · have := H.inq i hi
    rw [hq] at this
    by_cases e : i = t
    · subst e; rw [h1]; simp [Mk.inq]
    · rw [hk i e]
      simp only [List.mem_singleton, e, false_iff] at this
      simp only [List.not_mem_nil, false_iff]
      exact this
  · by_cases e : i = t
    · subst e; rw [h1]; exact ⟨(fun h => by rcases h with h | h <;> cases h), (fun h => by cases h)⟩
    · rw [hk i e, hn, hb]; exact H.pre i hi
theorem MxIs.more (H : MxIs n ks tail nx bl Q) (ht : t < n) {r : List Nat} (hq : Q = t :: r) (hz : tail ≠ t + 1) : r ≠ [] := by
  rintro rfl
  exact hz (by rw [H.tl, hq]; rfl)
/-- Who stands behind the first. -/
theorem MxIs.succ (H : MxIs n ks tail nx bl Q) {r : List Nat} (hq : Q = t :: r) {a : Int} (ha : nx t = a) (hne : a ≠ 0) : ∃ y r', r = y :: r' ∧ y < n ∧ a = (y : Int) + 1 ∧ ks y = .e4 ∧ y ≠ t := by
  have ch := H.ch
  rw [hq] at ch
  cases r with
  | nil =>
    have ch : nx t = 0 := ch
    omega
  | cons y r' =>
    obtain ⟨c1, c2, c3⟩ := ch
    have hnd := H.nd
    rw [hq] at hnd
    refine ⟨y, r', rfl, H.lt y (by rw [hq]; simp), ?_, ?_, fun e => (List.nodup_cons.1 hnd).1 (by simp [e])⟩
    · rcases c1 with ⟨_, c1⟩ | ⟨_, c1⟩ <;> omega
    · rcases c1 with ⟨_, c1⟩ | ⟨c1, _⟩
      · omega
      · exact c1
/-- The turn is given on. -/
theorem MxIs.gives (H : MxIs n ks tail nx bl Q) (ht : t < n) {a : Int} (h0 : ks t = .g3 a) (hk : ∀ j, j ≠ t → ks' j = ks j) (h1 : ks' t = .out) (hn : ∀ j, nx' j = nx j) (hb : ∀ j : Nat, (j : Int) + 1 ≠ a → bl' j = bl j) (hb0 : ∀ j : Nat, (j : Int) + 1 = a → bl' j = 0) (e : tail' = tail) : ∃ r, Q = t :: r ∧ MxIs n ks' tail' nx' bl' r := by
  obtain ⟨r, hq⟩ := H.head_of ht (by rw [h0]; rfl)
  have hh := H.hd
  rw [hq] at hh
  rw [head_cons] at hh
  rw [h0] at hh
  have hna : nx t = a ∧ a ≠ 0 := by
    rcases hh with h | h | ⟨h, _⟩ | ⟨a', h, h2, h3⟩ | ⟨h, _⟩
    · cases h
    · cases h
    · cases h
    · obtain rfl := Mk.g3.inj h
      exact ⟨h2, h3⟩
    · cases h
  obtain ⟨y, r', hr, hy, hay, hyk, hyt⟩ := H.succ hq hna.1 hna.2
  subst hr
  have hnd := H.nd
  rw [hq] at hnd
  obtain ⟨nd1, nd2⟩ := List.nodup_cons.1 hnd
  have hyr : y ∉ r' := (List.nodup_cons.1 nd2).1
  have ch := H.ch
  rw [hq] at ch
  obtain ⟨_, _, c3⟩ := ch
  refine ⟨y :: r', hq, nd2, fun x hx => H.lt x (by rw [hq]; exact List.mem_cons_of_mem _ hx), fun i hi => ?_, by rw [e, H.tl, hq]; rfl,
    chain_congr (fun z _ => hn z) (fun z hz => ?_) c3, Or.inr (Or.inr (Or.inr (Or.inr ⟨by rw [hk y hyt]; exact hyk, hb0 y hay.symm⟩))), fun i hi => ?_⟩
  · by_cases e : i = t
    · subst e; rw [h1]; simp only [Mk.inq, Bool.false_eq_true, iff_false]; exact nd1
    · rw [hk i e]
      have := H.inq i hi
      rw [hq] at this
      simp only [List.mem_cons, e, false_or] at this ⊢
      exact this
  · simp only [List.tail_cons] at hz
    have hzt : z ≠ t := fun e => nd1 (by simp [← e, hz])
    have hzy : (z : Int) + 1 ≠ a := fun e => hyr (by have : z = y := by omega
                                                     rw [← this]; exact hz)
    exact ⟨hk z hzt, hb z hzy⟩
  · by_cases e : i = t
    · subst e; rw [h1]; exact ⟨(fun h => by rcases h with h | h <;> cases h), (fun h => by cases h)⟩
    · rw [hk i e, hn]
      by_cases e2 : (i : Int) + 1 = a
      · have : i = y := by omega
        subst this
        rw [hyk]
        exact ⟨(fun h => by rcases h with h | h <;> cases h), (fun h => by cases h)⟩
      · rw [hb i e2]; exact H.pre i hi
/-- Where all that are in it wait, the first is in. -/
theorem MxIs.free (H : MxIs n ks tail nx bl Q) (h : ∀ i, i < n → (ks i).inq = false ∨ ks i = .hd ∨ (ks i = .e4 ∧ bl i ≠ 0) ∨ (ks i = .g2 ∧ nx i = 0)) : Q = [] ∨ ∃ t r, Q = t :: r ∧ t < n ∧ ks t = .hd := by
  cases Q with
  | nil => exact Or.inl rfl
  | cons x r =>
    right
    have hx := H.lt x (by simp)
    have hin := (H.inq x hx).1 (by simp)
    have hh := H.hd
    rw [head_cons] at hh
    refine ⟨x, r, rfl, hx, ?_⟩
    rcases h x hx with g | g | ⟨g, g2⟩ | ⟨g, g2⟩
    · rw [hin] at g; cases g
    · exact g
    · exfalso
      rw [g] at hh
      rcases hh with h | h | ⟨h, _⟩ | ⟨_, h, _⟩ | ⟨_, h⟩
      · cases h
      · cases h
      · cases h
      · cases h
      · exact g2 h
    · exfalso
      rw [g] at hh
      have hr : r ≠ [] := by
        rcases hh with h | h | ⟨_, h⟩ | ⟨_, h, _⟩ | ⟨h, _⟩
        · cases h
        · cases h
        · exact h
        · cases h
        · cases h
      have ch := H.ch
      cases r with
      | nil => exact hr rfl
      | cons y r' =>
        obtain ⟨c1, c2, c3⟩ := ch
        rcases c1 with ⟨c1, _⟩ | ⟨_, c1⟩
        · have hy := H.lt y (by simp)
          rcases h y hy with k | k | ⟨k, _⟩ | ⟨k, _⟩ <;> rw [c1] at k <;> cases k
        · omega
end
end Go.Proofs.Ytlndihdlodempaa.Z
