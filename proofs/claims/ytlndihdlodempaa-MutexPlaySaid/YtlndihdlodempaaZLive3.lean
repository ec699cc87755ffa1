/- Locks as tasks that wait for cells, and wake each other: a step of a task that is with an operation. No lock in sight. -/
import Derived.Test.YtlndihdlodempaaZLive2
set_option linter.unusedVariables false
set_option linter.unusedSimpArgs false
namespace Go.Proofs.Ytlndihdlodempaa.Z
open Go.RowKit

theorem set_self {α : Type} {l : List α} {i : Nat} {d v : α} (h : i < l.length) (e : l.getD i d = v) : l.set i v = l := by
  subst e
  simp [List.getD, h]

section
variable {P : Type} {K : LockM P} {I : Nat → List P → (Nat → Int) → Prop} {n b : Nat} {M : Mt} {ps : List P} {N V C : Nat} {nw nv : P → Nat} {cp : (Nat → Int) → Nat → P → Nat} {i : Nat} {f : Fr} {h : Int} {p : P}

def Goes (K : LockM P) (I : Nat → List P → (Nat → Int) → Prop) (n b : Nat) (nw nv : P → Nat) (cp : (Nat → Int) → Nat → P → Nat) (M : Mt) (ps : List P) (i : Nat) (f : Fr) (h : Int) : Prop :=
  ∃ ps', MI K I n b (M.goes K.g i f h) ps' ∧ Went K n nw nv cp M ps i (M.goes K.g i f h) ps'

theorem left_off {f : Fr} (h : f.wk.on = false) : leftF n f = 0 := by unfold leftF; rw [h]; rfl
theorem left_zero {f : Fr} (h : f.wk = Wk.zero) : leftF n f = 0 := left_off (by rw [h]; rfl)
theorem wkOf_off {mode : Int} : (wkOf mode none).on = false := rfl
theorem stuck_not {L : List Int} {n mode task st : Int} (h : stageA mode st ≠ 3) : stuckA L n mode task st = false := by
  unfold stuckA
  have : (stageA mode st == 3) = false := by simpa using h
  rw [this]
  rfl

theorem MI.weaken (Kp : K.Keeps n I) (H : MI K I n (b + 1) M ps) : MI K I n b M ps := ⟨H.num, H.fsl, H.hol, H.psl, H.len, H.abs, Kp.weak _ _ _ H.inv, H.watch, H.woken⟩

/-- From a place that does not wait. -/
theorem goes_act (G : K.Good n M.mode) (Kp : K.Keeps n I) (Lv : K.Live n I N V C nw nv cp) (h1 : 1 ≤ n) (hm : M.mode = 1 ∨ M.mode = 2) (H : MI K I n (b + 1) M ps) (hi : i < n)
    (hf : M.fs.getD i Fr.zero = (K.conc p).1) (hh : M.hold.getD i 0 = (K.conc p).2) (hp : ps.getD i (K.idle 0) = p) (hop : (K.conc p).1.op ≠ 0) (hw : K.wait i p = none) : Goes K I n b nw nv cp M ps i (K.conc p).1 (K.conc p).2 := by
  obtain ⟨q1, q2, q3⟩ := G.plain p
  have hfl := H.fsl
  have hhl := H.hol
  have hpl := H.psl
  have hok := Kp.ok _ ps _ i H.inv hi hpl
  have hacts := Kp.acts _ ps _ i H.inv hi hpl
  have hwks := fun j c pr => Kp.wakes _ ps _ i j c pr H.inv hi
  have hlw := Lv.write (mainOf n M.L) i p
  have hlq := Lv.quiet _ ps (mainOf n M.L) i p H.inv hpl hi hp
  rw [hp] at hok hacts hwks
  have A := G.act p i (M.run i (K.conc p).1) hok hi hw hop H.num rfl rfl rfl H.len
  have hacts := hacts hw hop
  rw [show (M.run i (K.conc p).1).L = M.L from rfl] at A
  have hstep : M.goes K.g i (K.conc p).1 (K.conc p).2 = _ := goes_step (by rw [q2]; rfl) (stuck_not (by rw [q1, stage_zero]; decide))
  have hh2 : (K.conc p).2 ≠ 2 := fun e => hop (by rw [G.two p e, G.idle_conc]; rfl)
  obtain ⟨f', h', e1, e2, e3, e4⟩ := after_abs (t := i) hm G h1 A.f A.st (show _ = wkOf M.mode _ from A.wk) A.op hh2
  rw [put_if e1] at hstep
  unfold Goes
  rw [hstep, A.L]
  have hmw := main_written H.len A.lt
  have hL : (M.run i (K.conc p).1).L = M.L := rfl
  rw [hL]
  generalize hR : K.act i p (mainOf n M.L) = R at *
  obtain ⟨p', w, k⟩ := R
  simp only at *
  refine ⟨ps.set i p', MI.put H G hi (by rw [writtenL_len]; exact H.len) e2 (by rw [hmw]; exact hacts) (fun c pr _ hs => by omega) (fun j hj _ => writtenL_far A.lt (by omega)) (fun c pr _ hs => by omega) (fun j c pr hj hji hwt hs hpr => ?_), ?_⟩
  · rw [hmw] at hpr
    rcases hwks j c pr hj (fun h => hji h.symm) hpl hw hop hwt (by exact hpr) with hold | hwake
    · rcases H.woken j c pr hj hwt hs hold with h3 | ⟨u, h3, h4, h5⟩
      · exact Or.inl (by rw [writtenL_far A.lt (by omega)]; exact h3)
      · refine Or.inr (Or.inr ⟨u, h3, ?_, h4, h5⟩)
        rintro rfl
        rw [hf, q2] at h4
        cases h4
    · refine Or.inr (Or.inl ?_)
      have hm2 := (H.abs j hj).st_mode G (Or.inr hs)
      rw [e4, hwake]
      show (beginA M.mode c).on = true ∧ (beginA M.mode c).cell = c ∧ (beginA M.mode c).i ≤ j
      unfold beginA
      rw [if_pos hm2]
      exact ⟨rfl, rfl, by simp⟩
  · obtain ⟨o1, o2, o3, o4⟩ := put_went (K := K) (f' := f') (h' := h') (p' := p') (L' := writtenL M.L w) (M := M) (ps := ps) (i := i) (by omega) (by omega) (by omega)
    refine ⟨⟨rfl, rfl⟩, o1, ?_⟩
    rw [o2, o4, hf, hp]
    have hl0 : leftF n (K.conc p).1 = 0 := left_zero q2
    cases w with
    | some x =>
      right; left
      obtain ⟨g1, g2⟩ := hlw x hw hop rfl
      refine ⟨hl0, g1, ?_⟩
      cases k with
      | none => rw [left_zero (f := f') (by rw [e4]; rfl)]; simpa using g2
      | some c =>
        simp only [Option.isSome_some, if_true] at g2
        split <;> omega
    | none =>
      right; right
      obtain ⟨g1, g2, g3, g4⟩ := hlq hw hop rfl
      subst g1
      refine ⟨hl0, left_zero (f := f') (by rw [e4]; rfl), rfl, g2, g3, fun j hj hji => rfl, Or.inl ?_⟩
      have := potF_plain Lv (m := mainOf n M.L) (mode := M.mode) (t := i) (f := f') (p := p') (q := (M.put i f' h' (writtenL M.L none)).L.getD (8 + 3 * n + i) 0) e3
      have hpp : potF K cp (mainOf n M.L) M.mode i (K.conc p).1 p (M.L.getD (8 + 3 * n + i) 0) = cp (mainOf n M.L) i p := by
        unfold potF
        rw [if_neg (by omega), hw]
      rw [hpp]
      omega

/-- What the first look tells. -/
theorem look0 {L : List Int} {mode task : Int} {c : Nat} {pr : Int → Bool} (hl : L.length = 8 + 4 * n) (hc : c < 8 + 2 * n) :
    waitA L n mode task 0 c pr = ⟨if pr (mainOf n L c) then 0 else if mode = 2 then 1 else 0, ⟨1, c, 0, 0, mainOf n L c⟩, pr (mainOf n L c), pr (mainOf n L c), L⟩ := by
  have e : doA L ⟨1, (c : Int), 0, 0, 0⟩ = (⟨1, c, 0, 0, mainOf n L c⟩, true, L) := by
    rw [doA_at (by omega)]
    simp [mainOf, hc]
  unfold waitA
  dsimp only
  rw [stage_zero, e]
  simp
theorem look2 {L : List Int} {task : Int} {c : Nat} {pr : Int → Bool} (hl : L.length = 8 + 4 * n) (hc : c < 8 + 2 * n) :
    waitA L n 2 task 2 c pr = ⟨if pr (mainOf n L c) then 4 else 3, ⟨1, c, 0, 0, mainOf n L c⟩, pr (mainOf n L c), false, L⟩ := by
  have e : doA L ⟨1, (c : Int), 0, 0, 0⟩ = (⟨1, c, 0, 0, mainOf n L c⟩, true, L) := by
    rw [doA_at (by omega)]
    simp [mainOf, hc]
  unfold waitA
  dsimp only
  rw [stage_at rfl (by omega) (by omega), e]
  simp
theorem look1 {L : List Int} {c : Nat} {pr : Int → Bool} (h1 : 1 ≤ n) (h2 : n ≤ 64) (hi : i < n) (hl : L.length = 8 + 4 * n) :
    ∃ a, waitA L n 2 i 1 c pr = ⟨2, a, false, false, L.set (8 + 2 * n + i) (((c : Int) + 1) % 4294967296)⟩ := by
  have e2 : (cellP n 2 i).toNat = 8 + 2 * n + i := by rw [cell_row (by omega) (by omega) (by omega) (by omega)]; omega
  have b2 : 0 ≤ cellP n 2 i ∧ cellP n 2 i < L.length := by rw [cell_row (by omega) (by omega) (by omega) (by omega)]; omega
  unfold waitA
  dsimp only
  rw [stage_at rfl (by omega) (by omega), if_pos rfl, doA_at b2, e2]
  exact ⟨_, rfl⟩
theorem look4 {L : List Int} {c : Nat} {pr : Int → Bool} (h1 : 1 ≤ n) (h2 : n ≤ 64) (hi : i < n) (hl : L.length = 8 + 4 * n) :
    (waitA L n 2 i 4 c pr).words = L.set (8 + 2 * n + i) 0 := by
  have e2 : (cellP n 2 i).toNat = 8 + 2 * n + i := by rw [cell_row (by omega) (by omega) (by omega) (by omega)]; omega
  have b2 : 0 ≤ cellP n 2 i ∧ cellP n 2 i < L.length := by rw [cell_row (by omega) (by omega) (by omega) (by omega)]; omega
  unfold waitA
  dsimp only
  rw [stage_at rfl (by omega) (by omega), if_neg (by decide), if_neg (by decide), if_neg (by decide), if_pos rfl, doA_at b2, e2]
  simp
theorem there_is_ {L : List Int} (h1 : 1 ≤ n) (h2 : n ≤ 64) (hi : i < n) (hl : L.length = 8 + 4 * n) : thereA L n i = (L.getD (8 + 3 * n + i) 0 != 0) := by
  have e2 : (cellP n 3 i).toNat = 8 + 3 * n + i := by rw [cell_row (by omega) (by omega) (by omega) (by omega)]; omega
  have b2 : 0 ≤ cellP n 3 i ∧ cellP n 3 i < L.length := by rw [cell_row (by omega) (by omega) (by omega) (by omega)]; omega
  unfold thereA ldA
  rw [if_pos b2, e2]
theorem look3 {L : List Int} {c : Nat} {pr : Int → Bool} (h1 : 1 ≤ n) (h2 : n ≤ 64) (hi : i < n) (hl : L.length = 8 + 4 * n) (hq : L.getD (8 + 3 * n + i) 0 ≠ 0) :
    ∃ a, waitA L n 2 i 3 c pr = ⟨2, a, false, false, L.set (8 + 3 * n + i) 0⟩ := by
  have e2 : (cellP n 3 i).toNat = 8 + 3 * n + i := by rw [cell_row (by omega) (by omega) (by omega) (by omega)]; omega
  have b2 : 0 ≤ cellP n 3 i ∧ cellP n 3 i < L.length := by rw [cell_row (by omega) (by omega) (by omega) (by omega)]; omega
  have ht : takeA L n i = (⟨4, cellP n 3 i, 0, 0, L.getD (8 + 3 * n + i) 0⟩, true, L.set (8 + 3 * n + i) 0) := by
    unfold takeA
    rw [there_is_ h1 h2 hi hl, if_pos (by simpa using hq), doA_at b2, e2]
    simp
  unfold waitA
  dsimp only
  rw [stage_at rfl (by omega) (by omega), if_neg (by decide), if_neg (by decide), if_pos rfl, ht]
  exact ⟨_, rfl⟩

/-- From a place that waits, at first. -/
theorem goes_look (G : K.Good n M.mode) (Kp : K.Keeps n I) (Lv : K.Live n I N V C nw nv cp) (h1 : 1 ≤ n) (hm : M.mode = 1 ∨ M.mode = 2) (H : MI K I n (b + 1) M ps) (hi : i < n)
    (hf : M.fs.getD i Fr.zero = (K.conc p).1) (hh : M.hold.getD i 0 = (K.conc p).2) (hp : ps.getD i (K.idle 0) = p) {c : Nat} {pr : Int → Bool} (hw : K.wait i p = some (c, pr)) : Goes K I n b nw nv cp M ps i (K.conc p).1 (K.conc p).2 := by
  obtain ⟨q1, q2, q3⟩ := G.plain p
  have hop := G.wait_op i p c pr hw
  have hfl := H.fsl
  have hhl := H.hol
  have hpl := H.psl
  have hok := Kp.ok _ ps _ i H.inv hi hpl
  have hsees := Kp.sees _ ps _ i c pr H.inv hi hpl
  rw [hp] at hok hsees
  have hsees := hsees hw
  have hc := G.wait_lt i p c pr hok hi hw
  have hfst : (M.run i (K.conc p).1).f = { (K.conc p).1 with st := 0 } := by
    show (K.conc p).1 = _
    rw [← q1]
  obtain ⟨s1, s2, s3⟩ := G.wait_step p i c pr 0 (M.run i (K.conc p).1) hok hi hw (Int.le_refl _) (by omega) H.num rfl rfl hfst H.len
  rw [show (M.run i (K.conc p).1).L = M.L from rfl, look0 H.len hc] at s1 s2 s3
  simp only at s1 s2 s3
  have hstep : M.goes K.g i (K.conc p).1 (K.conc p).2 = _ := goes_step (by rw [q2]; rfl) (stuck_not (by rw [q1, stage_zero]; decide))
  have hh2 : (K.conc p).2 ≠ 2 := fun e => hop (by rw [G.two p e, G.idle_conc]; rfl)
  have hl0 : leftF n (K.conc p).1 = 0 := left_zero q2
  unfold Goes
  cases hpr : pr (mainOf n M.L c) with
  | true =>
    obtain ⟨s4, s5, s6, s7⟩ := s2 hpr
    obtain ⟨f', h', e1, e2, e3, e4⟩ := after_abs (t := i) (w := none) hm G h1 s4 s5 s6 s7 hh2
    rw [put_if e1] at hstep
    rw [hstep, s1]
    refine ⟨ps.set i (K.post p (mainOf n M.L c)), MI.put H G hi H.len e2 (hsees hpr) (fun c pr _ hs => by omega) (fun j hj _ => rfl) (fun c pr _ hs => by omega) (MI.others H (by rw [hf, q2]; rfl) rfl (fun _ _ _ => rfl) f'), ?_⟩
    obtain ⟨o1, o2, o3, o4⟩ := put_went (K := K) (f' := f') (h' := h') (p' := K.post p (mainOf n M.L c)) (L' := M.L) (M := M) (ps := ps) (i := i) (by omega) (by omega) (by omega)
    refine ⟨⟨rfl, rfl⟩, o1, Or.inr (Or.inr ?_)⟩
    rw [o2, o4, hf, hp]
    obtain ⟨g1, g2⟩ := Lv.post_w i p c pr (mainOf n M.L c) hw
    refine ⟨hl0, left_zero (f := f') e4, rfl, g1, g2, fun j hj hji => rfl, Or.inl ?_⟩
    have h5 := potF_plain Lv (m := mainOf n M.L) (mode := M.mode) (t := i) (f := f') (p := K.post p (mainOf n M.L c)) (q := M.L.getD (8 + 3 * n + i) 0) e3
    have h6 := Lv.wait_yes (mainOf n M.L) i p c pr hw hpr
    have hpp : potF K cp (mainOf n M.L) M.mode i (K.conc p).1 p (M.L.getD (8 + 3 * n + i) 0) = cp (mainOf n M.L) i p := by
      unfold potF
      rw [if_neg (by omega), hw]
      simp [hpr, q1]
    rw [hpp]
    exact Nat.le_trans (Nat.succ_le_succ h5) h6
  | false =>
    have s4 := s3 hpr
    rw [hpr] at s4
    simp only [Bool.false_eq_true, if_false] at s4
    have hnover : (K.g (M.run i (K.conc p).1)).over = false := by
      unfold Rn.over
      rw [s4]
      simp [q3]
    rw [hnover] at hstep
    simp only [Bool.false_eq_true, if_false] at hstep
    rw [hstep, s1, s4]
    rcases hm with hm | hm
    · rw [if_neg (by omega)]
      have e0 : ({ (K.conc p).1 with st := 0 } : Fr) = (K.conc p).1 := hfst.symm
      have e9 : M.put i { (K.conc p).1 with st := 0 } (K.conc p).2 M.L = M := by
        rw [e0, ← hf, ← hh]
        exact put_same (by omega) (by omega)
      rw [e9]
      refine ⟨ps, H.weaken Kp, ⟨rfl, rfl⟩, fun j _ => ⟨rfl, rfl, rfl⟩, Or.inr (Or.inr ?_)⟩
      rw [hf]
      refine ⟨hl0, hl0, rfl, Nat.le_refl _, Nat.le_refl _, fun _ _ _ => rfl, Or.inr (Or.inl ?_)⟩
      have hpp : potF K cp (mainOf n M.L) M.mode i (K.conc p).1 (ps.getD i (K.idle 0)) (M.L.getD (8 + 3 * n + i) 0) = 0 := by
        unfold potF
        rw [hp, if_neg (by omega), hw]
        simp [hpr, hm]
      exact ⟨hpp, hpp⟩
    · rw [if_pos hm]
      refine ⟨ps.set i p, MI.put H G hi H.len (AbsF.staged p c pr 1 hm hok hw (by simp)) (by rw [set_self (by omega) hp]; exact Kp.weak _ _ _ H.inv) (fun c pr _ hs => by simp at hs) (fun j hj _ => rfl) (fun c pr _ hs => by simp at hs) (MI.others H (by rw [hf, q2]; rfl) rfl (fun _ _ _ => rfl) _), ?_⟩
      obtain ⟨o1, o2, o3, o4⟩ := put_went (K := K) (f' := { (K.conc p).1 with st := 1 }) (h' := (K.conc p).2) (p' := p) (L' := M.L) (M := M) (ps := ps) (i := i) (by omega) (by omega) (by omega)
      refine ⟨⟨rfl, rfl⟩, o1, Or.inr (Or.inr ?_)⟩
      rw [o2, o4, hf, hp]
      refine ⟨hl0, left_zero q2, rfl, Nat.le_refl _, Nat.le_refl _, fun _ _ _ => rfl, Or.inl ?_⟩
      show potF K cp (mainOf n M.L) M.mode i { (K.conc p).1 with st := 1 } p (M.L.getD (8 + 3 * n + i) 0) + 1 ≤ _
      unfold potF
      rw [hw]
      simp [hpr, hm, q1]
      omega
end
end Go.Proofs.Ytlndihdlodempaa.Z
