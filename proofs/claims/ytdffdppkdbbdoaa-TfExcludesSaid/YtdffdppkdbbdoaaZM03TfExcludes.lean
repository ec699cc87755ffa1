/- 4 texts of this claim, joined: what each shows stands at its own head. -/
import Derived.Test.YtdffdppkdbbdoaaZM02TfExcludes
import Derived.Test.YtdffdppkdbbdoaaZTfFine
import Derived.Test.YtdffdppkdbbdoaaZM01TfExcludes
/- Locks as tasks that wait for cells, and wake each other: one writes, or many read; let go on, all come to rest. No lock in sight. -/
set_option linter.unusedVariables false
set_option linter.unusedSimpArgs false
namespace Go.Proofs.Ytdffdppkdbbdoaa.Z
open Go.RowKit

/-- What a lock brings, whole. -/
structure LockM.All {P : Type} (K : LockM P) (n : Nat) (mode : Int) (I : Nat → List P → (Nat → Int) → Prop) (N V C : Nat) (nw nv : P → Nat) (cp : (Nat → Int) → Nat → P → Nat) : Prop where
  good : K.Good n mode
  keeps : K.Keeps n I
  live : K.Live n I N V C nw nv cp
  holds : ∀ b ps m i h, I b ps m → i < n → ps.length = n → ps.getD i (K.idle 0) = K.idle h → h = 0 ∨ h = 1 ∨ h = 2
  excl : ∀ b ps m i j, I b ps m → ps.length = n → i < n → j < n → j ≠ i → ps.getD i (K.idle 0) = K.idle 2 → (K.conc (ps.getD j (K.idle 0))).2 = 0
  still : ∀ t h, K.wait t (K.idle h) = none

section
variable {P : Type} {K : LockM P} {I : Nat → List P → (Nat → Int) → Prop} {n b : Nat} {mode : Int} {M : Mt} {ps : List P} {N V C : Nat} {nw nv : P → Nat} {cp : (Nat → Int) → Nat → P → Nat} {i : Nat} {f : Fr} {h : Int} {p : P}

theorem left_le (n : Nat) (f : Fr) : leftF n f ≤ 2 * n := by
  unfold leftF
  split <;> omega

/-- All are idle, and hold nothing. -/
def Rest (n : Nat) (M : Mt) : Prop := ∀ j, j < n → M.fs.getD j Fr.zero = Fr.zero ∧ M.hold.getD j 0 = 0

theorem rest_of (A : K.All n mode I N V C nw nv cp) (hM : M.mode = mode) (H : MI K I n b M ps) (hoff : ∀ j, j < n → leftM n M j = 0) (hpot : ∀ j, j < n → potM K cp n M ps j = 0) : Rest n M := by
  have G := A.good
  rw [← hM] at G
  have hwoff : ∀ j, j < n → (M.fs.getD j Fr.zero).wk.on = true → (M.fs.getD j Fr.zero).wk.i < n → False := fun j hj hk hlt => by
    have := hoff j hj
    unfold leftM leftF at this
    rw [if_pos hk] at this
    split at this <;> omega
  have hw : ∀ j, j < n → ps.getD j (K.idle 0) = K.idle 0 ∨ ∃ c pr, K.wait j (ps.getD j (K.idle 0)) = some (c, pr) ∧ pr (mainOf n M.L c) = false := by
    intro j hj
    have hp := hpot j hj
    unfold potM potF at hp
    split at hp
    · omega
    split at hp
    · rename_i c pr hw
      cases hpr : pr (mainOf n M.L c) with
      | true =>
        rw [hpr] at hp
        have := A.live.wait_yes _ _ _ _ _ hw hpr
        simp only [if_true] at hp
        omega
      | false => exact Or.inr ⟨c, pr, hw, hpr⟩
    · rename_i hw
      exact Or.inl (A.live.zero _ _ _ hw hp)
  have hid := A.live.free _ ps _ H.inv H.psl hw
  intro j hj
  have ha := H.abs j hj
  have hpj := hid j hj
  have hp := hpot j hj
  obtain ⟨f, hf⟩ : ∃ f, M.fs.getD j Fr.zero = f := ⟨_, rfl⟩
  obtain ⟨h, hh⟩ : ∃ h, M.hold.getD j 0 = h := ⟨_, rfl⟩
  have hwo := hwoff j hj
  rw [hf] at hwo
  unfold potM at hp
  rw [hpj, hf] at hp
  rw [hf, hh, hpj] at ha
  rw [hf, hh]
  generalize hq : K.idle 0 = q0 at ha
  cases ha with
  | plain =>
    subst hq
    rw [G.idle_conc]
    exact ⟨rfl, rfl⟩
  | waking _ k _ hk _ hlt _ _ => exact absurd (hwo hk hlt) id
  | staged _ c pr st _ _ hw2 _ =>
    subst hq
    rw [A.still] at hw2
    cases hw2
  | seen q c pr v _ _ hw2 _ =>
    unfold potF at hp
    rw [if_pos rfl] at hp
    omega
  | over _ _ _ hk _ hlt _ _ => exact absurd (hwo hk hlt) id

theorem rest_play (H : Rest n M) (hi : i < n) {g : Rn → Rn} : M.play g i (2 * M.hold.getD i 0) = M := by
  obtain ⟨e1, e2⟩ := H i hi
  unfold Mt.play
  rw [e1, e2, if_pos (show Fr.zero.op = 0 from rfl), if_neg (by decide)]
theorem rest_back (H : Rest n M) {g : Rn → Rn} : ∀ t, t ≤ n → backA g M t = M
  | 0, _ => rfl
  | t + 1, ht => by
    unfold backA
    rw [rest_back H t (by omega)]
    exact rest_play H (by omega)

/-- A ROUND goes on, or all rest. -/
theorem round_went (A : K.All n mode I N V C nw nv cp) (h1 : 1 ≤ n) (h2 : n ≤ 64) (hm : mode = 1 ∨ mode = 2) (hM : M.mode = mode) (H : MI K I n (b + 2 * n) M ps) :
    ∃ ps', MI K I n b (backA K.g M n) ps' ∧ (backA K.g M n).mode = mode ∧ (phi K nw nv cp n C (backA K.g M n) ps' + 1 ≤ phi K nw nv cp n C M ps ∨ Rest n M) := by
  have key : ∀ t, t ≤ n → ∃ ps', MI K I n (b + 2 * (n - t)) (backA K.g M t) ps' ∧ (backA K.g M t).mode = mode ∧ (phi K nw nv cp n C (backA K.g M t) ps' + 1 ≤ phi K nw nv cp n C M ps ∨
      (aM K n C nw nv ps' ≤ aM K n C nw nv ps ∧ phi K nw nv cp n C (backA K.g M t) ps' ≤ phi K nw nv cp n C M ps ∧
        (0 < bM n M → (∀ j, j < t → leftM n (backA K.g M t) j + 1 ≤ bM n M) ∧ ∀ j, t ≤ j → j < n → leftM n (backA K.g M t) j = leftM n M j) ∧
        (bM n M = 0 → (∀ j, j < n → leftM n (backA K.g M t) j = 0) ∧ (∀ j, j < t → potM K cp n (backA K.g M t) ps' j + 1 ≤ potM K cp n M ps j ∨ (potM K cp n (backA K.g M t) ps' j = 0 ∧ potM K cp n M ps j = 0)) ∧
          ∀ j, t ≤ j → j < n → potM K cp n (backA K.g M t) ps' j = potM K cp n M ps j))) := by
    intro t
    induction t with
    | zero =>
      intro _
      refine ⟨ps, H, hM, Or.inr ⟨Nat.le_refl _, Nat.le_refl _, fun hb => ⟨fun j hj => by omega, fun j _ _ => rfl⟩, fun hb => ⟨fun j hj => ?_, fun j hj => by omega, fun j _ _ => rfl⟩⟩⟩
      have := le_mx (f := leftM n M) n hj
      unfold bM at hb
      show leftM n M j = 0
      omega
    | succ t ih =>
      intro ht
      obtain ⟨q, hq, hmode, hor⟩ := ih (by omega)
      rw [show b + 2 * (n - t) = b + 2 * (n - (t + 1)) + 2 by omega] at hq
      have htn : t < n := by omega
      show ∃ ps', MI K I n (b + 2 * (n - (t + 1))) ((backA K.g M t).play K.g t (2 * (backA K.g M t).hold.getD t 0)) ps' ∧ ((backA K.g M t).play K.g t (2 * (backA K.g M t).hold.getD t 0)).mode = mode ∧ (phi K nw nv cp n C ((backA K.g M t).play K.g t (2 * (backA K.g M t).hold.getD t 0)) ps' + 1 ≤ phi K nw nv cp n C M ps ∨
        (aM K n C nw nv ps' ≤ aM K n C nw nv ps ∧ phi K nw nv cp n C ((backA K.g M t).play K.g t (2 * (backA K.g M t).hold.getD t 0)) ps' ≤ phi K nw nv cp n C M ps ∧
          (0 < bM n M → (∀ j, j < t + 1 → leftM n ((backA K.g M t).play K.g t (2 * (backA K.g M t).hold.getD t 0)) j + 1 ≤ bM n M) ∧ ∀ j, t + 1 ≤ j → j < n → leftM n ((backA K.g M t).play K.g t (2 * (backA K.g M t).hold.getD t 0)) j = leftM n M j) ∧
          (bM n M = 0 → (∀ j, j < n → leftM n ((backA K.g M t).play K.g t (2 * (backA K.g M t).hold.getD t 0)) j = 0) ∧ (∀ j, j < t + 1 → potM K cp n ((backA K.g M t).play K.g t (2 * (backA K.g M t).hold.getD t 0)) ps' j + 1 ≤ potM K cp n M ps j ∨ (potM K cp n ((backA K.g M t).play K.g t (2 * (backA K.g M t).hold.getD t 0)) ps' j = 0 ∧ potM K cp n M ps j = 0)) ∧
            ∀ j, t + 1 ≤ j → j < n → potM K cp n ((backA K.g M t).play K.g t (2 * (backA K.g M t).hold.getD t 0)) ps' j = potM K cp n M ps j)))
      generalize backA K.g M t = Mt1 at hq hmode hor ⊢
      have G := A.good
      rw [← hmode] at G
      obtain ⟨q', h3, W⟩ := play_went (M := Mt1) G A.keeps A.live A.holds A.still h1 h2 (by rw [hmode]; exact hm) hq htn
      have hW := went_phi A.live htn (h3.abs t htn) (left_le n) W
      refine ⟨q', h3, W.num.2.trans hmode, ?_⟩
      generalize Mt1.play K.g t (2 * Mt1.hold.getD t 0) = Mt2 at h3 W hW ⊢
      have mono : phi K nw nv cp n C Mt2 q' ≤ phi K nw nv cp n C Mt1 q := by
        rcases hW with h4 | ⟨h4, h5, h6⟩
        · omega
        · have hb : bM n Mt2 ≤ bM n Mt1 := by
            refine mx_le n (fun j hj => ?_)
            have h9 := le_mx (f := leftM n Mt1) n hj
            unfold bM
            by_cases e : j = t
            · subst e
              rcases h6 with ⟨_, h7⟩ | ⟨_, h7, _⟩ <;> omega
            · rw [h5 j e]; exact h9
          have hd : dM K cp n C Mt2 q' ≤ dM K cp n C Mt1 q := by
            unfold dM
            have hC : ∀ (M3 : Mt) (q3 : List P), (if 0 < bM n M3 then C else mx n (potM K cp n M3 q3)) ≤ C := fun M3 q3 => by
              split
              · exact Nat.le_refl _
              · exact mx_le n (fun j _ => potF_le A.live)
            by_cases hb0 : 0 < bM n Mt1
            · rw [if_pos hb0]; exact hC Mt2 q'
            · rw [if_neg hb0, if_neg (by omega)]
              refine mx_le n (fun j hj => ?_)
              have h9 := le_mx (f := potM K cp n Mt1 q) n hj
              have hl := fun j (hj : j < n) => le_mx (f := leftM n Mt1) n hj
              unfold bM at hb0
              rcases h6 with ⟨h7, _⟩ | ⟨_, _, _, h8, h10⟩
              · have := hl t htn; omega
              · by_cases e : j = t
                · subst e
                  rcases h10 with h10 | ⟨h10, _⟩ | ⟨u, hu, h10⟩
                  · omega
                  · omega
                  · have h11 := hl u hu
                    have h12 := (hq.abs u hu)
                    exfalso
                    have : 0 < leftM n Mt1 u := by
                      unfold leftM
                      generalize Mt1.fs.getD u Fr.zero = f at h10 h12
                      generalize Mt1.hold.getD u 0 = hh at h12
                      generalize q.getD u (K.idle 0) = pp at h12
                      cases h12 with
                      | plain => rw [(G.plain pp).2.1] at h10; cases h10
                      | waking _ k _ hk h0 hlt _ _ => exact left_pos hk h0 hlt rfl
                      | staged _ c pr st _ _ hw2 _ => rw [show ({ (K.conc pp).1 with st := st } : Fr).wk = (K.conc pp).1.wk from rfl, (G.plain pp).2.1] at h10; cases h10
                      | seen q c pr v _ _ hw2 _ => rw [show ({ (K.conc q).1 with a := K.keep q v, st := 4 } : Fr).wk = (K.conc q).1.wk from rfl, (G.plain q).2.1] at h10; cases h10
                      | over _ _ _ hk h0 hlt _ _ => exact left_pos hk h0 hlt rfl
                    omega
                · rw [h8 j hj e]; exact h9
          unfold phi
          omega
      rcases hor with h4 | ⟨h4, h5, h6, h7⟩
      · left; omega
      · rcases hW with h8 | ⟨h8, h9, h10⟩
        · left; omega
        · right
          refine ⟨by omega, by omega, fun hb => ?_, fun hb => ?_⟩
          · obtain ⟨k1, k2⟩ := h6 hb
            refine ⟨fun j hj => ?_, fun j hj hjn => ?_⟩
            · by_cases e : j = t
              · subst e
                have h11 := k2 j (Nat.le_refl _) htn
                have h12 := le_mx (f := leftM n M) n htn
                unfold bM at hb ⊢
                rcases h10 with ⟨_, h10⟩ | ⟨_, h10, _⟩ <;> omega
              · rw [h9 j e]; exact k1 j (by omega)
            · rw [h9 j (by omega)]; exact k2 j (by omega) hjn
          · obtain ⟨k1, k2, k3⟩ := h7 hb
            rcases h10 with ⟨h10, _⟩ | ⟨_, h11, h12, h13, h14⟩
            · have := k1 t htn; omega
            · refine ⟨fun j hj => ?_, fun j hj => ?_, fun j hj hjn => ?_⟩
              · by_cases e : j = t
                · subst e; exact h11
                · rw [h9 j e]; exact k1 j hj
              · by_cases e : j = t
                · subst e
                  rw [← k3 j (Nat.le_refl _) htn]
                  rcases h14 with h14 | h14 | ⟨u, hu, h14⟩
                  · exact Or.inl h14
                  · exact Or.inr h14
                  · exfalso
                    have h15 := k1 u hu
                    have h12 := (hq.abs u hu)
                    have : 0 < leftM n Mt1 u := by
                      unfold leftM
                      generalize Mt1.fs.getD u Fr.zero = f at h14 h12
                      generalize Mt1.hold.getD u 0 = hh at h12
                      generalize q.getD u (K.idle 0) = pp at h12
                      cases h12 with
                      | plain => rw [(G.plain pp).2.1] at h14; cases h14
                      | waking _ k _ hk h0 hlt _ _ => exact left_pos hk h0 hlt rfl
                      | staged _ c pr st _ _ hw2 _ => rw [show ({ (K.conc pp).1 with st := st } : Fr).wk = (K.conc pp).1.wk from rfl, (G.plain pp).2.1] at h14; cases h14
                      | seen q c pr v _ _ hw2 _ => rw [show ({ (K.conc q).1 with a := K.keep q v, st := 4 } : Fr).wk = (K.conc q).1.wk from rfl, (G.plain q).2.1] at h14; cases h14
                      | over _ _ _ hk h0 hlt _ _ => exact left_pos hk h0 hlt rfl
                    omega
                · rw [h13 j (by omega) e]; exact k2 j (by omega)
              · rw [h13 j hjn (by omega)]; exact k3 j (by omega) hjn
  obtain ⟨ps', h3, hmode, h4⟩ := key n (Nat.le_refl _)
  rw [Nat.sub_self] at h3
  refine ⟨ps', h3, hmode, ?_⟩
  rcases h4 with h4 | ⟨h4, h5, h6, h7⟩
  · exact Or.inl h4
  · have hC : dM K cp n C (backA K.g M n) ps' ≤ C := by
      unfold dM
      split
      · exact Nat.le_refl _
      · exact mx_le n (fun j _ => potF_le A.live)
    by_cases hb : 0 < bM n M
    · left
      obtain ⟨k1, _⟩ := h6 hb
      have : bM n (backA K.g M n) + 1 ≤ bM n M := by
        have : bM n (backA K.g M n) ≤ bM n M - 1 := mx_le n (fun j hj => by have := k1 j hj; omega)
        omega
      have hd : dM K cp n C M ps = C := by unfold dM; rw [if_pos hb]
      unfold phi
      omega
    · obtain ⟨k1, k2, _⟩ := h7 (by omega)
      have hb2 : bM n (backA K.g M n) = 0 := by
        have : bM n (backA K.g M n) ≤ 0 := mx_le n (fun j hj => by have := k1 j hj; omega)
        omega
      have hd : dM K cp n C M ps = mx n (potM K cp n M ps) := by unfold dM; rw [if_neg hb]
      have hd2 : dM K cp n C (backA K.g M n) ps' = mx n (potM K cp n (backA K.g M n) ps') := by unfold dM; rw [if_neg (by omega)]
      by_cases hz : 0 < mx n (potM K cp n M ps)
      · left
        have : mx n (potM K cp n (backA K.g M n) ps') ≤ mx n (potM K cp n M ps) - 1 := mx_le n (fun j hj => by
          have h9 := le_mx (f := potM K cp n M ps) n hj
          rcases k2 j hj with h8 | ⟨h8, _⟩ <;> omega)
        unfold phi
        omega
      · right
        refine rest_of A hM H (fun j hj => ?_) (fun j hj => ?_)
        · have := le_mx (f := leftM n M) n hj
          unfold bM at hb
          omega
        · have := le_mx (f := potM K cp n M ps) n hj
          omega

/-- ROUNDS: all come to rest. -/
theorem rounds_rest (A : K.All n mode I N V C nw nv cp) (h1 : 1 ≤ n) (h2 : n ≤ 64) (hm : mode = 1 ∨ mode = 2) (hM : M.mode = mode) {B : Nat} (H : MI K I n B M ps) : ∀ r b, b + 2 * n * r = B → ∃ ps', MI K I n b (roundsA K.g n M r) ps' ∧ (roundsA K.g n M r).mode = mode ∧ (phi K nw nv cp n C (roundsA K.g n M r) ps' + r ≤ phi K nw nv cp n C M ps ∨ Rest n (roundsA K.g n M r))
  | 0, b, hb => ⟨ps, by have : b = B := by simpa using hb
                        rw [this]; exact H, hM, Or.inl (Nat.le_refl _)⟩
  | r + 1, b, hb => by
    obtain ⟨q, h3, h4, h5⟩ := rounds_rest A h1 h2 hm hM H r (b + 2 * n) (by rw [← hb, Nat.mul_add]; omega)
    obtain ⟨q', h6, h7, h8⟩ := round_went A h1 h2 hm h4 h3
    refine ⟨q', h6, h7, ?_⟩
    show _ ∨ Rest n (backA K.g (roundsA K.g n M r) n)
    rcases h5 with h5 | h5
    · rcases h8 with h8 | h8
      · left
        show phi K nw nv cp n C (backA K.g (roundsA K.g n M r) n) q' + (r + 1) ≤ _
        omega
      · right
        rw [rest_back h8 n (Nat.le_refl _)]
        exact h8
    · right
      rw [rest_back h5 n (Nat.le_refl _)]
      exact h5
theorem phi_le (A : K.All n mode I N V C nw nv cp) : phi K nw nv cp n C M ps ≤ n * ((C + 1) * N + 2 * n * V) + 2 * n + C := by
  have e1 : aM K n C nw nv ps ≤ n * ((C + 1) * N + 2 * n * V) := by
    rw [← sm_const]
    refine sm_le n (fun j _ => ?_)
    exact Nat.add_le_add (Nat.mul_le_mul_left _ (A.live.nwle _)) (Nat.mul_le_mul_left _ (A.live.nvle _))
  have e2 : bM n M ≤ 2 * n := mx_le n (fun j _ => left_le n _)
  have e3 : dM K cp n C M ps ≤ C := by
    unfold dM
    split
    · exact Nat.le_refl _
    · exact mx_le n (fun j _ => potF_le A.live)
  unfold phi
  omega

theorem count_one : ∀ (l : List Int) (i : Nat), (∀ j, j < l.length → j ≠ i → l.getD j 0 = 0) → l.countP (· == 2) ≤ 1 ∧ (l.getD i 0 = 2 → l.countP (· == 1) = 0)
  | [], i, _ => by simp
  | x :: l, 0, h => by
    have hz : ∀ y, y ∈ l → y = 0 := fun y hy => by
      obtain ⟨j, hj, rfl⟩ := List.getElem_of_mem hy
      have := h (j + 1) (by simpa using hj) (by omega)
      simpa [List.getD, hj] using this
    have c2 : l.countP (· == 2) = 0 := by rw [List.countP_eq_zero]; intro y hy; rw [hz y hy]; decide
    have c1 : l.countP (· == 1) = 0 := by rw [List.countP_eq_zero]; intro y hy; rw [hz y hy]; decide
    refine ⟨?_, fun hx => ?_⟩
    · rw [List.countP_cons, c2]; split <;> omega
    · have hx : x = 2 := hx
      rw [List.countP_cons, c1, hx]
      decide
  | x :: l, i + 1, h => by
    have hx : x = 0 := h 0 (by simp) (by omega)
    obtain ⟨c2, c1⟩ := count_one l i (fun j hj hji => by
      have := h (j + 1) (by simpa using hj) (by omega)
      simpa using this)
    subst hx
    refine ⟨?_, fun hx => ?_⟩
    · rw [List.countP_cons]; simpa using c2
    · rw [List.countP_cons]; simpa using c1 (by simpa using hx)

theorem excl_many (A : K.All n mode I N V C nw nv cp) (hM : M.mode = mode) (H : MI K I n b M ps) : ¬ (M.many 2 > 1 ∨ M.many 2 = 1 ∧ M.many 1 > 0) := by
  have G := A.good
  rw [← hM] at G
  intro hc
  have hpos : 0 < M.hold.countP (· == 2) := by unfold Mt.many at hc; omega
  rw [List.countP_pos_iff] at hpos
  obtain ⟨y, hy, he⟩ := hpos
  obtain ⟨i, hi, rfl⟩ := List.getElem_of_mem hy
  have hin : i < n := by have := H.hol; omega
  have h2 : M.hold.getD i 0 = 2 := by have : M.hold[i] = 2 := by simpa using he
                                      simpa [List.getD, hi] using this
  have hp := ((H.abs i hin).holds G).2 h2
  obtain ⟨c2, c1⟩ := count_one M.hold i (fun j hj hji => by
    have hjn : j < n := by have := H.hol; omega
    have h0 := A.excl _ ps _ i j H.inv H.psl hin hjn hji hp
    have h3 := ((H.abs j hjn).holds G).1
    rcases Decidable.em (M.hold.getD j 0 = 0) with h4 | h4
    · exact h4
    · exact absurd h0 (h3 h4))
  have := c1 h2
  unfold Mt.many at hc
  omega

theorem plays_keep (A : K.All n mode I N V C nw nv cp) (h1 : 1 ≤ n) (h2 : n ≤ 64) (hm : mode = 1 ∨ mode = 2) : ∀ (l : List (Int × Int)) (b : Nat) (M : Mt) (ps : List P), M.mode = mode → MI K I n (b + 2 * l.length) M ps → ∃ ps', MI K I n b (playsA K.g n M l) ps' ∧ (playsA K.g n M l).mode = mode
  | [], b, M, ps, hM, H => ⟨ps, H, hM⟩
  | x :: l, b, M, ps, hM, H => by
    have G := A.good
    rw [← hM] at G
    rw [show b + 2 * (x :: l).length = b + 2 * l.length + 2 by rw [List.length_cons]; omega] at H
    obtain ⟨q, h3⟩ := play_keeps G A.keeps A.live h1 h2 (by rw [hM]; exact hm) H (i := (x.1 % (n : Int)).toNat) (by have := Int.emod_lt_of_pos x.1 (show (0 : Int) < n by omega); omega) (x.2 % 9)
    exact plays_keep A h1 h2 hm l b _ q ((play_same K.g M _ _).2.1.trans hM) h3

/-- ONE WRITES, OR MANY READ; let go on, all come to rest. -/
theorem excludes_ok (A : K.All n mode I N V C nw nv cp) (h1 : 1 ≤ n) (h2 : n ≤ 64) (hm : mode = 1 ∨ mode = 2) (hfit : n * ((C + 1) * N + 2 * n * V) + 2 * n + C < 2 * n * (8 * n + 40)) (hM : M.mode = mode) (l : List (Int × Int)) (H : MI K I n (2 * n * (2 * n * (8 * n + 40)) + 2 * l.length) M ps) : ExcludesOk K.g n M l := by
  constructor
  · intro j hj
    have e : (l.take j).length = j := by rw [List.length_take]; omega
    obtain ⟨q, h3, h4⟩ := plays_keep A h1 h2 hm (l.take j) (2 * n * (2 * n * (8 * n + 40)) + 2 * (l.length - j)) M ps hM (by rw [e]; rw [show 2 * n * (2 * n * (8 * n + 40)) + 2 * (l.length - j) + 2 * j = 2 * n * (2 * n * (8 * n + 40)) + 2 * l.length by omega]; exact H)
    exact excl_many A h4 h3
  · intro t ht
    obtain ⟨q, h3, h4⟩ := plays_keep A h1 h2 hm l (2 * n * (2 * n * (8 * n + 40))) M ps hM H
    obtain ⟨q', h5, h6, h7⟩ := rounds_rest A h1 h2 hm h4 h3 (2 * n * (8 * n + 40)) 0 (by omega)
    rcases h7 with h7 | h7
    · have := phi_le (M := playsA K.g n M l) (ps := q) A
      omega
    · obtain ⟨e1, e2⟩ := h7 t ht
      rw [e1]
      exact ⟨rfl, e2⟩

/-- How all begin. -/
theorem start_MI (A : K.All n mode I N V C nw nv cp) (L : List Int) (hL : L.length = 8 + 4 * n) (hI : I b (List.replicate n (K.idle 0)) (mainOf n L)) : MI K I n b (Mt.start n mode L) (List.replicate n (K.idle 0)) := by
  have hr : ∀ j, (List.replicate n (K.idle 0)).getD j (K.idle 0) = K.idle 0 := fun j => by
    rw [List.getD_eq_getElem?_getD, List.getElem?_replicate]; split <;> rfl
  have hf : ∀ j, (List.replicate n Fr.zero).getD j Fr.zero = Fr.zero := fun j => by
    rw [List.getD_eq_getElem?_getD, List.getElem?_replicate]; split <;> rfl
  have hh : ∀ j, (List.replicate n (0 : Int)).getD j 0 = 0 := fun j => by
    rw [List.getD_eq_getElem?_getD, List.getElem?_replicate]; split <;> rfl
  refine ⟨rfl, by simp [Mt.start], by simp [Mt.start], by simp, hL, fun i hi => ?_, hI, fun i c pr hi hw _ => ?_, fun i c pr hi hw _ _ => ?_⟩
  · show AbsF K n mode i ((List.replicate n Fr.zero).getD i Fr.zero) ((List.replicate n (0 : Int)).getD i 0) _
    rw [hr, hf, hh]
    have := AbsF.plain (K := K) (n := n) (mode := mode) (t := i) (K.idle 0)
    rw [A.good.idle_conc] at this
    exact this
  · rw [hr, A.still] at hw
    cases hw
  · rw [hr, A.still] at hw
    cases hw
end
end Go.Proofs.Ytdffdppkdbbdoaa.Z

/- Sums over places; accesses to the words that are no watches. No lock in sight. -/
set_option linter.unusedVariables false
set_option linter.unusedSimpArgs false
namespace Go.Proofs.Ytdffdppkdbbdoaa.Z
open Go.RowKit

section
variable {P : Type}
def ws (f : P → Int) : List P → Int
  | [] => 0
  | x :: l => f x + ws f l
theorem ws_set {f : P → Int} {d x : P} : ∀ {l : List P} {i : Nat}, i < l.length → ws f (l.set i x) = ws f l - f (l.getD i d) + f x
  | [], i, h => by simp at h
  | y :: l, 0, _ => by simp [ws]; omega
  | y :: l, i + 1, h => by
    have := ws_set (f := f) (d := d) (x := x) (l := l) (i := i) (by simpa using h)
    simp [ws] at this ⊢
    omega
theorem ws_nonneg {f : P → Int} (h : ∀ x, 0 ≤ f x) : ∀ l : List P, 0 ≤ ws f l
  | [] => Int.le_refl _
  | x :: l => by have := ws_nonneg h l; have := h x; simp [ws]; omega
theorem ws_le {f g : P → Int} (h : ∀ x, f x ≤ g x) : ∀ l : List P, ws f l ≤ ws g l
  | [] => Int.le_refl _
  | x :: l => by have := ws_le h l; have := h x; simp [ws]; omega
theorem ws_len {f : P → Int} (h : ∀ x, f x ≤ 1) : ∀ l : List P, ws f l ≤ l.length
  | [] => by simp [ws]
  | x :: l => by have := ws_len h l; have := h x; simp [ws]; omega
theorem ws_one {f : P → Int} {d : P} (h : ∀ x, 0 ≤ f x) : ∀ {l : List P} {i : Nat}, i < l.length → f (l.getD i d) ≤ ws f l
  | [], i, hi => by simp at hi
  | x :: l, 0, _ => by have := ws_nonneg h l; simp [ws]; omega
  | x :: l, i + 1, hi => by
    have := ws_one h (l := l) (i := i) (d := d) (by simpa using hi)
    have := h x
    simp [ws] at *
    omega
theorem ws_two {f : P → Int} {d : P} (h : ∀ x, 0 ≤ f x) {l : List P} {i j : Nat} (hi : i < l.length) (hj : j < l.length) (hij : i ≠ j) : f (l.getD i d) + f (l.getD j d) ≤ ws f l := by
  have h3 : ∀ {l : List P} {i j : Nat}, i < l.length → j < l.length → i ≠ j → f (l.getD i d) + f (l.getD j d) ≤ ws f l := by
    intro l
    induction l with
    | nil => intro i j hi _ _; simp at hi
    | cons x l ih =>
      intro i j hi hj hij
      cases i with
      | zero =>
        cases j with
        | zero => exact absurd rfl hij
        | succ j =>
          have := ws_one (d := d) h (l := l) (i := j) (by simpa using hj)
          simp [ws] at *
          omega
      | succ i =>
        cases j with
        | zero =>
          have := ws_one (d := d) h (l := l) (i := i) (by simpa using hi)
          simp [ws] at *
          omega
        | succ j =>
          have := ih (i := i) (j := j) (by simpa using hi) (by simpa using hj) (by omega)
          have := h x
          simp [ws] at *
          omega
  exact h3 hi hj hij
theorem ws_zero {f : P → Int} {l : List P} (h : ∀ x, x ∈ l → f x = 0) : ws f l = 0 := by
  induction l with
  | nil => rfl
  | cons x l ih => simp [ws, h x (by simp), ih (fun y hy => h y (List.mem_cons_of_mem _ hy))]
theorem ws_replicate {f : P → Int} {n : Nat} {x : P} (h : f x = 0) : ws f (List.replicate n x) = 0 := ws_zero (fun y hy => by rw [(List.mem_replicate.1 hy).2, h])
theorem ws_all0 {f : P → Int} {d : P} {l : List P} {n : Nat} (hl : l.length = n) (h : ∀ i, i < n → f (l.getD i d) = 0) : ws f l = 0 := by
  refine ws_zero (fun y hy => ?_)
  obtain ⟨i, hi, rfl⟩ := List.getElem_of_mem hy
  have := h i (by omega)
  simpa [List.getD, hi] using this
/-- A thing that one has, somebody has. -/
theorem ws_some {f : P → Int} {d : P} {l : List P} {n : Nat} (hl : l.length = n) (h : ws f l ≠ 0) : ∃ i, i < n ∧ f (l.getD i d) ≠ 0 := by
  rcases Classical.em (∃ i, i < n ∧ f (l.getD i d) ≠ 0) with h1 | h1
  · exact h1
  · exfalso
    refine h (ws_all0 (d := d) hl (fun i hi => ?_))
    rcases Decidable.em (f (l.getD i d) = 0) with h2 | h2
    · exact h2
    · exact absurd ⟨i, hi, h2⟩ h1
end

section
variable {n : Nat} {L : List Int} {c x y : Int}
theorem at_ld (hl : L.length = 8 + 4 * n) (h0 : 0 ≤ c) (hc : c.toNat < 8 + 2 * n) : doA L ⟨1, c, 0, 0, 0⟩ = (⟨1, c, 0, 0, mainOf n L c.toNat⟩, true, L) := by
  rw [doA_at (by omega)]
  simp [mainOf, hc]
theorem at_ad (hl : L.length = 8 + 4 * n) (h0 : 0 ≤ c) (hc : c.toNat < 8 + 2 * n) : doA L ⟨3, c, x, 0, 0⟩ = (⟨3, c, x, 0, mainOf n L c.toNat⟩, true, L.set c.toNat ((mainOf n L c.toNat + x) % 4294967296)) := by
  rw [doA_at (by omega)]
  simp [mainOf, hc]
theorem at_st (hl : L.length = 8 + 4 * n) (h0 : 0 ≤ c) (hc : c.toNat < 8 + 2 * n) : doA L ⟨2, c, x, 0, 0⟩ = (⟨2, c, x, 0, mainOf n L c.toNat⟩, true, L.set c.toNat x) := by
  rw [doA_at (by omega)]
  simp [mainOf, hc]
theorem at_sw (hl : L.length = 8 + 4 * n) (h0 : 0 ≤ c) (hc : c.toNat < 8 + 2 * n) : doA L ⟨4, c, x, 0, 0⟩ = (⟨4, c, x, 0, mainOf n L c.toNat⟩, true, L.set c.toNat x) := by
  rw [doA_at (by omega)]
  simp [mainOf, hc]
theorem at_cas (hl : L.length = 8 + 4 * n) (h0 : 0 ≤ c) (hc : c.toNat < 8 + 2 * n) : doA L ⟨5, c, x, y, 0⟩ = (⟨5, c, x, y, mainOf n L c.toNat⟩, true, if mainOf n L c.toNat = x then L.set c.toNat y else L) := by
  rw [doA_at (by omega)]
  simp [mainOf, hc]
theorem at_casB (hl : L.length = 8 + 4 * n) (h0 : 0 ≤ c) (hc : c.toNat < 8 + 2 * n) : casB L c x y = (mainOf n L c.toNat == x) := by
  unfold casB
  rw [at_cas hl h0 hc]
  simp
end
/-- A wait that is done has no stage. -/
theorem wait_done {L : List Int} {n mode task st c : Int} {p : Int → Bool} (h : (waitA L n mode task st c p).done = true) : (waitA L n mode task st c p).stage = 0 := by
  unfold waitA at h ⊢
  dsimp only at h ⊢
  repeat' split at h
  all_goals first | (simp at h; done) | skip
  all_goals simp_all
theorem wait4_done {L : List Int} {n mode task c : Int} {p : Int → Bool} (hm : mode = 2) : (waitA L n mode task 4 c p).done = true ∧ (waitA L n mode task 4 c p).stage = 0 := by
  unfold waitA
  dsimp only
  rw [stage_at hm (by omega) (by omega)]
  exact ⟨rfl, rfl⟩
theorem wait4_seen {L : List Int} {n mode task c : Int} {p : Int → Bool} (hm : mode = 2) : (waitA L n mode task 4 c p).seen = false := by
  unfold waitA
  dsimp only
  rw [stage_at hm (by omega) (by omega)]
  rfl
theorem wait_ds {L : List Int} {n mode task st c : Int} {p : Int → Bool} (h0 : 0 ≤ st) (h3 : st ≤ 3) (h : (waitA L n mode task st c p).done = true) : (waitA L n mode task st c p).seen = true := by
  have hs : stageA mode st ≠ 4 := by unfold stageA; split <;> omega
  unfold waitA at h ⊢
  dsimp only at h ⊢
  rw [if_neg hs] at h ⊢
  repeat' split at h
  all_goals first | (simp at h; done) | skip
  all_goals simp_all
theorem may_ops {op h : Int} (hm : mayB op h = true) : (h = 0 ∧ (op = 1 ∨ op = 3 ∨ op = 5 ∨ op = 6)) ∨ (h = 1 ∧ (op = 2 ∨ op = 7)) ∨ (h ≠ 0 ∧ h ≠ 1 ∧ (op = 4 ∨ op = 8)) := by
  unfold mayB at hm
  split at hm
  · rename_i h0
    simp at hm
    exact Or.inl ⟨h0, by omega⟩
  split at hm
  · rename_i h0 h1
    simp at hm
    exact Or.inr (Or.inl ⟨h1, by omega⟩)
  · rename_i h0 h1
    simp at hm
    exact Or.inr (Or.inr ⟨h0, h1, by omega⟩)

end Go.Proofs.Ytdffdppkdbbdoaa.Z

/- The task-fair lock: where a task is, what a step does. No program is in sight. Written by gentflive.py. -/
set_option linter.unusedVariables false
set_option linter.unusedSimpArgs false
namespace Go.Proofs.Ytdffdppkdbbdoaa.Z
open Go.RowKit

/-- Where a task is. -/
inductive TfP
  | idle (h : Int)
  | r0
  | r1 (a : Int)
  | r2 (a : Int)
  | u0
  | l0
  | l1 (a : Int)
  | v0
  | v1
  | d0
  | q0 (a : Int) (b : Int)
  | q1 (a : Int) (b : Int)
  | q2 (a : Int) (b : Int)
  | q3 (a : Int) (b : Int)
  | y0 (a : Int) (b : Int)
  | y1 (a : Int) (b : Int)
  | y2 (a : Int) (b : Int)
  | z0 (a : Int) (b : Int)
  | z1 (a : Int) (b : Int)
  | z2 (a : Int) (b : Int)
  | z3 (a : Int) (b : Int)
def tfFr (op line a b : Int) : Fr := ⟨op, line, a, b, 0, Wk.zero, 0⟩
def tfConc : TfP → Fr × Int
  | .idle h => (Fr.zero, h)
  | .r0 => (tfFr 1 0 0 0, 0)
  | .r1 a => (tfFr 1 1 a 0, 0)
  | .r2 a => (tfFr 1 2 a 0, 0)
  | .u0 => (tfFr 2 0 0 0, 0)
  | .l0 => (tfFr 3 0 0 0, 0)
  | .l1 a => (tfFr 3 1 a 0, 0)
  | .v0 => (tfFr 4 0 0 0, 0)
  | .v1 => (tfFr 4 1 0 0, 0)
  | .d0 => (tfFr 8 0 0 0, 1)
  | .q0 a b => (tfFr 5 0 a b, 0)
  | .q1 a b => (tfFr 5 1 a b, 0)
  | .q2 a b => (tfFr 5 2 a b, 0)
  | .q3 a b => (tfFr 5 3 a b, 0)
  | .y0 a b => (tfFr 6 0 a b, 0)
  | .y1 a b => (tfFr 6 1 a b, 0)
  | .y2 a b => (tfFr 6 2 a b, 0)
  | .z0 a b => (tfFr 7 0 a b, 1)
  | .z1 a b => (tfFr 7 1 a b, 1)
  | .z2 a b => (tfFr 7 2 a b, 1)
  | .z3 a b => (tfFr 7 3 a b, 1)
def tfWait : TfP → Option (Nat × (Int → Bool))
  | .r1 a => some (1, fun v => v == a)
  | .l1 a => some (2, fun v => v == a)
  | _ => none
def tfPost : TfP → TfP
  | .r1 a => .r2 a
  | .l1 _ => .idle 2
  | p => p
def tfKeep : TfP → Int
  | .r1 a => a
  | .l1 a => a
  | _ => 0
def tfAct (x0 x1 x2 : Int) : TfP → TfP × Option (Nat × Int) × Option Nat
  | .r0 => (.r1 x0, some (0, (x0 + 1) % 4294967296), none)
  | .r2 _ => (.idle 1, some (1, (x1 + 1) % 4294967296), some 1)
  | .u0 => (.idle 0, some (2, (x2 + 1) % 4294967296), some 2)
  | .l0 => (.l1 x0, some (0, (x0 + 1) % 4294967296), none)
  | .v0 => (.v1, some (1, (x1 + 1) % 4294967296), some 1)
  | .v1 => (.idle 0, some (2, (x2 + 1) % 4294967296), some 2)
  | .d0 => (.idle 1, some (1, (x1 + 1) % 4294967296), some 1)
  | .q0 a b => (.q1 x0 b, none, none)
  | .q1 a b => (if 0 < aheadA a x1 then .idle 0 else if aheadA a x1 < 0 then .q0 a x1 else .q2 a x1, none, none)
  | .q2 a b => if x0 = a then (.q3 a b, some (0, (a + 1) % 4294967296), none) else (.q0 a b, none, none)
  | .y0 a b => (.y1 x0 b, none, none)
  | .y1 a b => (if 0 < aheadA a x2 then .idle 0 else if aheadA a x2 < 0 then .y0 a x2 else .y2 a x2, none, none)
  | .y2 a b => if x0 = a then (.idle 2, some (0, (a + 1) % 4294967296), none) else (.y0 a b, none, none)
  | .z0 a b => (.z1 x0 b, none, none)
  | .z1 a b => (if 1 < aheadA a x2 then .idle 1 else if aheadA a x2 < 1 then .z0 a x2 else .z2 a x2, none, none)
  | .z2 a b => if x0 = a then (.z3 a b, some (0, (a + 1) % 4294967296), none) else (.z0 a b, none, none)
  | .q3 _ _ => (.idle 1, some (1, (x1 + 1) % 4294967296), some 1)
  | .z3 _ _ => (.idle 2, some (2, (x2 + 1) % 4294967296), none)
  | p => (p, none, none)
def tfStart (op h : Int) : TfP := if op = 1 then .r0 else if op = 2 then .u0 else if op = 3 then .l0 else if op = 4 then .v0 else if op = 5 then .q0 0 0 else if op = 6 then .y0 0 0 else if op = 7 then .z0 0 0 else .d0
def tfK : LockM TfP := ⟨tfA, tfConc, fun p v => tfKeep p, fun _ p => tfWait p, fun p v => tfPost p, fun _ p m => tfAct (m 0) (m 1) (m 2) p, .idle, tfStart, fun _ => True⟩

set_option maxHeartbeats 3200000 in
theorem tf_good (n : Nat) (mode : Int) : tfK.Good n mode := by
  refine ⟨fun p => by cases p <;> exact ⟨rfl, rfl, rfl⟩, fun h => rfl, fun p hp => ?_, fun p hp => ?_, fun t p c pr hw => ?_, fun op h hm => ?_, fun t op h hm => ?_, fun t p c pr _ _ hw => ?_, fun t p c pr v hw hh => ?_, fun p t s hok ht hw hop hn hmd htk hf hl => ?_, fun p t c pr st s hok ht hw h0 h3 hn hmd htk hf hl => ?_, fun p t c pr v s hok ht hm2 hw hpr hn hmd htk hf hl => ?_⟩
  · cases p <;> first | rfl | (simp [tfK, tfConc, tfFr] at hp)
  · cases p <;> first | (simp [tfK, tfConc, tfFr] at hp; done) | (simp [tfK, tfConc, tfFr] at hp; rw [hp]; rfl)
  · cases p <;> simp [tfK, tfWait] at hw <;> simp [tfK, tfConc, tfFr]
  · rcases may_ops hm with ⟨rfl, rfl | rfl | rfl | rfl⟩ | ⟨rfl, rfl | rfl⟩ | ⟨_, _, rfl | rfl⟩ <;> simp [tfStart, tfK, tfConc, tfFr, frOp, fromA]
  · rcases may_ops hm with ⟨rfl, rfl | rfl | rfl | rfl⟩ | ⟨rfl, rfl | rfl⟩ | ⟨_, _, rfl | rfl⟩ <;> simp [tfK, tfStart, tfWait]
  · cases p <;> simp [tfK, tfWait] at hw <;> omega
  · cases p <;> simp [tfK, tfWait] at hw <;> simp [tfPost, tfK, tfConc, tfFr] at hh ⊢
  · obtain ⟨sn, sm, st, f, acc, notes, L⟩ := s
    simp only at hn hmd htk hf hl
    subst hn hmd htk hf
    have l0 := at_ld (n := n) (L := L) (c := 0) hl (by decide) (by omega)
    have a0 := fun x => at_ad (n := n) (L := L) (c := 0) (x := x) hl (by decide) (by omega)
    have s0 := fun x => at_st (n := n) (L := L) (c := 0) (x := x) hl (by decide) (by omega)
    have c0 := fun x y => at_cas (n := n) (L := L) (c := 0) (x := x) (y := y) hl (by decide) (by omega)
    have d0 := fun x y => at_casB (n := n) (L := L) (c := 0) (x := x) (y := y) hl (by decide) (by omega)
    simp only [show (0 : Int).toNat = 0 from rfl] at l0 a0 s0 c0 d0
    have l1 := at_ld (n := n) (L := L) (c := 1) hl (by decide) (by omega)
    have a1 := fun x => at_ad (n := n) (L := L) (c := 1) (x := x) hl (by decide) (by omega)
    have s1 := fun x => at_st (n := n) (L := L) (c := 1) (x := x) hl (by decide) (by omega)
    have c1 := fun x y => at_cas (n := n) (L := L) (c := 1) (x := x) (y := y) hl (by decide) (by omega)
    have d1 := fun x y => at_casB (n := n) (L := L) (c := 1) (x := x) (y := y) hl (by decide) (by omega)
    simp only [show (1 : Int).toNat = 1 from rfl] at l1 a1 s1 c1 d1
    have l2 := at_ld (n := n) (L := L) (c := 2) hl (by decide) (by omega)
    have a2 := fun x => at_ad (n := n) (L := L) (c := 2) (x := x) hl (by decide) (by omega)
    have s2 := fun x => at_st (n := n) (L := L) (c := 2) (x := x) hl (by decide) (by omega)
    have c2 := fun x y => at_cas (n := n) (L := L) (c := 2) (x := x) (y := y) hl (by decide) (by omega)
    have d2 := fun x y => at_casB (n := n) (L := L) (c := 2) (x := x) (y := y) hl (by decide) (by omega)
    simp only [show (2 : Int).toNat = 2 from rfl] at l2 a2 s2 c2 d2
    show ActIs tfK n p (tfAct (mainOf n L 0) (mainOf n L 1) (mainOf n L 2) p) _ _
    generalize mainOf n L 0 = x0 at l0 a0 s0 c0 d0
    generalize mainOf n L 1 = x1 at l1 a1 s1 c1 d1
    generalize mainOf n L 2 = x2 at l2 a2 s2 c2 d2
    cases p <;> simp [tfK, tfWait] at hw <;> simp [tfK, tfConc, tfFr, Fr.zero] at hop
    case r0 => constructor <;> simp [tfK, tfConc, tfFr, tfA, tfAct, Rn.fresh, Rn.did, Rn.setA, Rn.setB, Rn.note, Rn.goto, Rn.noted, Rn.fin, Rn.wake, writtenL, normF, behindA, wkOf, tf10, tfTicket, l0, a0, s0, c0, d0, l1, a1, s1, c1, d1, l2, a2, s2, c2, d2] <;> omega
    case r2 a => constructor <;> simp [tfK, tfConc, tfFr, tfA, tfAct, Rn.fresh, Rn.did, Rn.setA, Rn.setB, Rn.note, Rn.goto, Rn.noted, Rn.fin, Rn.wake, writtenL, normF, behindA, wkOf, tf12, tfEnter, l0, a0, s0, c0, d0, l1, a1, s1, c1, d1, l2, a2, s2, c2, d2] <;> omega
    case u0 => constructor <;> simp [tfK, tfConc, tfFr, tfA, tfAct, Rn.fresh, Rn.did, Rn.setA, Rn.setB, Rn.note, Rn.goto, Rn.noted, Rn.fin, Rn.wake, writtenL, normF, behindA, wkOf, tf20, l0, a0, s0, c0, d0, l1, a1, s1, c1, d1, l2, a2, s2, c2, d2] <;> omega
    case l0 => constructor <;> simp [tfK, tfConc, tfFr, tfA, tfAct, Rn.fresh, Rn.did, Rn.setA, Rn.setB, Rn.note, Rn.goto, Rn.noted, Rn.fin, Rn.wake, writtenL, normF, behindA, wkOf, tf30, tfTicket, l0, a0, s0, c0, d0, l1, a1, s1, c1, d1, l2, a2, s2, c2, d2] <;> omega
    case v0 => constructor <;> simp [tfK, tfConc, tfFr, tfA, tfAct, Rn.fresh, Rn.did, Rn.setA, Rn.setB, Rn.note, Rn.goto, Rn.noted, Rn.fin, Rn.wake, writtenL, normF, behindA, wkOf, tf40, l0, a0, s0, c0, d0, l1, a1, s1, c1, d1, l2, a2, s2, c2, d2] <;> omega
    case v1 => constructor <;> simp [tfK, tfConc, tfFr, tfA, tfAct, Rn.fresh, Rn.did, Rn.setA, Rn.setB, Rn.note, Rn.goto, Rn.noted, Rn.fin, Rn.wake, writtenL, normF, behindA, wkOf, tf41, l0, a0, s0, c0, d0, l1, a1, s1, c1, d1, l2, a2, s2, c2, d2] <;> omega
    case d0 => constructor <;> simp [tfK, tfConc, tfFr, tfA, tfAct, Rn.fresh, Rn.did, Rn.setA, Rn.setB, Rn.note, Rn.goto, Rn.noted, Rn.fin, Rn.wake, writtenL, normF, behindA, wkOf, tf80, tfEnter, l0, a0, s0, c0, d0, l1, a1, s1, c1, d1, l2, a2, s2, c2, d2] <;> omega
    case q0 a b => constructor <;> simp [tfK, tfConc, tfFr, tfA, tfAct, Rn.fresh, Rn.did, Rn.setA, Rn.setB, Rn.note, Rn.goto, Rn.noted, Rn.fin, Rn.wake, writtenL, normF, behindA, wkOf, tf50, l0, a0, s0, c0, d0, l1, a1, s1, c1, d1, l2, a2, s2, c2, d2] <;> omega
    case q1 a b => by_cases q0 : 0 < aheadA a x1 <;> by_cases q1 : aheadA a x1 < 0 <;> constructor <;> simp [tfK, tfConc, tfFr, tfA, tfAct, Rn.fresh, Rn.did, Rn.setA, Rn.setB, Rn.note, Rn.goto, Rn.noted, Rn.fin, Rn.wake, writtenL, normF, behindA, wkOf, q0, q1, tf51, tfLook, l0, a0, s0, c0, d0, l1, a1, s1, c1, d1, l2, a2, s2, c2, d2] <;> omega
    case q2 a b => by_cases q0 : x0 = a <;> constructor <;> simp [tfK, tfConc, tfFr, tfA, tfAct, Rn.fresh, Rn.did, Rn.setA, Rn.setB, Rn.note, Rn.goto, Rn.noted, Rn.fin, Rn.wake, writtenL, normF, behindA, wkOf, q0, tf52, tfTake, l0, a0, s0, c0, d0, l1, a1, s1, c1, d1, l2, a2, s2, c2, d2] <;> omega
    case q3 a b => constructor <;> simp [tfK, tfConc, tfFr, tfA, tfAct, Rn.fresh, Rn.did, Rn.setA, Rn.setB, Rn.note, Rn.goto, Rn.noted, Rn.fin, Rn.wake, writtenL, normF, behindA, wkOf, tf53, tfEnter, l0, a0, s0, c0, d0, l1, a1, s1, c1, d1, l2, a2, s2, c2, d2] <;> omega
    case y0 a b => constructor <;> simp [tfK, tfConc, tfFr, tfA, tfAct, Rn.fresh, Rn.did, Rn.setA, Rn.setB, Rn.note, Rn.goto, Rn.noted, Rn.fin, Rn.wake, writtenL, normF, behindA, wkOf, tf60, l0, a0, s0, c0, d0, l1, a1, s1, c1, d1, l2, a2, s2, c2, d2] <;> omega
    case y1 a b => by_cases q0 : 0 < aheadA a x2 <;> by_cases q1 : aheadA a x2 < 0 <;> constructor <;> simp [tfK, tfConc, tfFr, tfA, tfAct, Rn.fresh, Rn.did, Rn.setA, Rn.setB, Rn.note, Rn.goto, Rn.noted, Rn.fin, Rn.wake, writtenL, normF, behindA, wkOf, q0, q1, tf61, tfLook, l0, a0, s0, c0, d0, l1, a1, s1, c1, d1, l2, a2, s2, c2, d2] <;> omega
    case y2 a b => by_cases q0 : x0 = a <;> constructor <;> simp [tfK, tfConc, tfFr, tfA, tfAct, Rn.fresh, Rn.did, Rn.setA, Rn.setB, Rn.note, Rn.goto, Rn.noted, Rn.fin, Rn.wake, writtenL, normF, behindA, wkOf, q0, tf62, tfTake, l0, a0, s0, c0, d0, l1, a1, s1, c1, d1, l2, a2, s2, c2, d2] <;> omega
    case z0 a b => constructor <;> simp [tfK, tfConc, tfFr, tfA, tfAct, Rn.fresh, Rn.did, Rn.setA, Rn.setB, Rn.note, Rn.goto, Rn.noted, Rn.fin, Rn.wake, writtenL, normF, behindA, wkOf, tf70, l0, a0, s0, c0, d0, l1, a1, s1, c1, d1, l2, a2, s2, c2, d2] <;> omega
    case z1 a b => by_cases q0 : 1 < aheadA a x2 <;> by_cases q1 : aheadA a x2 < 1 <;> constructor <;> simp [tfK, tfConc, tfFr, tfA, tfAct, Rn.fresh, Rn.did, Rn.setA, Rn.setB, Rn.note, Rn.goto, Rn.noted, Rn.fin, Rn.wake, writtenL, normF, behindA, wkOf, q0, q1, tf71, tfLook, l0, a0, s0, c0, d0, l1, a1, s1, c1, d1, l2, a2, s2, c2, d2] <;> omega
    case z2 a b => by_cases q0 : x0 = a <;> constructor <;> simp [tfK, tfConc, tfFr, tfA, tfAct, Rn.fresh, Rn.did, Rn.setA, Rn.setB, Rn.note, Rn.goto, Rn.noted, Rn.fin, Rn.wake, writtenL, normF, behindA, wkOf, q0, tf72, tfTake, l0, a0, s0, c0, d0, l1, a1, s1, c1, d1, l2, a2, s2, c2, d2] <;> omega
    case z3 a b => constructor <;> simp [tfK, tfConc, tfFr, tfA, tfAct, Rn.fresh, Rn.did, Rn.setA, Rn.setB, Rn.note, Rn.goto, Rn.noted, Rn.fin, Rn.wake, writtenL, normF, behindA, wkOf, tf73, l0, a0, s0, c0, d0, l1, a1, s1, c1, d1, l2, a2, s2, c2, d2] <;> omega
  · obtain ⟨sn, sm, stk, f, acc, notes, L⟩ := s
    simp only at hn hmd htk hf hl
    subst hn hmd htk hf
    cases p <;> simp [tfK, tfWait] at hw
    case r1 a =>
      obtain ⟨rfl, rfl⟩ := hw
      have hd := fun h => wait_done (L := L) (n := n) (mode := sm) (task := t) (st := st) (c := 1) (p := fun v => v == a) h
      have hs := fun h => wait_ds (L := L) (n := n) (mode := sm) (task := t) (st := st) (c := 1) (p := fun v => v == a) h0 h3 h
      simp [tfK, tfConc, tfFr, tfA, Rn.fresh, Rn.waited, tfKeep, tfPost, tf11]
      generalize waitA L n sm t st 1 (fun v => v == a) = R at hd hs ⊢
      obtain ⟨rs, ra, rsn, rd, rw_⟩ := R
      cases rsn <;> cases rd <;> simp [Rn.note, Rn.fin, Rn.goto, Rn.setA, normF, behindA] at hd hs ⊢ <;> simp [hd, Wk.zero]
    case l1 a =>
      obtain ⟨rfl, rfl⟩ := hw
      have hd := fun h => wait_done (L := L) (n := n) (mode := sm) (task := t) (st := st) (c := 2) (p := fun v => v == a) h
      have hs := fun h => wait_ds (L := L) (n := n) (mode := sm) (task := t) (st := st) (c := 2) (p := fun v => v == a) h0 h3 h
      simp [tfK, tfConc, tfFr, tfA, Rn.fresh, Rn.waited, tfKeep, tfPost, tf31]
      generalize waitA L n sm t st 2 (fun v => v == a) = R at hd hs ⊢
      obtain ⟨rs, ra, rsn, rd, rw_⟩ := R
      cases rsn <;> cases rd <;> simp [Rn.note, Rn.fin, Rn.goto, Rn.setA, normF, behindA] at hd hs ⊢ <;> simp [hd, Wk.zero]
  · obtain ⟨sn, sm, stk, f, acc, notes, L⟩ := s
    simp only at hn hmd htk hf hl
    subst hn hmd htk hf
    cases p <;> simp [tfK, tfWait] at hw
    case r1 a =>
      obtain ⟨rfl, rfl⟩ := hw
      have hd := wait4_done (L := L) (n := n) (task := t) (c := 1) (p := fun v => v == a) hm2
      have hs := wait4_seen (L := L) (n := n) (task := t) (c := 1) (p := fun v => v == a) hm2
      simp [tfK, tfConc, tfFr, tfA, Rn.fresh, Rn.waited, tfKeep, tfPost, tf11]
      generalize waitA L n sm t 4 1 (fun v => v == a) = R at hd hs ⊢
      obtain ⟨rs, ra, rsn, rd, rw_⟩ := R
      obtain ⟨rfl, rfl⟩ := hd
      obtain rfl := hs
      simp [Rn.note, Rn.fin, Rn.goto, Rn.setA, normF, behindA, Wk.zero]
    case l1 a =>
      obtain ⟨rfl, rfl⟩ := hw
      have hd := wait4_done (L := L) (n := n) (task := t) (c := 2) (p := fun v => v == a) hm2
      have hs := wait4_seen (L := L) (n := n) (task := t) (c := 2) (p := fun v => v == a) hm2
      simp [tfK, tfConc, tfFr, tfA, Rn.fresh, Rn.waited, tfKeep, tfPost, tf31]
      generalize waitA L n sm t 4 2 (fun v => v == a) = R at hd hs ⊢
      obtain ⟨rs, ra, rsn, rd, rw_⟩ := R
      obtain ⟨rfl, rfl⟩ := hd
      obtain rfl := hs
      simp [Rn.note, Rn.fin, Rn.goto, Rn.setA, normF, behindA, Wk.zero]

/-- A ticket whose turn has not gone by; one who is inside since its turn. -/
def tfT : TfP → Int
  | .idle h => if h = 2 then 1 else 0
  | .r1 _ => 1
  | .r2 _ => 1
  | .q3 _ _ => 1
  | .l1 _ => 1
  | .v0 => 1
  | .d0 => 1
  | .z3 _ _ => 1
  | _ => 0
def tfD : TfP → Int
  | .idle h => if h = 1 then 1 else 0
  | .u0 => 1
  | .z0 _ _ => 1
  | .z1 _ _ => 1
  | .z2 _ _ => 1
  | .z3 _ _ => 1
  | .v1 => 1
  | _ => 0
theorem tfT_01 : ∀ x, 0 ≤ tfT x := by intro x; cases x <;> simp [tfT]; split <;> omega
theorem tfT_1 : ∀ x, tfT x ≤ 1 := by intro x; cases x <;> simp [tfT]; split <;> omega
theorem tfD_01 : ∀ x, 0 ≤ tfD x := by intro x; cases x <;> simp [tfD]; split <;> omega
theorem tfD_1 : ∀ x, tfD x ≤ 1 := by intro x; cases x <;> simp [tfD]; split <;> omega
/-- What is so of a task, by the true counts: those that came, those whose turn was, those that went; its ticket. -/
def tfAt (base U R W t : Int) : TfP → Prop
  | .idle h => h = 0 ∨ h = 1 ∨ (h = 2 ∧ t = R ∧ W = R)
  | .r1 a => a = t % 4294967296
  | .r2 _ => t = R
  | .l1 a => a = t % 4294967296
  | .v0 => t = R ∧ W = R
  | .d0 => t = R ∧ W = R
  | .q1 a _ => ∃ u, base ≤ u ∧ u ≤ U ∧ a = u % 4294967296
  | .q2 a _ => ∃ u, base ≤ u ∧ u ≤ U ∧ a = u % 4294967296 ∧ u ≤ R
  | .q3 _ _ => t = R
  | .y1 a _ => ∃ u, base ≤ u ∧ u ≤ U ∧ a = u % 4294967296
  | .y2 a _ => ∃ u, base ≤ u ∧ u ≤ U ∧ a = u % 4294967296 ∧ u ≤ W
  | .z1 a _ => ∃ u, base ≤ u ∧ u ≤ U ∧ a = u % 4294967296
  | .z2 a _ => ∃ u, base ≤ u ∧ u ≤ U ∧ a = u % 4294967296 ∧ u ≤ W + 1
  | .z3 _ _ => t = R ∧ W = R - 1
  | _ => True
structure TfIs (base : Int) (n b : Nat) (ps : List TfP) (m : Nat → Int) (U R W : Int) (T : Nat → Int) : Prop where
  m0 : m 0 = U % 4294967296
  m1 : m 1 = R % 4294967296
  m2 : m 2 = W % 4294967296
  lo : base ≤ W
  wr : W ≤ R
  ru : R ≤ U
  hi : U + b ≤ base + 1073741824
  nt : U - R = ws tfT ps
  nd : R - W = ws tfD ps
  rng : ∀ i, i < n → tfT (ps.getD i (tfK.idle 0)) = 1 → R ≤ T i ∧ T i < U
  inj : ∀ i j, i < n → j < n → i ≠ j → tfT (ps.getD i (tfK.idle 0)) = 1 → tfT (ps.getD j (tfK.idle 0)) = 1 → T i ≠ T j
  sur : ∀ t, R ≤ t → t < U → ∃ i, i < n ∧ tfT (ps.getD i (tfK.idle 0)) = 1 ∧ T i = t
  at_ : ∀ i, i < n → tfAt base U R W (T i) (ps.getD i (tfK.idle 0))
def tfI (base : Int) (n b : Nat) (ps : List TfP) (m : Nat → Int) : Prop := n ≤ 64 ∧ ps.length = n ∧ ∃ U R W T, TfIs base n b ps m U R W T


section
variable {base U R W : Int} {n b : Nat} {ps : List TfP} {m m' : Nat → Int} {T : Nat → Int} {i : Nat} {p p' : TfP}
theorem tf_get (hl : ps.length = n) (hi : i < n) {j : Nat} : (ps.set i p').getD j (tfK.idle 0) = if i = j then p' else ps.getD j (tfK.idle 0) := getDsetG (by omega)
/-- A place turns, no count does. -/
theorem TfIs.same (H : TfIs base n (b + 1) ps m U R W T) (hl : ps.length = n) (hi : i < n) (hp : ps.getD i (tfK.idle 0) = p) (ht : tfT p' = tfT p) (hd : tfD p' = tfD p) (ha : tfAt base U R W (T i) p') (e : m' 0 = m 0 ∧ m' 1 = m 1 ∧ m' 2 = m 2) : TfIs base n b (ps.set i p') m' U R W T := by
  have s1 := ws_set (f := tfT) (d := tfK.idle 0) (x := p') (l := ps) (i := i) (by omega)
  have s2 := ws_set (f := tfD) (d := tfK.idle 0) (x := p') (l := ps) (i := i) (by omega)
  rw [hp] at s1 s2
  have hT : ∀ j, tfT ((ps.set i p').getD j (tfK.idle 0)) = tfT (ps.getD j (tfK.idle 0)) := fun j => by
    rw [tf_get hl hi]
    split
    · rename_i e; subst e; rw [hp, ht]
    · rfl
  refine ⟨e.1.trans H.m0, e.2.1.trans H.m1, e.2.2.trans H.m2, H.lo, H.wr, H.ru, by have := H.hi; omega, by have := H.nt; omega, by have := H.nd; omega, fun j hj h => H.rng j hj (by rw [← hT]; exact h), fun j k hj hk hjk h1 h2 => H.inj j k hj hk hjk (by rw [← hT]; exact h1) (by rw [← hT]; exact h2), fun t h1 h2 => ?_, fun j hj => ?_⟩
  · obtain ⟨j, g1, g2, g3⟩ := H.sur t h1 h2
    exact ⟨j, g1, by rw [hT]; exact g2, g3⟩
  · rw [tf_get hl hi]
    split
    · rename_i e; subst e; exact ha
    · exact H.at_ j hj
/-- A ticket is taken. -/
theorem TfIs.take (H : TfIs base n (b + 1) ps m U R W T) (hl : ps.length = n) (hi : i < n) (hp : ps.getD i (tfK.idle 0) = p) (ht0 : tfT p = 0) (ht : tfT p' = 1) (hd : tfD p' = tfD p) (ha : tfAt base (U + 1) R W U p') (e : m' 0 = (U + 1) % 4294967296 ∧ m' 1 = m 1 ∧ m' 2 = m 2) : ∃ T', TfIs base n b (ps.set i p') m' (U + 1) R W T' := by
  have s1 := ws_set (f := tfT) (d := tfK.idle 0) (x := p') (l := ps) (i := i) (by omega)
  have s2 := ws_set (f := tfD) (d := tfK.idle 0) (x := p') (l := ps) (i := i) (by omega)
  rw [hp] at s1 s2
  have hru := H.ru
  refine ⟨fun j => if j = i then U else T j, e.1, e.2.1.trans H.m1, e.2.2.trans H.m2, H.lo, H.wr, by omega, by have := H.hi; omega, by have := H.nt; omega, by have := H.nd; omega, fun j hj h => ?_, fun j k hj hk hjk h1 h2 => ?_, fun t h1 h2 => ?_, fun j hj => ?_⟩
  · rw [tf_get hl hi] at h
    by_cases e : i = j
    · subst e; simp only [if_true]; omega
    · rw [if_neg e] at h
      simp only [if_neg (fun h : j = i => e h.symm)]
      have := H.rng j hj h
      omega
  · rw [tf_get hl hi] at h1 h2
    by_cases e1 : i = j
    · subst e1
      rw [if_neg hjk] at h2
      have := H.rng k hk h2
      simp only [if_true, if_neg (fun h : k = i => hjk h.symm)]
      omega
    · rw [if_neg e1] at h1
      by_cases e2 : i = k
      · subst e2
        have := H.rng j hj h1
        simp only [if_true, if_neg (fun h : j = i => e1 h.symm)]
        omega
      · rw [if_neg e2] at h2
        simp only [if_neg (fun h : j = i => e1 h.symm), if_neg (fun h : k = i => e2 h.symm)]
        exact H.inj j k hj hk hjk h1 h2
  · by_cases hu : t = U
    · exact ⟨i, hi, by rw [tf_get hl hi, if_pos rfl]; exact ht, by simp [hu]⟩
    · obtain ⟨j, g1, g2, g3⟩ := H.sur t h1 (by omega)
      have hji : ¬ i = j := by rintro rfl; rw [hp, ht0] at g2; omega
      exact ⟨j, g1, by rw [tf_get hl hi, if_neg hji]; exact g2, by simp only [if_neg (fun h : j = i => hji h.symm)]; exact g3⟩
  · rw [tf_get hl hi]
    by_cases e1 : i = j
    · subst e1; simp only [if_true]; exact ha
    · simp only [if_neg e1, if_neg (fun h : j = i => e1 h.symm)]
      have hj := H.at_ j hj
      generalize ps.getD j (tfK.idle 0) = q at hj
      cases q <;> first | exact hj | (obtain ⟨u, g1, g2, g3⟩ := hj; exact ⟨u, g1, by omega, g3⟩)
/-- The turn is given on. -/
theorem TfIs.turn (H : TfIs base n (b + 1) ps m U R W T) (hl : ps.length = n) (hi : i < n) (hp : ps.getD i (tfK.idle 0) = p) (ht0 : tfT p = 1) (hR : T i = R) (ht : tfT p' = 0) (hd : tfD p' = tfD p + 1) (ha : tfAt base U (R + 1) W (T i) p') (e : m' 0 = m 0 ∧ m' 1 = (R + 1) % 4294967296 ∧ m' 2 = m 2) : TfIs base n b (ps.set i p') m' U (R + 1) W T := by
  have s1 := ws_set (f := tfT) (d := tfK.idle 0) (x := p') (l := ps) (i := i) (by omega)
  have s2 := ws_set (f := tfD) (d := tfK.idle 0) (x := p') (l := ps) (i := i) (by omega)
  rw [hp] at s1 s2
  have hru := (H.rng i hi (by rw [hp]; exact ht0)).2
  refine ⟨e.1.trans H.m0, e.2.1, e.2.2.trans H.m2, H.lo, by have := H.wr; omega, by omega, by have := H.hi; omega, by have := H.nt; omega, by have := H.nd; omega, fun j hj h => ?_, fun j k hj hk hjk h1 h2 => ?_, fun t h1 h2 => ?_, fun j hj => ?_⟩
  · rw [tf_get hl hi] at h
    by_cases e : i = j
    · subst e; rw [if_pos rfl, ht] at h; omega
    · rw [if_neg e] at h
      have g1 := H.rng j hj h
      have g2 := H.inj i j hi hj e (by rw [hp]; exact ht0) h
      omega
  · rw [tf_get hl hi] at h1 h2
    have e1 : ¬ i = j := by rintro rfl; rw [if_pos rfl, ht] at h1; omega
    have e2 : ¬ i = k := by rintro rfl; rw [if_pos rfl, ht] at h2; omega
    rw [if_neg e1] at h1
    rw [if_neg e2] at h2
    exact H.inj j k hj hk hjk h1 h2
  · obtain ⟨j, g1, g2, g3⟩ := H.sur t (by omega) h2
    have hji : ¬ i = j := by rintro rfl; omega
    exact ⟨j, g1, by rw [tf_get hl hi, if_neg hji]; exact g2, g3⟩
  · rw [tf_get hl hi]
    by_cases e1 : i = j
    · subst e1; rw [if_pos rfl]; exact ha
    · rw [if_neg e1]
      have g2 := fun h => H.inj i j hi hj e1 (by rw [hp]; exact ht0) h
      have hj := H.at_ j hj
      generalize ps.getD j (tfK.idle 0) = q at hj g2
      cases q <;> simp only [tfAt, tfT] at hj g2 ⊢
      case idle h =>
        rcases hj with h1 | h1 | ⟨h1, h3, h4⟩
        · exact Or.inl h1
        · exact Or.inr (Or.inl h1)
        · exact absurd (hR.trans h3.symm) (g2 (by rw [if_pos h1]))
      all_goals first | exact hj | (exfalso; simp at g2; omega) | (obtain ⟨u, k1, k2, k3⟩ := hj; exact ⟨u, k1, k2, k3⟩) | (obtain ⟨u, k1, k2, k3, k4⟩ := hj; exact ⟨u, k1, k2, k3, by omega⟩)
/-- One who is inside goes. -/
theorem TfIs.goes (H : TfIs base n (b + 1) ps m U R W T) (hl : ps.length = n) (hi : i < n) (hp : ps.getD i (tfK.idle 0) = p) (ht : tfT p' = tfT p) (hd0 : tfD p = 1) (hd : tfD p' = 0) (ha : tfAt base U R (W + 1) (T i) p') (e : m' 0 = m 0 ∧ m' 1 = m 1 ∧ m' 2 = (W + 1) % 4294967296) : TfIs base n b (ps.set i p') m' U R (W + 1) T := by
  have s1 := ws_set (f := tfT) (d := tfK.idle 0) (x := p') (l := ps) (i := i) (by omega)
  have s2 := ws_set (f := tfD) (d := tfK.idle 0) (x := p') (l := ps) (i := i) (by omega)
  have s3 := ws_one (d := tfK.idle 0) tfD_01 (l := ps) (i := i) (by omega)
  rw [hp] at s1 s2 s3
  have hnd := H.nd
  have hT : ∀ j, tfT ((ps.set i p').getD j (tfK.idle 0)) = tfT (ps.getD j (tfK.idle 0)) := fun j => by
    rw [tf_get hl hi]
    split
    · rename_i e; subst e; rw [hp, ht]
    · rfl
  refine ⟨e.1.trans H.m0, e.2.1.trans H.m1, e.2.2, by have := H.lo; omega, by omega, H.ru, by have := H.hi; omega, by have := H.nt; omega, by omega, fun j hj h => H.rng j hj (by rw [← hT]; exact h), fun j k hj hk hjk h1 h2 => H.inj j k hj hk hjk (by rw [← hT]; exact h1) (by rw [← hT]; exact h2), fun t h1 h2 => ?_, fun j hj => ?_⟩
  · obtain ⟨j, g1, g2, g3⟩ := H.sur t h1 h2
    exact ⟨j, g1, by rw [hT]; exact g2, g3⟩
  · rw [tf_get hl hi]
    by_cases e1 : i = j
    · subst e1; rw [if_pos rfl]; exact ha
    · rw [if_neg e1]
      have s4 := ws_two (d := tfK.idle 0) tfD_01 (l := ps) (i := i) (j := j) (by omega) (by omega) e1
      rw [hp, hd0] at s4
      have hj := H.at_ j hj
      generalize ps.getD j (tfK.idle 0) = q at hj s4
      cases q <;> simp only [tfAt, tfD] at hj s4 ⊢
      case idle h =>
        rcases hj with h1 | h1 | ⟨h1, h3, h4⟩
        · exact Or.inl h1
        · exact Or.inr (Or.inl h1)
        · omega
      all_goals first | exact hj | (exfalso; omega) | (obtain ⟨u, k1, k2, k3⟩ := hj; exact ⟨u, k1, k2, k3⟩) | (obtain ⟨u, k1, k2, k3, k4⟩ := hj; exact ⟨u, k1, k2, k3, by omega⟩)
end

theorem ahead_is {x y : Int} (h : -1073741824 ≤ x - y ∧ x - y ≤ 1073741824) : aheadA (x % 4294967296) (y % 4294967296) = x - y := by
  unfold aheadA
  omega

theorem tf_wr (m : Nat → Int) (v : Int) : (written m (some (0, v)) 0 = v ∧ written m (some (0, v)) 1 = m 1 ∧ written m (some (0, v)) 2 = m 2) ∧ (written m (some (1, v)) 0 = m 0 ∧ written m (some (1, v)) 1 = v ∧ written m (some (1, v)) 2 = m 2) ∧ (written m (some (2, v)) 0 = m 0 ∧ written m (some (2, v)) 1 = m 1 ∧ written m (some (2, v)) 2 = v) := by
  simp [written, upd]
theorem tf_I {base : Int} {n b : Nat} {ps : List TfP} {m : Nat → Int} {U R W : Int} {T : Nat → Int} (h1 : n ≤ 64) (h2 : ps.length = n) (H : TfIs base n b ps m U R W T) : tfI base n b ps m := ⟨h1, h2, U, R, W, T, H⟩

set_option maxHeartbeats 3200000 in
theorem tf_keeps (base : Int) (n : Nat) : tfK.Keeps n (tfI base n) := by
  refine ⟨fun b ps m H => ?_, fun b ps m i _ _ _ => trivial, fun b ps m i op h H hi hl hp hm => ?_, fun b ps m i H hi hl hw hop => ?_, fun b ps m i c pr H hi hl hw hpr => ?_, fun b ps m i j c pr H hi hj hij hl hw hop hwj hpr => ?_⟩
  · obtain ⟨h1, h2, U, R, W, T, H⟩ := H
    exact ⟨h1, h2, U, R, W, T, H.m0, H.m1, H.m2, H.lo, H.wr, H.ru, by have := H.hi; omega, H.nt, H.nd, H.rng, H.inj, H.sur, H.at_⟩
  · obtain ⟨h1, h2, U, R, W, T, H⟩ := H
    have ha := H.at_ i hi
    rw [hp] at ha
    have ha : h = 0 ∨ h = 1 ∨ (h = 2 ∧ T i = R ∧ W = R) := ha
    have key : tfT (tfK.start op h) = tfT (tfK.idle h) ∧ tfD (tfK.start op h) = tfD (tfK.idle h) ∧ tfAt base U R W (T i) (tfK.start op h) := by
      rcases may_ops hm with ⟨rfl, rfl | rfl | rfl | rfl⟩ | ⟨rfl, rfl | rfl⟩ | ⟨g1, g2, rfl | rfl⟩ <;> simp [tfK, tfStart, tfT, tfD, tfAt] <;> omega
    exact tf_I h1 (by simpa using h2) (H.same hl hi hp key.1 key.2.1 key.2.2 ⟨rfl, rfl, rfl⟩)
  · obtain ⟨h1, h2, U, R, W, T, H⟩ := H
    have ha := H.at_ i hi
    have hrg := H.rng i hi
    have hact : tfK.act i (ps.getD i (tfK.idle 0)) m = tfAct (m 0) (m 1) (m 2) (ps.getD i (tfK.idle 0)) := rfl
    rw [hact]
    obtain ⟨p, hp⟩ : ∃ p, ps.getD i (tfK.idle 0) = p := ⟨_, rfl⟩
    rw [hp] at ha hrg hw hop ⊢
    have hl2 : ∀ q, (ps.set i q).length = n := fun q => by simpa using h2
    have m0 := H.m0
    have m1 := H.m1
    have m2 := H.m2
    have lo := H.lo
    have wr := H.wr
    have ru := H.ru
    have hhi := H.hi
    have nd := H.nd
    have d1 := ws_one (d := tfK.idle 0) tfD_01 (l := ps) (i := i) (by omega)
    rw [hp] at d1
    have w0 := fun v => (tf_wr m v).1
    have w1 := fun v => (tf_wr m v).2.1
    have w2 := fun v => (tf_wr m v).2.2
    have nowr : ∀ q, tfT q = tfT p → tfD q = tfD p → tfAt base U R W (T i) q → tfI base n b (ps.set i q) m := fun q g1 g2 g3 => tf_I h1 (hl2 q) (H.same hl hi hp g1 g2 g3 ⟨rfl, rfl, rfl⟩)
    have taken : ∀ q v, v = (U + 1) % 4294967296 → tfT p = 0 → tfT q = 1 → tfD q = tfD p → tfAt base (U + 1) R W U q → tfI base n b (ps.set i q) (written m (some (0, v))) := fun q v g0 g1 g2 g3 g4 => by
      obtain ⟨T', H'⟩ := H.take hl hi hp g1 g2 g3 g4 (m' := written m (some (0, v))) (by obtain ⟨k0, k1, k2⟩ := w0 v; exact ⟨k0.trans g0, k1, k2⟩)
      exact tf_I h1 (hl2 q) H'
    have turned : ∀ q v, v = (R + 1) % 4294967296 → tfT p = 1 → T i = R → tfT q = 0 → tfD q = tfD p + 1 → tfAt base U (R + 1) W (T i) q → tfI base n b (ps.set i q) (written m (some (1, v))) := fun q v g0 g1 g2 g3 g4 g5 =>
      tf_I h1 (hl2 q) (H.turn hl hi hp g1 g2 g3 g4 g5 (by obtain ⟨k0, k1, k2⟩ := w1 v; exact ⟨k0, k1.trans g0, k2⟩))
    have gone : ∀ q v, v = (W + 1) % 4294967296 → tfT q = tfT p → tfD p = 1 → tfD q = 0 → tfAt base U R (W + 1) (T i) q → tfI base n b (ps.set i q) (written m (some (2, v))) := fun q v g0 g1 g2 g3 g4 =>
      tf_I h1 (hl2 q) (H.goes hl hi hp g1 g2 g3 g4 (by obtain ⟨k0, k1, k2⟩ := w2 v; exact ⟨k0, k1, k2.trans g0⟩))
    have e0 : (m 0 + 1) % 4294967296 = (U + 1) % 4294967296 := by rw [m0]; omega
    have e1 : (m 1 + 1) % 4294967296 = (R + 1) % 4294967296 := by rw [m1]; omega
    have e2 : (m 2 + 1) % 4294967296 = (W + 1) % 4294967296 := by rw [m2]; omega
    cases p <;> simp [tfK, tfWait] at hw <;> simp [tfK, tfConc, tfFr, Fr.zero] at hop <;> simp only [tfAt] at ha <;> simp only [tfT] at hrg <;> simp only [tfD] at d1 <;> simp only [tfAct]
    case r0 => exact taken _ _ e0 rfl rfl rfl m0
    case r2 a => exact turned _ _ e1 rfl ha rfl rfl (Or.inr (Or.inl rfl))
    case u0 => exact gone _ _ e2 rfl rfl rfl (Or.inl rfl)
    case l0 => exact taken _ _ e0 rfl rfl rfl m0
    case v0 => exact turned _ _ e1 rfl ha.1 rfl rfl trivial
    case v1 => exact gone _ _ e2 rfl rfl rfl (Or.inl rfl)
    case d0 => exact turned _ _ e1 rfl ha.1 rfl rfl (Or.inr (Or.inl rfl))
    case q0 a b' => exact nowr _ rfl rfl ⟨U, by omega, by omega, m0⟩
    case y0 a b' => exact nowr _ rfl rfl ⟨U, by omega, by omega, m0⟩
    case z0 a b' => exact nowr _ rfl rfl ⟨U, by omega, by omega, m0⟩
    case q1 a b' =>
      obtain ⟨u, u1, u2, u3⟩ := ha
      have hah : aheadA a (m 1) = u - R := by rw [u3, m1]; exact ahead_is (by omega)
      rw [hah]
      split
      · exact nowr _ rfl rfl (Or.inl rfl)
      split
      · exact nowr _ rfl rfl trivial
      · exact nowr _ rfl rfl ⟨u, u1, u2, u3, by omega⟩
    case y1 a b' =>
      obtain ⟨u, u1, u2, u3⟩ := ha
      have hah : aheadA a (m 2) = u - W := by rw [u3, m2]; exact ahead_is (by omega)
      rw [hah]
      split
      · exact nowr _ rfl rfl (Or.inl rfl)
      split
      · exact nowr _ rfl rfl trivial
      · exact nowr _ rfl rfl ⟨u, u1, u2, u3, by omega⟩
    case z1 a b' =>
      obtain ⟨u, u1, u2, u3⟩ := ha
      have hah : aheadA a (m 2) = u - W := by rw [u3, m2]; exact ahead_is (by omega)
      rw [hah]
      split
      · exact nowr _ rfl rfl (Or.inr (Or.inl rfl))
      split
      · exact nowr _ rfl rfl trivial
      · exact nowr _ rfl rfl ⟨u, u1, u2, u3, by omega⟩
    case q2 a b' =>
      obtain ⟨u, u1, u2, u3, u4⟩ := ha
      by_cases hq : m 0 = a
      · rw [if_pos hq]
        have hU : U = u := by omega
        exact taken _ _ (by rw [← hq]; exact e0) rfl rfl rfl (show U = R by omega)
      · rw [if_neg hq]
        exact nowr _ rfl rfl trivial
    case y2 a b' =>
      obtain ⟨u, u1, u2, u3, u4⟩ := ha
      by_cases hq : m 0 = a
      · rw [if_pos hq]
        have hU : U = u := by omega
        exact taken _ _ (by rw [← hq]; exact e0) rfl rfl rfl (Or.inr (Or.inr ⟨rfl, by omega, by omega⟩))
      · rw [if_neg hq]
        exact nowr _ rfl rfl trivial
    case z2 a b' =>
      obtain ⟨u, u1, u2, u3, u4⟩ := ha
      by_cases hq : m 0 = a
      · rw [if_pos hq]
        have hU : U = u := by omega
        exact taken _ _ (by rw [← hq]; exact e0) rfl rfl rfl (show U = R ∧ W = R - 1 by omega)
      · rw [if_neg hq]
        exact nowr _ rfl rfl trivial
    case q3 a b' => exact turned _ _ e1 rfl ha rfl rfl (Or.inr (Or.inl rfl))
    case z3 a b' => exact gone _ _ e2 rfl rfl rfl (Or.inr (Or.inr ⟨rfl, ha.1, by omega⟩))
  · obtain ⟨h1, h2, U, R, W, T, H⟩ := H
    have ha := H.at_ i hi
    have hrg := H.rng i hi
    have hpost : tfK.post (ps.getD i (tfK.idle 0)) (m c) = tfPost (ps.getD i (tfK.idle 0)) := rfl
    rw [hpost]
    obtain ⟨p, hp⟩ : ∃ p, ps.getD i (tfK.idle 0) = p := ⟨_, rfl⟩
    rw [hp] at ha hrg hw ⊢
    have m1 := H.m1
    have m2 := H.m2
    have lo := H.lo
    have wr := H.wr
    have ru := H.ru
    have hhi := H.hi
    cases p <;> simp [tfK, tfWait] at hw <;> simp only [tfAt] at ha <;> simp only [tfT] at hrg
    case r1 a =>
      obtain ⟨rfl, rfl⟩ := hw
      have hq : m 1 = a := by simpa using hpr
      have hr := hrg trivial
      exact tf_I h1 (by simpa using h2) (H.same hl hi hp rfl rfl (show T i = R by omega) ⟨rfl, rfl, rfl⟩)
    case l1 a =>
      obtain ⟨rfl, rfl⟩ := hw
      have hq : m 2 = a := by simpa using hpr
      have hr := hrg trivial
      exact tf_I h1 (by simpa using h2) (H.same hl hi hp rfl rfl (Or.inr (Or.inr ⟨rfl, by omega, by omega⟩)) ⟨rfl, rfl, rfl⟩)
  · obtain ⟨h1, h2, U, R, W, T, H⟩ := H
    have hact : tfK.act i (ps.getD i (tfK.idle 0)) m = tfAct (m 0) (m 1) (m 2) (ps.getD i (tfK.idle 0)) := rfl
    rw [hact] at hpr ⊢
    have hai := H.at_ i hi
    have haj := H.at_ j hj
    have hin := H.inj i j hi hj hij
    have hrj := H.rng j hj
    obtain ⟨p, hp⟩ : ∃ p, ps.getD i (tfK.idle 0) = p := ⟨_, rfl⟩
    obtain ⟨q, hq⟩ : ∃ q, ps.getD j (tfK.idle 0) = q := ⟨_, rfl⟩
    rw [hp] at hai hin hw hop hpr ⊢
    rw [hq] at haj hin hrj hwj
    have w0 := fun v => (tf_wr m v).1
    have w1 := fun v => (tf_wr m v).2.1
    have w2 := fun v => (tf_wr m v).2.2
    have m2 := H.m2
    have lo := H.lo
    have wr := H.wr
    have ru := H.ru
    have hhi := H.hi
    have hc : (c = 1 ∧ ∃ a, q = .r1 a ∧ pr = (fun v => v == a)) ∨ (c = 2 ∧ ∃ a, q = .l1 a ∧ pr = (fun v => v == a)) := by
      cases q <;> simp [tfK, tfWait] at hwj
      case r1 a => exact Or.inl ⟨hwj.1.symm, a, rfl, hwj.2.symm⟩
      case l1 a => exact Or.inr ⟨hwj.1.symm, a, rfl, hwj.2.symm⟩
    have keep : ∀ w, (tfAct (m 0) (m 1) (m 2) p).2.1 = w → written m w c = m c → pr (m c) = true ∨ (tfAct (m 0) (m 1) (m 2) p).2.2 = some c := fun w g1 g2 => Or.inl (by rw [← g2, ← g1]; exact hpr)
    have other : ∀ c0 v, (tfAct (m 0) (m 1) (m 2) p).2.1 = some (c0, v) → c ≠ c0 → pr (m c) = true ∨ (tfAct (m 0) (m 1) (m 2) p).2.2 = some c := fun c0 v g1 g2 => keep _ g1 (by simp [written, upd, g2])
    cases p <;> simp [tfK, tfWait] at hw <;> simp [tfK, tfConc, tfFr, Fr.zero] at hop <;> simp only [tfAt] at hai
    case r0 => exact other 0 _ rfl (by omega)
    case l0 => exact other 0 _ rfl (by omega)
    case r2 a => rcases hc with ⟨rfl, _⟩ | ⟨rfl, _⟩; exact Or.inr rfl; exact other 1 _ rfl (by decide)
    case v0 => rcases hc with ⟨rfl, _⟩ | ⟨rfl, _⟩; exact Or.inr rfl; exact other 1 _ rfl (by decide)
    case d0 => rcases hc with ⟨rfl, _⟩ | ⟨rfl, _⟩; exact Or.inr rfl; exact other 1 _ rfl (by decide)
    case q3 a b' => rcases hc with ⟨rfl, _⟩ | ⟨rfl, _⟩; exact Or.inr rfl; exact other 1 _ rfl (by decide)
    case u0 => rcases hc with ⟨rfl, _⟩ | ⟨rfl, _⟩; exact other 2 _ rfl (by decide); exact Or.inr rfl
    case v1 => rcases hc with ⟨rfl, _⟩ | ⟨rfl, _⟩; exact other 2 _ rfl (by decide); exact Or.inr rfl
    case q0 a b' => exact keep none rfl rfl
    case y0 a b' => exact keep none rfl rfl
    case z0 a b' => exact keep none rfl rfl
    case q1 a b' => exact keep none rfl rfl
    case y1 a b' => exact keep none rfl rfl
    case z1 a b' => exact keep none rfl rfl
    case q2 a b' =>
      by_cases hq : m 0 = a
      · exact other 0 _ (by simp only [tfAct, if_pos hq]; rfl) (by omega)
      · exact keep none (by simp only [tfAct, if_neg hq]) rfl
    case y2 a b' =>
      by_cases hq : m 0 = a
      · exact other 0 _ (by simp only [tfAct, if_pos hq]; rfl) (by omega)
      · exact keep none (by simp only [tfAct, if_neg hq]) rfl
    case z2 a b' =>
      by_cases hq : m 0 = a
      · exact other 0 _ (by simp only [tfAct, if_pos hq]; rfl) (by omega)
      · exact keep none (by simp only [tfAct, if_neg hq]) rfl
    case z3 a b' =>
      rcases hc with ⟨rfl, _⟩ | ⟨rfl, a', rfl, rfl⟩
      · exact other 2 _ rfl (by decide)
      · exfalso
        simp only [tfAct, (w2 _).2.2] at hpr
        have hv : (m 2 + 1) % 4294967296 = a' := by simpa using hpr
        simp only [tfT, tfAt] at hin hrj haj
        have g1 := hin trivial trivial
        have g2 := hrj trivial
        omega

/-- How many writes are left; how many that wake; how many steps while no word changes. -/
def tfNw : TfP → Nat
  | .idle h => if h = 0 then 0 else if h = 1 then 1 else 2
  | .r0 => 3
  | .l0 => 3
  | .q0 _ _ => 3
  | .q1 _ _ => 3
  | .q2 _ _ => 3
  | .y0 _ _ => 3
  | .y1 _ _ => 3
  | .y2 _ _ => 3
  | .z3 _ _ => 3
  | .r1 _ => 2
  | .r2 _ => 2
  | .l1 _ => 2
  | .v0 => 2
  | .d0 => 2
  | .q3 _ _ => 2
  | .u0 => 1
  | .v1 => 1
  | _ => 4
def tfNv : TfP → Nat
  | .idle h => if h = 0 then 0 else if h = 1 then 1 else 2
  | .u0 => 1
  | .v1 => 1
  | _ => 2
def tfCp (x0 x1 x2 : Int) : TfP → Nat
  | .idle h => if h = 0 then 0 else 1
  | .r1 a => if x1 = a then 2 else 5
  | .l1 a => if x2 = a then 2 else 5
  | .q0 _ _ => 3
  | .q1 a _ => if x0 = a then 2 else 5
  | .q2 a _ => if x0 = a then 1 else 4
  | .y0 _ _ => 3
  | .y1 a _ => if x0 = a then 2 else 5
  | .y2 a _ => if x0 = a then 1 else 4
  | .z0 _ _ => 3
  | .z1 a _ => if x0 = a then 2 else 5
  | .z2 a _ => if x0 = a then 1 else 4
  | _ => 1

set_option maxHeartbeats 1600000 in
theorem tf_live (base : Int) (n : Nat) : tfK.Live n (tfI base n) 4 2 7 tfNw tfNv (fun m _ p => tfCp (m 0) (m 1) (m 2) p) := by
  refine ⟨fun p => by cases p <;> simp [tfNw] <;> (repeat' split) <;> omega, fun p => by cases p <;> simp [tfNv] <;> (repeat' split) <;> omega, by decide, fun m t p => by cases p <;> simp [tfCp] <;> split <;> omega, fun m t p c pr hw hpr => ?_, fun m t p c pr hw hpr => ?_, fun t p c pr v hw => ?_,
    fun m t p w hw hop he => ?_, fun b ps m t p hI hpl ht hpt hw hop he => ?_, fun m t h hh => ?_, fun m t => rfl, fun m t p hw hz => ?_, fun b ps m H hl hall => ?_⟩
  · cases p <;> simp [tfK, tfWait] at hw
    · obtain ⟨rfl, rfl⟩ := hw
      simp at hpr
      simp [tfK, tfPost, tfCp, hpr]
    · obtain ⟨rfl, rfl⟩ := hw
      simp at hpr
      simp [tfK, tfPost, tfCp, hpr]
  · cases p <;> simp [tfK, tfWait] at hw
    · obtain ⟨rfl, rfl⟩ := hw
      simp at hpr
      simp [tfCp, hpr]
    · obtain ⟨rfl, rfl⟩ := hw
      simp at hpr
      simp [tfCp, hpr]
  · cases p <;> simp [tfK, tfWait] at hw <;> simp [tfK, tfPost, tfNw, tfNv]
  · have hact : tfK.act t p m = tfAct (m 0) (m 1) (m 2) p := rfl
    rw [hact] at he ⊢
    cases p <;> simp [tfK, tfWait] at hw <;> simp [tfK, tfConc, tfFr, Fr.zero] at hop
    case q2 a b => by_cases hq : m 0 = a <;> simp [tfAct, hq] at he <;> simp [tfAct, tfNw, tfNv, hq]
    case y2 a b => by_cases hq : m 0 = a <;> simp [tfAct, hq] at he <;> simp [tfAct, tfNw, tfNv, hq]
    case z2 a b => by_cases hq : m 0 = a <;> simp [tfAct, hq] at he <;> simp [tfAct, tfNw, tfNv, hq]
    all_goals first | (simp [tfAct] at he; done) | simp [tfAct, tfNw, tfNv]
  · have hact : tfK.act t p m = tfAct (m 0) (m 1) (m 2) p := rfl
    rw [hact] at he ⊢
    show _ ∧ _ ∧ _ ∧ tfCp (m 0) (m 1) (m 2) (tfAct (m 0) (m 1) (m 2) p).1 + 1 ≤ tfCp (m 0) (m 1) (m 2) p
    obtain ⟨h1, h2, U, R, W, T, H⟩ := hI
    have m0 := H.m0
    have m1 := H.m1
    have m2 := H.m2
    have lo := H.lo
    have wr := H.wr
    have ru := H.ru
    have hhi := H.hi
    have nd := H.nd
    have d1 := ws_one (d := tfK.idle 0) tfD_01 (l := ps) (i := t) (by omega)
    rw [hpt] at d1
    clear hpt H hact
    cases p <;> simp [tfK, tfWait] at hw <;> simp [tfK, tfConc, tfFr, Fr.zero] at hop <;> simp only [tfD] at d1
    case q0 a b => simp [tfAct, tfNw, tfNv, tfCp]
    case y0 a b => simp [tfAct, tfNw, tfNv, tfCp]
    case z0 a b => simp [tfAct, tfNw, tfNv, tfCp]
    case q1 a b =>
      by_cases hq : m 0 = a
      · have hah : aheadA a (m 1) = U - R := by rw [← hq, m0, m1]; exact ahead_is (by omega)
        simp only [tfAct, hah]
        split
        · simp [tfNw, tfNv, tfCp, hq]
        split
        · omega
        · simp [tfNw, tfNv, tfCp, hq]
      · simp only [tfAct]
        (repeat' split) <;> simp [tfNw, tfNv, tfCp, hq]
    case y1 a b =>
      by_cases hq : m 0 = a
      · have hah : aheadA a (m 2) = U - W := by rw [← hq, m0, m2]; exact ahead_is (by omega)
        simp only [tfAct, hah]
        split
        · simp [tfNw, tfNv, tfCp, hq]
        split
        · omega
        · simp [tfNw, tfNv, tfCp, hq]
      · simp only [tfAct]
        (repeat' split) <;> simp [tfNw, tfNv, tfCp, hq]
    case z1 a b =>
      by_cases hq : m 0 = a
      · have hah : aheadA a (m 2) = U - W := by rw [← hq, m0, m2]; exact ahead_is (by omega)
        simp only [tfAct, hah]
        split
        · simp [tfNw, tfNv, tfCp, hq]
        split
        · omega
        · simp [tfNw, tfNv, tfCp, hq]
      · simp only [tfAct]
        (repeat' split) <;> simp [tfNw, tfNv, tfCp, hq]
    case q2 a b => by_cases hq : m 0 = a <;> simp [tfAct, hq] at he <;> simp [tfAct, tfNw, tfNv, tfCp, hq]
    case y2 a b => by_cases hq : m 0 = a <;> simp [tfAct, hq] at he <;> simp [tfAct, tfNw, tfNv, tfCp, hq]
    case z2 a b => by_cases hq : m 0 = a <;> simp [tfAct, hq] at he <;> simp [tfAct, tfNw, tfNv, tfCp, hq]
    all_goals (simp [tfAct] at he)
  · rcases hh with rfl | rfl <;> simp [tfK, tfStart, tfNw, tfNv, tfCp]
  · cases p <;> simp [tfK, tfWait] at hw <;> simp [tfCp] at hz
    · subst hz; rfl
    all_goals (split at hz <;> simp at hz)
  · obtain ⟨h1, h2, U, R, W, T, H⟩ := H
    have hd0 : ws tfD ps = 0 := by
      refine ws_all0 (d := tfK.idle 0) hl (fun i hi => ?_)
      rcases hall i hi with h | ⟨c, pr, hw, _⟩
      · rw [h]; rfl
      · generalize ps.getD i (tfK.idle 0) = p at hw ⊢
        cases p <;> simp [tfK, tfWait] at hw <;> rfl
    intro i hi
    rcases hall i hi with h | ⟨c, pr, hw, hpr⟩
    · exact h
    · exfalso
      have hti : tfT (ps.getD i (tfK.idle 0)) = 1 := by
        generalize ps.getD i (tfK.idle 0) = p at hw ⊢
        cases p <;> simp [tfK, tfWait] at hw <;> rfl
      have hr := H.rng i hi hti
      obtain ⟨j, hj, g2, g3⟩ := H.sur R (Int.le_refl _) (by omega)
      have haj := H.at_ j hj
      have nd := H.nd
      have m1 := H.m1
      have m2 := H.m2
      rcases hall j hj with h | ⟨c, pr, hw, hpr⟩
      · rw [h] at g2; revert g2; decide
      · generalize ps.getD j (tfK.idle 0) = p at hw haj
        cases p <;> simp [tfK, tfWait] at hw <;> simp only [tfAt] at haj
        · obtain ⟨rfl, rfl⟩ := hw
          simp at hpr
          exact hpr (by rw [m1, haj, g3])
        · obtain ⟨rfl, rfl⟩ := hw
          simp at hpr
          exact hpr (by rw [m2, haj, g3]; congr 1; omega)

theorem tf_all (base : Int) (n : Nat) (mode : Int) : tfK.All n mode (tfI base n) 4 2 7 tfNw tfNv (fun m _ p => tfCp (m 0) (m 1) (m 2) p) := by
  refine ⟨tf_good n mode, tf_keeps base n, tf_live base n, fun b ps m i h H hi hl hp => ?_, fun b ps m i j H hl hi hj hji hp => ?_, fun t h => rfl⟩
  · obtain ⟨h1, h2, U, R, W, T, H⟩ := H
    have := H.at_ i hi
    rw [hp] at this
    have this : h = 0 ∨ h = 1 ∨ (h = 2 ∧ T i = R ∧ W = R) := this
    omega
  · obtain ⟨h1, h2, U, R, W, T, H⟩ := H
    have hai := H.at_ i hi
    have haj := H.at_ j hj
    have hin := H.inj i j hi hj (fun h => hji h.symm)
    have nd := H.nd
    have d1 := ws_one (d := tfK.idle 0) tfD_01 (l := ps) (i := j) (by omega)
    rw [hp] at hai hin
    have hai : (2 : Int) = 0 ∨ (2 : Int) = 1 ∨ ((2 : Int) = 2 ∧ T i = R ∧ W = R) := hai
    have e2 : tfT (tfK.idle 2) = 1 := rfl
    have hin := hin e2
    generalize ps.getD j (tfK.idle 0) = p at haj hin d1
    cases p <;> simp only [tfAt, tfT, tfD] at haj hin d1 <;> first | rfl | skip
    case idle h =>
      show h = 0
      rcases haj with rfl | rfl | ⟨rfl, h3, h4⟩
      · rfl
      · simp at d1; omega
      · simp at hin; omega
    case d0 => have := hin trivial; omega
    all_goals omega

/-- ONE WRITES, OR MANY READ. -/
theorem tf_excludes (k : Nat) (d base : Int) (h1 : 1 ≤ k) (h2 : k ≤ 6) (hd : d = 1 ∨ d = 2) (hb : 0 ≤ base ∧ base < 4294967296) (l : List (Int × Int)) (hlen : l.length ≤ 500) : ExcludesOk tfA k (Mt.start k d (own1 base ++ List.replicate ((8 + 4 * (k : Int)).toNat - 3) 0)) l := by
  have hfit : k * ((7 + 1) * 4 + 2 * k * 2) + 2 * k + 7 < 2 * k * (8 * k + 40) ∧ 2 * k * (2 * k * (8 * k + 40)) ≤ 100000 := by
    rcases (show k = 1 ∨ k = 2 ∨ k = 3 ∨ k = 4 ∨ k = 5 ∨ k = 6 by omega) with rfl | rfl | rfl | rfl | rfl | rfl <;> decide
  refine excludes_ok (K := tfK) (tf_all base k d) h1 (by omega) hd hfit.1 rfl l (start_MI (tf_all base k d) _ (by simp [own1]; omega) ?_)
  have hr : ∀ i, (List.replicate k (tfK.idle 0)).getD i (tfK.idle 0) = tfK.idle 0 := fun i => by
    rw [List.getD_eq_getElem?_getD, List.getElem?_replicate]; split <;> rfl
  refine ⟨by omega, by simp, base, base, base, fun _ => 0, ?_, ?_, ?_, by omega, by omega, by omega, by omega, ?_, ?_, fun i _ h => ?_, fun i j _ _ _ h => ?_, fun t g1 g2 => by omega, fun i _ => ?_⟩
  · simp [mainOf, own1]; omega
  · simp [mainOf, own1]; omega
  · simp [mainOf, own1]; omega
  · rw [ws_replicate (f := tfT) rfl]; omega
  · rw [ws_replicate (f := tfD) rfl]; omega
  · rw [hr, show tfT (tfK.idle 0) = 0 from rfl] at h; exact absurd h (by decide)
  · rw [hr, show tfT (tfK.idle 0) = 0 from rfl] at h; exact absurd h (by decide)
  · rw [hr]; exact Or.inl rfl

end Go.Proofs.Ytdffdppkdbbdoaa.Z

/- Law 10: the statement TfExcludes. Written by genmat.py. -/
set_option linter.unusedVariables false
set_option linter.unusedSimpArgs false
namespace Go.Proofs.Ytdffdppkdbbdoaa.Z
open Go.RowKit

theorem tfExcludes_any {B : Option Addr} {m d : Nat} {l : List (Int × Int)} (n mode base : Int) (w : World) (hn : 0 ≤ n ∧ n < 256) (hm : 0 ≤ mode ∧ mode < 256) (hb : 0 ≤ base ∧ base < 4294967296) (hB : Rd w 2 B m (l.flatMap turnDec)) (hl : ∀ x, x ∈ l → (0 ≤ x.1 ∧ x.1 < 256) ∧ (0 ≤ x.2 ∧ x.2 < 256)) :
    Calls Try.prog 11 #[.int .u8 n, .int .u8 mode, .int .u32 base, .slice B m d] w fun e w' => e = .returned (.bool true) ∧ Touch [] w w' := by
  by_cases h5 : m ≤ 500
  · exact tf_excludes_some n mode base l w hn hm hb hB hl h5 (fun k hk => tf_excludes k (1 + mode % 2) base (by omega) (by omega) (by omega) hb l (by rw [turn_len hB]; exact h5))
  · exact tf_excludes_long n mode base w hn hm hb (by omega)

end Go.Proofs.Ytdffdppkdbbdoaa.Z
