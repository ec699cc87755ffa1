/- 4 texts of this claim, joined: what each shows stands at its own head. -/
import Derived.Test.YtmbbcgkfankiaaaZM03PfExcludes
import Derived.Test.YtmbbcgkfankiaaaZM00PfExcludes
import Derived.Test.YtmbbcgkfankiaaaZM02PfExcludes
/- Sums over places; accesses to the words that are no watches. No lock in sight. -/
set_option linter.unusedVariables false
set_option linter.unusedSimpArgs false
namespace Go.Proofs.Ytmbbcgkfankiaaa.Z
open Go.RowKit

section
variable {P : Type}
def ws (f : P → Int) : List P → Int
  | [] => 0
  | x :: l => f x + ws f l
theorem ws_set {f : P → Int} {d x : P} : ∀ {l : List P} {i : Nat}, i < l.length → ws f (l.set i x) = ws f l - f (l.getD i d) + f x
  | [], i, h => by simp at h
  | y :: l, 0, _ => by simp [ws]; omega
  | y :: l, i + 1, h => by
    have := ws_set (f := f) (d := d) (x := x) (l := l) (i := i) (by simpa using h)
    simp [ws] at this ⊢
    omega
theorem ws_nonneg {f : P → Int} (h : ∀ x, 0 ≤ f x) : ∀ l : List P, 0 ≤ ws f l
  | [] => Int.le_refl _
  | x :: l => by have := ws_nonneg h l; have := h x; simp [ws]; omega
theorem ws_le {f g : P → Int} (h : ∀ x, f x ≤ g x) : ∀ l : List P, ws f l ≤ ws g l
  | [] => Int.le_refl _
  | x :: l => by have := ws_le h l; have := h x; simp [ws]; omega
theorem ws_len {f : P → Int} (h : ∀ x, f x ≤ 1) : ∀ l : List P, ws f l ≤ l.length
  | [] => by simp [ws]
  | x :: l => by have := ws_len h l; have := h x; simp [ws]; omega
theorem ws_one {f : P → Int} {d : P} (h : ∀ x, 0 ≤ f x) : ∀ {l : List P} {i : Nat}, i < l.length → f (l.getD i d) ≤ ws f l
  | [], i, hi => by simp at hi
  | x :: l, 0, _ => by have := ws_nonneg h l; simp [ws]; omega
  | x :: l, i + 1, hi => by
    have := ws_one h (l := l) (i := i) (d := d) (by simpa using hi)
    have := h x
    simp [ws] at *
    omega
theorem ws_two {f : P → Int} {d : P} (h : ∀ x, 0 ≤ f x) {l : List P} {i j : Nat} (hi : i < l.length) (hj : j < l.length) (hij : i ≠ j) : f (l.getD i d) + f (l.getD j d) ≤ ws f l := by
  have h3 : ∀ {l : List P} {i j : Nat}, i < l.length → j < l.length → i ≠ j → f (l.getD i d) + f (l.getD j d) ≤ ws f l := by
    intro l
    induction l with
    | nil => intro i j hi _ _; simp at hi
    | cons x l ih =>
      intro i j hi hj hij
      cases i with
      | zero =>
        cases j with
        | zero => exact absurd rfl hij
        | succ j =>
          have := ws_one (d := d) h (l := l) (i := j) (by simpa using hj)
          simp [ws] at *
          omega
      | succ i =>
        cases j with
        | zero =>
          have := ws_one (d := d) h (l := l) (i := i) (by simpa using hi)
          simp [ws] at *
          omega
        | succ j =>
          have := ih (i := i) (j := j) (by simpa using hi) (by simpa using hj) (by omega)
          have := h x
          simp [ws] at *
          omega
  exact h3 hi hj hij
theorem ws_zero {f : P → Int} {l : List P} (h : ∀ x, x ∈ l → f x = 0) : ws f l = 0 := by
  induction l with
  | nil => rfl
  | cons x l ih => simp [ws, h x (by simp), ih (fun y hy => h y (List.mem_cons_of_mem _ hy))]
theorem ws_replicate {f : P → Int} {n : Nat} {x : P} (h : f x = 0) : ws f (List.replicate n x) = 0 := ws_zero (fun y hy => by rw [(List.mem_replicate.1 hy).2, h])
theorem ws_all0 {f : P → Int} {d : P} {l : List P} {n : Nat} (hl : l.length = n) (h : ∀ i, i < n → f (l.getD i d) = 0) : ws f l = 0 := by
  refine ws_zero (fun y hy => ?_)
  obtain ⟨i, hi, rfl⟩ := List.getElem_of_mem hy
  have := h i (by omega)
  simpa [List.getD, hi] using this
/-- A thing that one has, somebody has. -/
theorem ws_some {f : P → Int} {d : P} {l : List P} {n : Nat} (hl : l.length = n) (h : ws f l ≠ 0) : ∃ i, i < n ∧ f (l.getD i d) ≠ 0 := by
  rcases Classical.em (∃ i, i < n ∧ f (l.getD i d) ≠ 0) with h1 | h1
  · exact h1
  · exfalso
    refine h (ws_all0 (d := d) hl (fun i hi => ?_))
    rcases Decidable.em (f (l.getD i d) = 0) with h2 | h2
    · exact h2
    · exact absurd ⟨i, hi, h2⟩ h1
end

section
variable {n : Nat} {L : List Int} {c x y : Int}
theorem at_ld (hl : L.length = 8 + 4 * n) (h0 : 0 ≤ c) (hc : c.toNat < 8 + 2 * n) : doA L ⟨1, c, 0, 0, 0⟩ = (⟨1, c, 0, 0, mainOf n L c.toNat⟩, true, L) := by
  rw [doA_at (by omega)]
  simp [mainOf, hc]
theorem at_ad (hl : L.length = 8 + 4 * n) (h0 : 0 ≤ c) (hc : c.toNat < 8 + 2 * n) : doA L ⟨3, c, x, 0, 0⟩ = (⟨3, c, x, 0, mainOf n L c.toNat⟩, true, L.set c.toNat ((mainOf n L c.toNat + x) % 4294967296)) := by
  rw [doA_at (by omega)]
  simp [mainOf, hc]
theorem at_st (hl : L.length = 8 + 4 * n) (h0 : 0 ≤ c) (hc : c.toNat < 8 + 2 * n) : doA L ⟨2, c, x, 0, 0⟩ = (⟨2, c, x, 0, mainOf n L c.toNat⟩, true, L.set c.toNat x) := by
  rw [doA_at (by omega)]
  simp [mainOf, hc]
theorem at_sw (hl : L.length = 8 + 4 * n) (h0 : 0 ≤ c) (hc : c.toNat < 8 + 2 * n) : doA L ⟨4, c, x, 0, 0⟩ = (⟨4, c, x, 0, mainOf n L c.toNat⟩, true, L.set c.toNat x) := by
  rw [doA_at (by omega)]
  simp [mainOf, hc]
theorem at_cas (hl : L.length = 8 + 4 * n) (h0 : 0 ≤ c) (hc : c.toNat < 8 + 2 * n) : doA L ⟨5, c, x, y, 0⟩ = (⟨5, c, x, y, mainOf n L c.toNat⟩, true, if mainOf n L c.toNat = x then L.set c.toNat y else L) := by
  rw [doA_at (by omega)]
  simp [mainOf, hc]
theorem at_casB (hl : L.length = 8 + 4 * n) (h0 : 0 ≤ c) (hc : c.toNat < 8 + 2 * n) : casB L c x y = (mainOf n L c.toNat == x) := by
  unfold casB
  rw [at_cas hl h0 hc]
  simp
end
/-- A wait that is done has no stage. -/
theorem wait_done {L : List Int} {n mode task st c : Int} {p : Int → Bool} (h : (waitA L n mode task st c p).done = true) : (waitA L n mode task st c p).stage = 0 := by
  unfold waitA at h ⊢
  dsimp only at h ⊢
  repeat' split at h
  all_goals first | (simp at h; done) | skip
  all_goals simp_all
theorem wait4_done {L : List Int} {n mode task c : Int} {p : Int → Bool} (hm : mode = 2) : (waitA L n mode task 4 c p).done = true ∧ (waitA L n mode task 4 c p).stage = 0 := by
  unfold waitA
  dsimp only
  rw [stage_at hm (by omega) (by omega)]
  exact ⟨rfl, rfl⟩
theorem wait4_seen {L : List Int} {n mode task c : Int} {p : Int → Bool} (hm : mode = 2) : (waitA L n mode task 4 c p).seen = false := by
  unfold waitA
  dsimp only
  rw [stage_at hm (by omega) (by omega)]
  rfl
theorem wait_ds {L : List Int} {n mode task st c : Int} {p : Int → Bool} (h0 : 0 ≤ st) (h3 : st ≤ 3) (h : (waitA L n mode task st c p).done = true) : (waitA L n mode task st c p).seen = true := by
  have hs : stageA mode st ≠ 4 := by unfold stageA; split <;> omega
  unfold waitA at h ⊢
  dsimp only at h ⊢
  rw [if_neg hs] at h ⊢
  repeat' split at h
  all_goals first | (simp at h; done) | skip
  all_goals simp_all
theorem may_ops {op h : Int} (hm : mayB op h = true) : (h = 0 ∧ (op = 1 ∨ op = 3 ∨ op = 5 ∨ op = 6)) ∨ (h = 1 ∧ (op = 2 ∨ op = 7)) ∨ (h ≠ 0 ∧ h ≠ 1 ∧ (op = 4 ∨ op = 8)) := by
  unfold mayB at hm
  split at hm
  · rename_i h0
    simp at hm
    exact Or.inl ⟨h0, by omega⟩
  split at hm
  · rename_i h0 h1
    simp at hm
    exact Or.inr (Or.inl ⟨h1, by omega⟩)
  · rename_i h0 h1
    simp at hm
    exact Or.inr (Or.inr ⟨h0, h1, by omega⟩)

end Go.Proofs.Ytmbbcgkfankiaaa.Z

/- Readers and writers by turns: those that came, those that went, the phase. No lock in sight. Written by genphase.py. -/
set_option linter.unusedVariables false
set_option linter.unusedSimpArgs false
namespace Go.Proofs.Ytmbbcgkfankiaaa.Z
open Go.RowKit

/-- A task, as readers and writers see it: has the turn, writes, goes up alone, is present and waits, has left while the phase is to turn, reads; the bits it waits to change, the phase it read, those that had come when it was present. -/
structure Ph where
  hd : Bool
  inn : Bool
  up : Bool
  pd : Bool
  a2 : Bool
  rd : Bool
  wt : Option Int
  b : Option Int
  sn : Option Int
def Ph.none : Ph := ⟨false, false, false, false, false, false, .none, .none, .none⟩
def wHd (q : Ph) : Int := if q.hd then 1 else 0
def wIn (q : Ph) : Int := if q.inn then 1 else 0
def wUp (q : Ph) : Int := if q.up then 1 else 0
def wPd (q : Ph) : Int := if q.pd then 1 else 0
def wA2 (q : Ph) : Int := if q.a2 then 1 else 0
def wRd (q : Ph) : Int := if q.rd then 1 else 0
def wOld (ph : Int) (q : Ph) : Int := if q.wt = some (2 + (ph + 1) % 2) then 1 else 0
def wNew (ph : Int) (q : Ph) : Int := if q.wt = some (2 + ph % 2) then 1 else 0
structure PhOk (q : Ph) : Prop where
  some : wIn q + wUp q + wPd q + wA2 q ≤ wHd q
  wt : ∀ w, q.wt = .some w → (w = 2 ∨ w = 3) ∧ q.hd = false ∧ q.rd = false
  b : ∀ v, q.b = .some v → q.hd = true
  sn : ∀ v, q.sn = .some v → q.pd = true
  upr : wUp q ≤ wRd q

theorem wHd_01 : ∀ q, 0 ≤ wHd q := by intro q; simp only [wHd]; split <;> decide
theorem wHd_1 : ∀ q, wHd q ≤ 1 := by intro q; simp only [wHd]; split <;> decide
theorem wIn_01 : ∀ q, 0 ≤ wIn q := by intro q; simp only [wIn]; split <;> decide
theorem wIn_1 : ∀ q, wIn q ≤ 1 := by intro q; simp only [wIn]; split <;> decide
theorem wUp_01 : ∀ q, 0 ≤ wUp q := by intro q; simp only [wUp]; split <;> decide
theorem wUp_1 : ∀ q, wUp q ≤ 1 := by intro q; simp only [wUp]; split <;> decide
theorem wPd_01 : ∀ q, 0 ≤ wPd q := by intro q; simp only [wPd]; split <;> decide
theorem wPd_1 : ∀ q, wPd q ≤ 1 := by intro q; simp only [wPd]; split <;> decide
theorem wA2_01 : ∀ q, 0 ≤ wA2 q := by intro q; simp only [wA2]; split <;> decide
theorem wA2_1 : ∀ q, wA2 q ≤ 1 := by intro q; simp only [wA2]; split <;> decide
theorem wRd_01 : ∀ q, 0 ≤ wRd q := by intro q; simp only [wRd]; split <;> decide
theorem wRd_1 : ∀ q, wRd q ≤ 1 := by intro q; simp only [wRd]; split <;> decide
theorem wOld_01 {ph : Int} : ∀ q, 0 ≤ wOld ph q := by intro q; simp only [wOld]; split <;> decide
theorem wOld_1 {ph : Int} : ∀ q, wOld ph q ≤ 1 := by intro q; simp only [wOld]; split <;> decide
theorem wNew_01 {ph : Int} : ∀ q, 0 ≤ wNew ph q := by intro q; simp only [wNew]; split <;> decide
theorem wNew_1 {ph : Int} : ∀ q, wNew ph q ≤ 1 := by intro q; simp only [wNew]; split <;> decide
theorem ws_add {P : Type} (f g : P → Int) : ∀ l, ws (fun x => f x + g x) l = ws f l + ws g l
  | [] => rfl
  | x :: l => by have := ws_add f g l; simp only [ws]; omega
theorem ws_lem {P : Type} {f g : P → Int} : ∀ {l : List P}, (∀ x, x ∈ l → f x ≤ g x) → ws f l ≤ ws g l
  | [], _ => Int.le_refl _
  | x :: l, h => by have := ws_lem (l := l) (fun y hy => h y (List.mem_cons_of_mem _ hy)); have := h x (by simp); simp only [ws]; omega
theorem ws_onem {P : Type} {f : P → Int} {d : P} : ∀ {l : List P} {i : Nat}, (∀ x, x ∈ l → 0 ≤ f x) → i < l.length → f (l.getD i d) ≤ ws f l
  | [], i, _, hi => by simp at hi
  | x :: l, 0, h, _ => by
    have := ws_lem (f := fun _ => 0) (g := f) (l := l) (fun y hy => h y (List.mem_cons_of_mem _ hy))
    have e : ws (fun _ : P => (0 : Int)) l = 0 := ws_zero (fun _ _ => rfl)
    simp only [ws, List.getD_cons_zero]
    omega
  | x :: l, i + 1, h, hi => by
    have := ws_onem (l := l) (i := i) (d := d) (fun y hy => h y (List.mem_cons_of_mem _ hy)) (by simpa using hi)
    have := h x (by simp)
    simp only [ws, List.getD_cons_succ]
    omega
theorem ws_sub {P : Type} (f g : P → Int) : ∀ l, ws (fun x => f x - g x) l = ws f l - ws g l
  | [] => rfl
  | x :: l => by have := ws_sub f g l; simp only [ws]; omega
theorem getD_mem_ {P : Type} {l : List P} {i : Nat} {d : P} (h : i < l.length) : l.getD i d ∈ l := by simp [List.getD, h]
theorem PhOk.turn {q : Ph} (h : PhOk q) (hp : q.pd = true) : q.hd = true := by
  have h1 := h.some
  have k4 := wIn_01 q
  have k5 := wUp_01 q
  have k6 := wA2_01 q
  cases hh : q.hd with
  | true => rfl
  | false =>
    simp only [wHd, wPd, hp, hh, if_true, Bool.false_eq_true, if_false] at h1
    omega
structure PhIs (l : List Ph) (x0 x1 ph Rin Rout : Int) : Prop where
  len : l.length ≤ 64
  phw : 0 ≤ ph ∧ ph < 4294967296
  x1 : x1 = 256 * Rout % 4294967296
  cnt : Rin - Rout = ws wRd l + ws (wOld ph) l + ws (wNew ph) l
  on : ws wIn l + ws wUp l + ws wPd l = 1 → x0 = (256 * Rin + (2 + ph % 2)) % 4294967296
  off : ws wIn l + ws wUp l + ws wPd l = 0 → x0 = 256 * Rin % 4294967296
  one : ws wHd l ≤ 1
  wr : ws wIn l = 1 → ws wRd l = 0 ∧ ws (wOld ph) l = 0
  ups : ws wUp l = 1 → ws wRd l = 1 ∧ ws (wOld ph) l = 0
  lv : ws wA2 l = 1 → ws (wOld ph) l = 0
  nw : ws wIn l + ws wUp l + ws wPd l = 0 → ws wA2 l = 0 → ws (wNew ph) l = 0
  ok : ∀ q, q ∈ l → PhOk q
  bs : ∀ q, q ∈ l → ∀ v, q.b = some v → v = ph
  sn : ∀ q, q ∈ l → ∀ a, q.sn = some a → ∃ A, a = 256 * A % 4294967296 ∧ A - Rout = ws wRd l + ws (wOld ph) l
section
variable {l : List Ph} {x0 x1 ph Rin Rout : Int} {i : Nat}
theorem PhIs.sums (H : PhIs l x0 x1 ph Rin Rout) : (0 ≤ ws wHd l ∧ 0 ≤ ws wIn l ∧ 0 ≤ ws wUp l ∧ 0 ≤ ws wPd l ∧ 0 ≤ ws wA2 l ∧ 0 ≤ ws wRd l ∧ 0 ≤ ws (wOld ph) l ∧ 0 ≤ ws (wNew ph) l) ∧ ws wIn l + ws wUp l + ws wPd l + ws wA2 l ≤ ws wHd l ∧ ws wRd l + ws (wOld ph) l + ws (wNew ph) l ≤ 64 := by
  refine ⟨⟨ws_nonneg wHd_01 l, ws_nonneg wIn_01 l, ws_nonneg wUp_01 l, ws_nonneg wPd_01 l, ws_nonneg wA2_01 l, ws_nonneg wRd_01 l, ws_nonneg wOld_01 l, ws_nonneg wNew_01 l⟩, ?_, ?_⟩
  · have h := ws_lem (f := fun q => wIn q + wUp q + wPd q + wA2 q) (g := wHd) (l := l) (fun q hq => (H.ok q hq).some)
    have e1 := ws_add (fun q => wIn q + wUp q + wPd q) wA2 l
    have e2 := ws_add (fun q => wIn q + wUp q) wPd l
    have e3 := ws_add wIn wUp l
    omega
  · have h := ws_lem (f := fun q => wRd q + wOld ph q + wNew ph q) (g := fun _ => 1) (l := l) (fun q hq => by
      have hw := (H.ok q hq).wt
      unfold wRd wOld wNew
      cases hq2 : q.wt with
      | none => simp; split <;> decide
      | some w =>
        obtain ⟨h1, h2, h3⟩ := hw w hq2
        rw [h3]
        simp only [Option.some.injEq, Bool.false_eq_true, if_false]
        split <;> split <;> omega)
    have e1 := ws_add (fun q => wRd q + wOld ph q) (wNew ph) l
    have e2 := ws_add wRd (wOld ph) l
    have e3 : ws (fun _ : Ph => (1 : Int)) l = l.length := by
      have : ∀ l : List Ph, ws (fun _ : Ph => (1 : Int)) l = l.length := fun l => by
        induction l with
        | nil => rfl
        | cons x l ih => simp only [ws, List.length_cons]; omega
      exact this l
    have := H.len
    omega
theorem PhIs.own (H : PhIs l x0 x1 ph Rin Rout) (hi : i < l.length) {q : Ph} (hq : l.getD i Ph.none = q) : wRd q - wUp q ≤ ws wRd l - ws wUp l ∧ wHd q - (wIn q + wUp q + wPd q + wA2 q) ≤ ws wHd l - (ws wIn l + ws wUp l + ws wPd l + ws wA2 l) := by
  have h1 := ws_onem (f := fun q => wRd q - wUp q) (d := Ph.none) (l := l) (i := i) (fun x hx => by have := (H.ok x hx).upr; omega) hi
  have h2 := ws_onem (f := fun q => wHd q - (wIn q + wUp q + wPd q + wA2 q)) (d := Ph.none) (l := l) (i := i) (fun x hx => by have := (H.ok x hx).some; omega) hi
  rw [hq] at h1 h2
  rw [ws_sub] at h1 h2
  have e1 := ws_add (fun q => wIn q + wUp q + wPd q) wA2 l
  have e2 := ws_add (fun q => wIn q + wUp q) wPd l
  have e3 := ws_add wIn wUp l
  constructor <;> omega
/-- Who sees bits sees the phase's. -/
theorem PhIs.bits (H : PhIs l x0 x1 ph Rin Rout) (h : ¬ x0 % 4 = 0) : x0 % 4 = 2 + ph % 2 := by
  obtain ⟨⟨s0, s1, s2, s3, s4, s5, s6, s7⟩, s8, s9⟩ := H.sums
  have on := H.on
  have off := H.off
  have one := H.one
  omega
/-- Of two that have the turn one is the other. -/
theorem PhIs.alone (H : PhIs l x0 x1 ph Rin Rout) {q : Ph} (hi : i < l.length) (hq : l.getD i Ph.none = q) (h1 : q.hd = true) {j : Nat} (hj : j < l.length) (hji : j ≠ i) : (l.getD j Ph.none).hd = false := by
  have h2 := ws_two (d := Ph.none) wHd_01 (l := l) (i := i) (j := j) hi hj (fun h => hji h.symm)
  have h3 := H.one
  rw [hq] at h2
  cases h : (l.getD j Ph.none).hd with
  | false => rfl
  | true =>
    exfalso
    unfold wHd at h2
    rw [h, h1] at h2
    simp at h2
    have : ws wHd l ≤ 1 := h3
    unfold wHd at this
    omega
theorem mem_set_cases {q q' : Ph} (hi : i < l.length) (h : q ∈ l.set i q') : q = q' ∨ ∃ j, j < l.length ∧ j ≠ i ∧ l.getD j Ph.none = q := by
  obtain ⟨j, hj, rfl⟩ := List.getElem_of_mem h
  rw [List.length_set] at hj
  by_cases e : i = j
  · subst e; left; simp
  · right
    refine ⟨j, hj, fun h => e h.symm, ?_⟩
    rw [List.getElem_set_ne e]
    simp [List.getD, hj]

theorem PhIs.reads (H : PhIs l x0 x1 ph Rin Rout) (hi : i < l.length) (hq : l.getD i Ph.none = ⟨false, false, false, false, false, false, .none, .none, .none⟩) (h0 : x0 % 4 = 0) : PhIs (l.set i ⟨false, false, false, false, false, true, .none, .none, .none⟩) ((x0 + 256) % 4294967296) (x1) (ph) (Rin + 1) (Rout) := by
  have QM := getD_mem_ (d := Ph.none) hi
  have QA := fun h j hj hji => H.alone hi hq h (j := j) hj hji
  have ⟨o8, o9⟩ := H.own hi hq
  rw [hq] at QM
  have QB := H.bs _ QM
  have QS := H.sn _ QM
  have QK := H.ok _ QM
  obtain ⟨⟨s0, s1, s2, s3, s4, s5, s6, s7⟩, s8, s9⟩ := H.sums
  have phw := H.phw
  have x1e := H.x1
  have cnt := H.cnt
  have on := H.on
  have off := H.off
  have one := H.one
  have wr := H.wr
  have ups := H.ups
  have lv := H.lv
  have nw := H.nw
  have e0 := ws_set (f := wHd) (d := Ph.none) (x := ⟨false, false, false, false, false, true, .none, .none, .none⟩) hi
  have e1 := ws_set (f := wIn) (d := Ph.none) (x := ⟨false, false, false, false, false, true, .none, .none, .none⟩) hi
  have e2 := ws_set (f := wUp) (d := Ph.none) (x := ⟨false, false, false, false, false, true, .none, .none, .none⟩) hi
  have e3 := ws_set (f := wPd) (d := Ph.none) (x := ⟨false, false, false, false, false, true, .none, .none, .none⟩) hi
  have e4 := ws_set (f := wA2) (d := Ph.none) (x := ⟨false, false, false, false, false, true, .none, .none, .none⟩) hi
  have e5 := ws_set (f := wRd) (d := Ph.none) (x := ⟨false, false, false, false, false, true, .none, .none, .none⟩) hi
  have e6 := ws_set (f := wOld ph) (d := Ph.none) (x := ⟨false, false, false, false, false, true, .none, .none, .none⟩) hi
  have e7 := ws_set (f := wNew ph) (d := Ph.none) (x := ⟨false, false, false, false, false, true, .none, .none, .none⟩) hi
  have o0 := ws_one (d := Ph.none) wHd_01 hi
  have o1 := ws_one (d := Ph.none) wIn_01 hi
  have o2 := ws_one (d := Ph.none) wUp_01 hi
  have o3 := ws_one (d := Ph.none) wPd_01 hi
  have o4 := ws_one (d := Ph.none) wA2_01 hi
  have o5 := ws_one (d := Ph.none) wRd_01 hi
  have o6 := ws_one (d := Ph.none) (wOld_01 (ph := ph)) hi
  have o7 := ws_one (d := Ph.none) (wNew_01 (ph := ph)) hi
  rw [hq] at e0 e1 e2 e3 e4 e5 e6 e7 o0 o1 o2 o3 o4 o5 o6 o7
  simp only [wHd, wIn, wUp, wPd, wA2, wRd, wOld, wNew, if_true, if_false, Bool.false_eq_true, reduceCtorEq, Option.some.injEq] at e0 e1 e2 e3 e4 e5 e6 e7 o0 o1 o2 o3 o4 o5 o6 o7 o8 o9
  refine ⟨by rw [List.length_set]; exact H.len, phw, by omega, by omega, by omega, by omega, by omega, by omega, by omega, by omega, by omega, fun q hm => ?_, fun q hm v hv => ?_, fun q hm a ha => ?_⟩
  · rcases mem_set_cases hi hm with rfl | ⟨j, hj, hji, rfl⟩
    · refine ⟨by simp [wHd, wIn, wUp, wPd, wA2], fun w hw => ?_, fun v hv => ?_, fun v hv => ?_, by simp [wUp, wRd]⟩
      · first | (cases hw; done) | (obtain rfl := Option.some.inj hw; exact ⟨by omega, rfl, rfl⟩)
      · first | (cases hv; done) | rfl
      · first | (cases hv; done) | rfl
    · exact H.ok _ (getD_mem_ hj)
  · rcases mem_set_cases hi hm with rfl | ⟨j, hj, hji, rfl⟩
    · first | (cases hv; done) | (obtain rfl := Option.some.inj hv; exact QB _ rfl)
    · exact H.bs _ (getD_mem_ hj) v hv
  · rcases mem_set_cases hi hm with rfl | ⟨j, hj, hji, rfl⟩
    · first | (cases ha; done) | (obtain rfl := Option.some.inj ha; omega)
    · exfalso
      have k2 := (H.ok _ (getD_mem_ hj)).sn a ha
      have k3 := ws_one (d := Ph.none) wPd_01 hj
      simp only [wPd, k2, if_true] at k3
      have k3 : 1 ≤ ws wPd l := k3
      omega

theorem PhIs.waits0 (H : PhIs l x0 x1 ph Rin Rout) (hi : i < l.length) (hq : l.getD i Ph.none = ⟨false, false, false, false, false, false, .none, .none, .none⟩) (h0 : ¬ x0 % 4 = 0) : PhIs (l.set i ⟨false, false, false, false, false, false, some (2 + ph % 2), .none, .none⟩) ((x0 + 256) % 4294967296) (x1) (ph) (Rin + 1) (Rout) := by
  have QM := getD_mem_ (d := Ph.none) hi
  have QA := fun h j hj hji => H.alone hi hq h (j := j) hj hji
  have ⟨o8, o9⟩ := H.own hi hq
  rw [hq] at QM
  have QB := H.bs _ QM
  have QS := H.sn _ QM
  have QK := H.ok _ QM
  obtain ⟨⟨s0, s1, s2, s3, s4, s5, s6, s7⟩, s8, s9⟩ := H.sums
  have phw := H.phw
  have x1e := H.x1
  have cnt := H.cnt
  have on := H.on
  have off := H.off
  have one := H.one
  have wr := H.wr
  have ups := H.ups
  have lv := H.lv
  have nw := H.nw
  have e0 := ws_set (f := wHd) (d := Ph.none) (x := ⟨false, false, false, false, false, false, some (2 + ph % 2), .none, .none⟩) hi
  have e1 := ws_set (f := wIn) (d := Ph.none) (x := ⟨false, false, false, false, false, false, some (2 + ph % 2), .none, .none⟩) hi
  have e2 := ws_set (f := wUp) (d := Ph.none) (x := ⟨false, false, false, false, false, false, some (2 + ph % 2), .none, .none⟩) hi
  have e3 := ws_set (f := wPd) (d := Ph.none) (x := ⟨false, false, false, false, false, false, some (2 + ph % 2), .none, .none⟩) hi
  have e4 := ws_set (f := wA2) (d := Ph.none) (x := ⟨false, false, false, false, false, false, some (2 + ph % 2), .none, .none⟩) hi
  have e5 := ws_set (f := wRd) (d := Ph.none) (x := ⟨false, false, false, false, false, false, some (2 + ph % 2), .none, .none⟩) hi
  have e6 := ws_set (f := wOld ph) (d := Ph.none) (x := ⟨false, false, false, false, false, false, some (2 + ph % 2), .none, .none⟩) hi
  have e7 := ws_set (f := wNew ph) (d := Ph.none) (x := ⟨false, false, false, false, false, false, some (2 + ph % 2), .none, .none⟩) hi
  have o0 := ws_one (d := Ph.none) wHd_01 hi
  have o1 := ws_one (d := Ph.none) wIn_01 hi
  have o2 := ws_one (d := Ph.none) wUp_01 hi
  have o3 := ws_one (d := Ph.none) wPd_01 hi
  have o4 := ws_one (d := Ph.none) wA2_01 hi
  have o5 := ws_one (d := Ph.none) wRd_01 hi
  have o6 := ws_one (d := Ph.none) (wOld_01 (ph := ph)) hi
  have o7 := ws_one (d := Ph.none) (wNew_01 (ph := ph)) hi
  rw [hq] at e0 e1 e2 e3 e4 e5 e6 e7 o0 o1 o2 o3 o4 o5 o6 o7
  simp only [wHd, wIn, wUp, wPd, wA2, wRd, wOld, wNew, if_true, if_false, Bool.false_eq_true, reduceCtorEq, Option.some.injEq] at e0 e1 e2 e3 e4 e5 e6 e7 o0 o1 o2 o3 o4 o5 o6 o7 o8 o9
  have g1 : ¬ (2 + (ph + 1) % 2 = 2 + ph % 2) := by omega
  have g2 : ¬ (2 + ph % 2 = 2 + (ph + 1) % 2) := by omega
  simp only [if_neg g1, if_neg g2, if_true] at e6 e7 o6 o7
  refine ⟨by rw [List.length_set]; exact H.len, phw, by omega, by omega, by omega, by omega, by omega, by omega, by omega, by omega, by omega, fun q hm => ?_, fun q hm v hv => ?_, fun q hm a ha => ?_⟩
  · rcases mem_set_cases hi hm with rfl | ⟨j, hj, hji, rfl⟩
    · refine ⟨by simp [wHd, wIn, wUp, wPd, wA2], fun w hw => ?_, fun v hv => ?_, fun v hv => ?_, by simp [wUp, wRd]⟩
      · first | (cases hw; done) | (obtain rfl := Option.some.inj hw; exact ⟨by omega, rfl, rfl⟩)
      · first | (cases hv; done) | rfl
      · first | (cases hv; done) | rfl
    · exact H.ok _ (getD_mem_ hj)
  · rcases mem_set_cases hi hm with rfl | ⟨j, hj, hji, rfl⟩
    · first | (cases hv; done) | (obtain rfl := Option.some.inj hv; exact QB _ rfl)
    · exact H.bs _ (getD_mem_ hj) v hv
  · rcases mem_set_cases hi hm with rfl | ⟨j, hj, hji, rfl⟩
    · first | (cases ha; done) | (obtain rfl := Option.some.inj ha; omega)
    · obtain ⟨A, a1, a2⟩ := H.sn _ (getD_mem_ hj) a ha
      exact ⟨A, a1, by omega⟩

theorem PhIs.waits (H : PhIs l x0 x1 ph Rin Rout) (hi : i < l.length) (hq : l.getD i Ph.none = ⟨false, false, false, false, false, false, .none, .none, .none⟩) (h0 : ¬ x0 % 4 = 0) : PhIs (l.set i ⟨false, false, false, false, false, false, some (x0 % 4), .none, .none⟩) ((x0 + 256) % 4294967296) x1 ph (Rin + 1) Rout := by
  rw [H.bits h0]
  exact H.waits0 hi hq h0
theorem PhIs.lets0 (H : PhIs l x0 x1 ph Rin Rout) (hi : i < l.length) (hq : l.getD i Ph.none = ⟨false, false, false, false, false, false, some (2 + (ph + 1) % 2), .none, .none⟩) : PhIs (l.set i ⟨false, false, false, false, false, true, .none, .none, .none⟩) (x0) (x1) (ph) (Rin) (Rout) := by
  have QM := getD_mem_ (d := Ph.none) hi
  have QA := fun h j hj hji => H.alone hi hq h (j := j) hj hji
  have ⟨o8, o9⟩ := H.own hi hq
  rw [hq] at QM
  have QB := H.bs _ QM
  have QS := H.sn _ QM
  have QK := H.ok _ QM
  obtain ⟨⟨s0, s1, s2, s3, s4, s5, s6, s7⟩, s8, s9⟩ := H.sums
  have phw := H.phw
  have x1e := H.x1
  have cnt := H.cnt
  have on := H.on
  have off := H.off
  have one := H.one
  have wr := H.wr
  have ups := H.ups
  have lv := H.lv
  have nw := H.nw
  have e0 := ws_set (f := wHd) (d := Ph.none) (x := ⟨false, false, false, false, false, true, .none, .none, .none⟩) hi
  have e1 := ws_set (f := wIn) (d := Ph.none) (x := ⟨false, false, false, false, false, true, .none, .none, .none⟩) hi
  have e2 := ws_set (f := wUp) (d := Ph.none) (x := ⟨false, false, false, false, false, true, .none, .none, .none⟩) hi
  have e3 := ws_set (f := wPd) (d := Ph.none) (x := ⟨false, false, false, false, false, true, .none, .none, .none⟩) hi
  have e4 := ws_set (f := wA2) (d := Ph.none) (x := ⟨false, false, false, false, false, true, .none, .none, .none⟩) hi
  have e5 := ws_set (f := wRd) (d := Ph.none) (x := ⟨false, false, false, false, false, true, .none, .none, .none⟩) hi
  have e6 := ws_set (f := wOld ph) (d := Ph.none) (x := ⟨false, false, false, false, false, true, .none, .none, .none⟩) hi
  have e7 := ws_set (f := wNew ph) (d := Ph.none) (x := ⟨false, false, false, false, false, true, .none, .none, .none⟩) hi
  have o0 := ws_one (d := Ph.none) wHd_01 hi
  have o1 := ws_one (d := Ph.none) wIn_01 hi
  have o2 := ws_one (d := Ph.none) wUp_01 hi
  have o3 := ws_one (d := Ph.none) wPd_01 hi
  have o4 := ws_one (d := Ph.none) wA2_01 hi
  have o5 := ws_one (d := Ph.none) wRd_01 hi
  have o6 := ws_one (d := Ph.none) (wOld_01 (ph := ph)) hi
  have o7 := ws_one (d := Ph.none) (wNew_01 (ph := ph)) hi
  rw [hq] at e0 e1 e2 e3 e4 e5 e6 e7 o0 o1 o2 o3 o4 o5 o6 o7
  simp only [wHd, wIn, wUp, wPd, wA2, wRd, wOld, wNew, if_true, if_false, Bool.false_eq_true, reduceCtorEq, Option.some.injEq] at e0 e1 e2 e3 e4 e5 e6 e7 o0 o1 o2 o3 o4 o5 o6 o7 o8 o9
  have g1 : ¬ (2 + (ph + 1) % 2 = 2 + ph % 2) := by omega
  have g2 : ¬ (2 + ph % 2 = 2 + (ph + 1) % 2) := by omega
  simp only [if_neg g1, if_neg g2, if_true] at e6 e7 o6 o7
  refine ⟨by rw [List.length_set]; exact H.len, phw, by omega, by omega, by omega, by omega, by omega, by omega, by omega, by omega, by omega, fun q hm => ?_, fun q hm v hv => ?_, fun q hm a ha => ?_⟩
  · rcases mem_set_cases hi hm with rfl | ⟨j, hj, hji, rfl⟩
    · refine ⟨by simp [wHd, wIn, wUp, wPd, wA2], fun w hw => ?_, fun v hv => ?_, fun v hv => ?_, by simp [wUp, wRd]⟩
      · first | (cases hw; done) | (obtain rfl := Option.some.inj hw; exact ⟨by omega, rfl, rfl⟩)
      · first | (cases hv; done) | rfl
      · first | (cases hv; done) | rfl
    · exact H.ok _ (getD_mem_ hj)
  · rcases mem_set_cases hi hm with rfl | ⟨j, hj, hji, rfl⟩
    · first | (cases hv; done) | (obtain rfl := Option.some.inj hv; exact QB _ rfl)
    · exact H.bs _ (getD_mem_ hj) v hv
  · rcases mem_set_cases hi hm with rfl | ⟨j, hj, hji, rfl⟩
    · first | (cases ha; done) | (obtain rfl := Option.some.inj ha; omega)
    · obtain ⟨A, a1, a2⟩ := H.sn _ (getD_mem_ hj) a ha
      exact ⟨A, a1, by omega⟩

theorem PhIs.lets1 (H : PhIs l x0 x1 ph Rin Rout) (hi : i < l.length) (hq : l.getD i Ph.none = ⟨false, false, false, false, false, false, some (2 + ph % 2), .none, .none⟩) (h0 : ¬ x0 % 4 = 2 + ph % 2) : PhIs (l.set i ⟨false, false, false, false, false, true, .none, .none, .none⟩) (x0) (x1) (ph) (Rin) (Rout) := by
  have QM := getD_mem_ (d := Ph.none) hi
  have QA := fun h j hj hji => H.alone hi hq h (j := j) hj hji
  have ⟨o8, o9⟩ := H.own hi hq
  rw [hq] at QM
  have QB := H.bs _ QM
  have QS := H.sn _ QM
  have QK := H.ok _ QM
  obtain ⟨⟨s0, s1, s2, s3, s4, s5, s6, s7⟩, s8, s9⟩ := H.sums
  have phw := H.phw
  have x1e := H.x1
  have cnt := H.cnt
  have on := H.on
  have off := H.off
  have one := H.one
  have wr := H.wr
  have ups := H.ups
  have lv := H.lv
  have nw := H.nw
  have e0 := ws_set (f := wHd) (d := Ph.none) (x := ⟨false, false, false, false, false, true, .none, .none, .none⟩) hi
  have e1 := ws_set (f := wIn) (d := Ph.none) (x := ⟨false, false, false, false, false, true, .none, .none, .none⟩) hi
  have e2 := ws_set (f := wUp) (d := Ph.none) (x := ⟨false, false, false, false, false, true, .none, .none, .none⟩) hi
  have e3 := ws_set (f := wPd) (d := Ph.none) (x := ⟨false, false, false, false, false, true, .none, .none, .none⟩) hi
  have e4 := ws_set (f := wA2) (d := Ph.none) (x := ⟨false, false, false, false, false, true, .none, .none, .none⟩) hi
  have e5 := ws_set (f := wRd) (d := Ph.none) (x := ⟨false, false, false, false, false, true, .none, .none, .none⟩) hi
  have e6 := ws_set (f := wOld ph) (d := Ph.none) (x := ⟨false, false, false, false, false, true, .none, .none, .none⟩) hi
  have e7 := ws_set (f := wNew ph) (d := Ph.none) (x := ⟨false, false, false, false, false, true, .none, .none, .none⟩) hi
  have o0 := ws_one (d := Ph.none) wHd_01 hi
  have o1 := ws_one (d := Ph.none) wIn_01 hi
  have o2 := ws_one (d := Ph.none) wUp_01 hi
  have o3 := ws_one (d := Ph.none) wPd_01 hi
  have o4 := ws_one (d := Ph.none) wA2_01 hi
  have o5 := ws_one (d := Ph.none) wRd_01 hi
  have o6 := ws_one (d := Ph.none) (wOld_01 (ph := ph)) hi
  have o7 := ws_one (d := Ph.none) (wNew_01 (ph := ph)) hi
  rw [hq] at e0 e1 e2 e3 e4 e5 e6 e7 o0 o1 o2 o3 o4 o5 o6 o7
  simp only [wHd, wIn, wUp, wPd, wA2, wRd, wOld, wNew, if_true, if_false, Bool.false_eq_true, reduceCtorEq, Option.some.injEq] at e0 e1 e2 e3 e4 e5 e6 e7 o0 o1 o2 o3 o4 o5 o6 o7 o8 o9
  have g1 : ¬ (2 + (ph + 1) % 2 = 2 + ph % 2) := by omega
  have g2 : ¬ (2 + ph % 2 = 2 + (ph + 1) % 2) := by omega
  simp only [if_neg g1, if_neg g2, if_true] at e6 e7 o6 o7
  refine ⟨by rw [List.length_set]; exact H.len, phw, by omega, by omega, by omega, by omega, by omega, by omega, by omega, by omega, by omega, fun q hm => ?_, fun q hm v hv => ?_, fun q hm a ha => ?_⟩
  · rcases mem_set_cases hi hm with rfl | ⟨j, hj, hji, rfl⟩
    · refine ⟨by simp [wHd, wIn, wUp, wPd, wA2], fun w hw => ?_, fun v hv => ?_, fun v hv => ?_, by simp [wUp, wRd]⟩
      · first | (cases hw; done) | (obtain rfl := Option.some.inj hw; exact ⟨by omega, rfl, rfl⟩)
      · first | (cases hv; done) | rfl
      · first | (cases hv; done) | rfl
    · exact H.ok _ (getD_mem_ hj)
  · rcases mem_set_cases hi hm with rfl | ⟨j, hj, hji, rfl⟩
    · first | (cases hv; done) | (obtain rfl := Option.some.inj hv; exact QB _ rfl)
    · exact H.bs _ (getD_mem_ hj) v hv
  · rcases mem_set_cases hi hm with rfl | ⟨j, hj, hji, rfl⟩
    · first | (cases ha; done) | (obtain rfl := Option.some.inj ha; omega)
    · exfalso
      have k2 := (H.ok _ (getD_mem_ hj)).sn a ha
      have k3 := ws_one (d := Ph.none) wPd_01 hj
      simp only [wPd, k2, if_true] at k3
      have k3 : 1 ≤ ws wPd l := k3
      omega

theorem PhIs.lets (H : PhIs l x0 x1 ph Rin Rout) {w : Int} (hi : i < l.length) (hq : l.getD i Ph.none = ⟨false, false, false, false, false, false, some w, .none, .none⟩) (h0 : ¬ x0 % 4 = w) : PhIs (l.set i ⟨false, false, false, false, false, true, .none, .none, .none⟩) x0 x1 ph Rin Rout := by
  have QM := getD_mem_ (d := Ph.none) hi
  rw [hq] at QM
  have hw := ((H.ok _ QM).wt w rfl).1
  rcases (show w = 2 + (ph + 1) % 2 ∨ w = 2 + ph % 2 by omega) with rfl | rfl
  · exact H.lets0 hi hq
  · exact H.lets1 hi hq h0
theorem PhIs.goes (H : PhIs l x0 x1 ph Rin Rout) (hi : i < l.length) (hq : l.getD i Ph.none = ⟨false, false, false, false, false, true, .none, .none, .none⟩) : PhIs (l.set i ⟨false, false, false, false, false, false, .none, .none, .none⟩) (x0) ((x1 + 256) % 4294967296) (ph) (Rin) (Rout + 1) := by
  have QM := getD_mem_ (d := Ph.none) hi
  have QA := fun h j hj hji => H.alone hi hq h (j := j) hj hji
  have ⟨o8, o9⟩ := H.own hi hq
  rw [hq] at QM
  have QB := H.bs _ QM
  have QS := H.sn _ QM
  have QK := H.ok _ QM
  obtain ⟨⟨s0, s1, s2, s3, s4, s5, s6, s7⟩, s8, s9⟩ := H.sums
  have phw := H.phw
  have x1e := H.x1
  have cnt := H.cnt
  have on := H.on
  have off := H.off
  have one := H.one
  have wr := H.wr
  have ups := H.ups
  have lv := H.lv
  have nw := H.nw
  have e0 := ws_set (f := wHd) (d := Ph.none) (x := ⟨false, false, false, false, false, false, .none, .none, .none⟩) hi
  have e1 := ws_set (f := wIn) (d := Ph.none) (x := ⟨false, false, false, false, false, false, .none, .none, .none⟩) hi
  have e2 := ws_set (f := wUp) (d := Ph.none) (x := ⟨false, false, false, false, false, false, .none, .none, .none⟩) hi
  have e3 := ws_set (f := wPd) (d := Ph.none) (x := ⟨false, false, false, false, false, false, .none, .none, .none⟩) hi
  have e4 := ws_set (f := wA2) (d := Ph.none) (x := ⟨false, false, false, false, false, false, .none, .none, .none⟩) hi
  have e5 := ws_set (f := wRd) (d := Ph.none) (x := ⟨false, false, false, false, false, false, .none, .none, .none⟩) hi
  have e6 := ws_set (f := wOld ph) (d := Ph.none) (x := ⟨false, false, false, false, false, false, .none, .none, .none⟩) hi
  have e7 := ws_set (f := wNew ph) (d := Ph.none) (x := ⟨false, false, false, false, false, false, .none, .none, .none⟩) hi
  have o0 := ws_one (d := Ph.none) wHd_01 hi
  have o1 := ws_one (d := Ph.none) wIn_01 hi
  have o2 := ws_one (d := Ph.none) wUp_01 hi
  have o3 := ws_one (d := Ph.none) wPd_01 hi
  have o4 := ws_one (d := Ph.none) wA2_01 hi
  have o5 := ws_one (d := Ph.none) wRd_01 hi
  have o6 := ws_one (d := Ph.none) (wOld_01 (ph := ph)) hi
  have o7 := ws_one (d := Ph.none) (wNew_01 (ph := ph)) hi
  rw [hq] at e0 e1 e2 e3 e4 e5 e6 e7 o0 o1 o2 o3 o4 o5 o6 o7
  simp only [wHd, wIn, wUp, wPd, wA2, wRd, wOld, wNew, if_true, if_false, Bool.false_eq_true, reduceCtorEq, Option.some.injEq] at e0 e1 e2 e3 e4 e5 e6 e7 o0 o1 o2 o3 o4 o5 o6 o7 o8 o9
  refine ⟨by rw [List.length_set]; exact H.len, phw, by omega, by omega, by omega, by omega, by omega, by omega, by omega, by omega, by omega, fun q hm => ?_, fun q hm v hv => ?_, fun q hm a ha => ?_⟩
  · rcases mem_set_cases hi hm with rfl | ⟨j, hj, hji, rfl⟩
    · refine ⟨by simp [wHd, wIn, wUp, wPd, wA2], fun w hw => ?_, fun v hv => ?_, fun v hv => ?_, by simp [wUp, wRd]⟩
      · first | (cases hw; done) | (obtain rfl := Option.some.inj hw; exact ⟨by omega, rfl, rfl⟩)
      · first | (cases hv; done) | rfl
      · first | (cases hv; done) | rfl
    · exact H.ok _ (getD_mem_ hj)
  · rcases mem_set_cases hi hm with rfl | ⟨j, hj, hji, rfl⟩
    · first | (cases hv; done) | (obtain rfl := Option.some.inj hv; exact QB _ rfl)
    · exact H.bs _ (getD_mem_ hj) v hv
  · rcases mem_set_cases hi hm with rfl | ⟨j, hj, hji, rfl⟩
    · first | (cases ha; done) | (obtain rfl := Option.some.inj ha; omega)
    · obtain ⟨A, a1, a2⟩ := H.sn _ (getD_mem_ hj) a ha
      exact ⟨A, a1, by omega⟩

theorem PhIs.take (H : PhIs l x0 x1 ph Rin Rout) (hi : i < l.length) (hq : l.getD i Ph.none = ⟨false, false, false, false, false, false, .none, .none, .none⟩) (h0 : ws wHd l = 0) : PhIs (l.set i ⟨true, false, false, false, false, false, .none, .none, .none⟩) (x0) (x1) (ph) (Rin) (Rout) := by
  have QM := getD_mem_ (d := Ph.none) hi
  have QA := fun h j hj hji => H.alone hi hq h (j := j) hj hji
  have ⟨o8, o9⟩ := H.own hi hq
  rw [hq] at QM
  have QB := H.bs _ QM
  have QS := H.sn _ QM
  have QK := H.ok _ QM
  obtain ⟨⟨s0, s1, s2, s3, s4, s5, s6, s7⟩, s8, s9⟩ := H.sums
  have phw := H.phw
  have x1e := H.x1
  have cnt := H.cnt
  have on := H.on
  have off := H.off
  have one := H.one
  have wr := H.wr
  have ups := H.ups
  have lv := H.lv
  have nw := H.nw
  have e0 := ws_set (f := wHd) (d := Ph.none) (x := ⟨true, false, false, false, false, false, .none, .none, .none⟩) hi
  have e1 := ws_set (f := wIn) (d := Ph.none) (x := ⟨true, false, false, false, false, false, .none, .none, .none⟩) hi
  have e2 := ws_set (f := wUp) (d := Ph.none) (x := ⟨true, false, false, false, false, false, .none, .none, .none⟩) hi
  have e3 := ws_set (f := wPd) (d := Ph.none) (x := ⟨true, false, false, false, false, false, .none, .none, .none⟩) hi
  have e4 := ws_set (f := wA2) (d := Ph.none) (x := ⟨true, false, false, false, false, false, .none, .none, .none⟩) hi
  have e5 := ws_set (f := wRd) (d := Ph.none) (x := ⟨true, false, false, false, false, false, .none, .none, .none⟩) hi
  have e6 := ws_set (f := wOld ph) (d := Ph.none) (x := ⟨true, false, false, false, false, false, .none, .none, .none⟩) hi
  have e7 := ws_set (f := wNew ph) (d := Ph.none) (x := ⟨true, false, false, false, false, false, .none, .none, .none⟩) hi
  have o0 := ws_one (d := Ph.none) wHd_01 hi
  have o1 := ws_one (d := Ph.none) wIn_01 hi
  have o2 := ws_one (d := Ph.none) wUp_01 hi
  have o3 := ws_one (d := Ph.none) wPd_01 hi
  have o4 := ws_one (d := Ph.none) wA2_01 hi
  have o5 := ws_one (d := Ph.none) wRd_01 hi
  have o6 := ws_one (d := Ph.none) (wOld_01 (ph := ph)) hi
  have o7 := ws_one (d := Ph.none) (wNew_01 (ph := ph)) hi
  rw [hq] at e0 e1 e2 e3 e4 e5 e6 e7 o0 o1 o2 o3 o4 o5 o6 o7
  simp only [wHd, wIn, wUp, wPd, wA2, wRd, wOld, wNew, if_true, if_false, Bool.false_eq_true, reduceCtorEq, Option.some.injEq] at e0 e1 e2 e3 e4 e5 e6 e7 o0 o1 o2 o3 o4 o5 o6 o7 o8 o9
  refine ⟨by rw [List.length_set]; exact H.len, phw, by omega, by omega, by omega, by omega, by omega, by omega, by omega, by omega, by omega, fun q hm => ?_, fun q hm v hv => ?_, fun q hm a ha => ?_⟩
  · rcases mem_set_cases hi hm with rfl | ⟨j, hj, hji, rfl⟩
    · refine ⟨by simp [wHd, wIn, wUp, wPd, wA2], fun w hw => ?_, fun v hv => ?_, fun v hv => ?_, by simp [wUp, wRd]⟩
      · first | (cases hw; done) | (obtain rfl := Option.some.inj hw; exact ⟨by omega, rfl, rfl⟩)
      · first | (cases hv; done) | rfl
      · first | (cases hv; done) | rfl
    · exact H.ok _ (getD_mem_ hj)
  · rcases mem_set_cases hi hm with rfl | ⟨j, hj, hji, rfl⟩
    · first | (cases hv; done) | (obtain rfl := Option.some.inj hv; exact QB _ rfl)
    · exact H.bs _ (getD_mem_ hj) v hv
  · rcases mem_set_cases hi hm with rfl | ⟨j, hj, hji, rfl⟩
    · first | (cases ha; done) | (obtain rfl := Option.some.inj ha; omega)
    · obtain ⟨A, a1, a2⟩ := H.sn _ (getD_mem_ hj) a ha
      exact ⟨A, a1, by omega⟩

theorem PhIs.pass (H : PhIs l x0 x1 ph Rin Rout) (hi : i < l.length) (hq : l.getD i Ph.none = ⟨true, false, false, false, false, false, .none, .none, .none⟩) : PhIs (l.set i ⟨false, false, false, false, false, false, .none, .none, .none⟩) (x0) (x1) (ph) (Rin) (Rout) := by
  have QM := getD_mem_ (d := Ph.none) hi
  have QA := fun h j hj hji => H.alone hi hq h (j := j) hj hji
  have ⟨o8, o9⟩ := H.own hi hq
  rw [hq] at QM
  have QB := H.bs _ QM
  have QS := H.sn _ QM
  have QK := H.ok _ QM
  obtain ⟨⟨s0, s1, s2, s3, s4, s5, s6, s7⟩, s8, s9⟩ := H.sums
  have phw := H.phw
  have x1e := H.x1
  have cnt := H.cnt
  have on := H.on
  have off := H.off
  have one := H.one
  have wr := H.wr
  have ups := H.ups
  have lv := H.lv
  have nw := H.nw
  have e0 := ws_set (f := wHd) (d := Ph.none) (x := ⟨false, false, false, false, false, false, .none, .none, .none⟩) hi
  have e1 := ws_set (f := wIn) (d := Ph.none) (x := ⟨false, false, false, false, false, false, .none, .none, .none⟩) hi
  have e2 := ws_set (f := wUp) (d := Ph.none) (x := ⟨false, false, false, false, false, false, .none, .none, .none⟩) hi
  have e3 := ws_set (f := wPd) (d := Ph.none) (x := ⟨false, false, false, false, false, false, .none, .none, .none⟩) hi
  have e4 := ws_set (f := wA2) (d := Ph.none) (x := ⟨false, false, false, false, false, false, .none, .none, .none⟩) hi
  have e5 := ws_set (f := wRd) (d := Ph.none) (x := ⟨false, false, false, false, false, false, .none, .none, .none⟩) hi
  have e6 := ws_set (f := wOld ph) (d := Ph.none) (x := ⟨false, false, false, false, false, false, .none, .none, .none⟩) hi
  have e7 := ws_set (f := wNew ph) (d := Ph.none) (x := ⟨false, false, false, false, false, false, .none, .none, .none⟩) hi
  have o0 := ws_one (d := Ph.none) wHd_01 hi
  have o1 := ws_one (d := Ph.none) wIn_01 hi
  have o2 := ws_one (d := Ph.none) wUp_01 hi
  have o3 := ws_one (d := Ph.none) wPd_01 hi
  have o4 := ws_one (d := Ph.none) wA2_01 hi
  have o5 := ws_one (d := Ph.none) wRd_01 hi
  have o6 := ws_one (d := Ph.none) (wOld_01 (ph := ph)) hi
  have o7 := ws_one (d := Ph.none) (wNew_01 (ph := ph)) hi
  rw [hq] at e0 e1 e2 e3 e4 e5 e6 e7 o0 o1 o2 o3 o4 o5 o6 o7
  simp only [wHd, wIn, wUp, wPd, wA2, wRd, wOld, wNew, if_true, if_false, Bool.false_eq_true, reduceCtorEq, Option.some.injEq] at e0 e1 e2 e3 e4 e5 e6 e7 o0 o1 o2 o3 o4 o5 o6 o7 o8 o9
  refine ⟨by rw [List.length_set]; exact H.len, phw, by omega, by omega, by omega, by omega, by omega, by omega, by omega, by omega, by omega, fun q hm => ?_, fun q hm v hv => ?_, fun q hm a ha => ?_⟩
  · rcases mem_set_cases hi hm with rfl | ⟨j, hj, hji, rfl⟩
    · refine ⟨by simp [wHd, wIn, wUp, wPd, wA2], fun w hw => ?_, fun v hv => ?_, fun v hv => ?_, by simp [wUp, wRd]⟩
      · first | (cases hw; done) | (obtain rfl := Option.some.inj hw; exact ⟨by omega, rfl, rfl⟩)
      · first | (cases hv; done) | rfl
      · first | (cases hv; done) | rfl
    · exact H.ok _ (getD_mem_ hj)
  · rcases mem_set_cases hi hm with rfl | ⟨j, hj, hji, rfl⟩
    · first | (cases hv; done) | (obtain rfl := Option.some.inj hv; exact QB _ rfl)
    · exact H.bs _ (getD_mem_ hj) v hv
  · rcases mem_set_cases hi hm with rfl | ⟨j, hj, hji, rfl⟩
    · first | (cases ha; done) | (obtain rfl := Option.some.inj ha; omega)
    · obtain ⟨A, a1, a2⟩ := H.sn _ (getD_mem_ hj) a ha
      exact ⟨A, a1, by omega⟩

theorem PhIs.phase (H : PhIs l x0 x1 ph Rin Rout) (hi : i < l.length) (hq : l.getD i Ph.none = ⟨true, false, false, false, false, false, .none, .none, .none⟩) : PhIs (l.set i ⟨true, false, false, false, false, false, .none, some ph, .none⟩) (x0) (x1) (ph) (Rin) (Rout) := by
  have QM := getD_mem_ (d := Ph.none) hi
  have QA := fun h j hj hji => H.alone hi hq h (j := j) hj hji
  have ⟨o8, o9⟩ := H.own hi hq
  rw [hq] at QM
  have QB := H.bs _ QM
  have QS := H.sn _ QM
  have QK := H.ok _ QM
  obtain ⟨⟨s0, s1, s2, s3, s4, s5, s6, s7⟩, s8, s9⟩ := H.sums
  have phw := H.phw
  have x1e := H.x1
  have cnt := H.cnt
  have on := H.on
  have off := H.off
  have one := H.one
  have wr := H.wr
  have ups := H.ups
  have lv := H.lv
  have nw := H.nw
  have e0 := ws_set (f := wHd) (d := Ph.none) (x := ⟨true, false, false, false, false, false, .none, some ph, .none⟩) hi
  have e1 := ws_set (f := wIn) (d := Ph.none) (x := ⟨true, false, false, false, false, false, .none, some ph, .none⟩) hi
  have e2 := ws_set (f := wUp) (d := Ph.none) (x := ⟨true, false, false, false, false, false, .none, some ph, .none⟩) hi
  have e3 := ws_set (f := wPd) (d := Ph.none) (x := ⟨true, false, false, false, false, false, .none, some ph, .none⟩) hi
  have e4 := ws_set (f := wA2) (d := Ph.none) (x := ⟨true, false, false, false, false, false, .none, some ph, .none⟩) hi
  have e5 := ws_set (f := wRd) (d := Ph.none) (x := ⟨true, false, false, false, false, false, .none, some ph, .none⟩) hi
  have e6 := ws_set (f := wOld ph) (d := Ph.none) (x := ⟨true, false, false, false, false, false, .none, some ph, .none⟩) hi
  have e7 := ws_set (f := wNew ph) (d := Ph.none) (x := ⟨true, false, false, false, false, false, .none, some ph, .none⟩) hi
  have o0 := ws_one (d := Ph.none) wHd_01 hi
  have o1 := ws_one (d := Ph.none) wIn_01 hi
  have o2 := ws_one (d := Ph.none) wUp_01 hi
  have o3 := ws_one (d := Ph.none) wPd_01 hi
  have o4 := ws_one (d := Ph.none) wA2_01 hi
  have o5 := ws_one (d := Ph.none) wRd_01 hi
  have o6 := ws_one (d := Ph.none) (wOld_01 (ph := ph)) hi
  have o7 := ws_one (d := Ph.none) (wNew_01 (ph := ph)) hi
  rw [hq] at e0 e1 e2 e3 e4 e5 e6 e7 o0 o1 o2 o3 o4 o5 o6 o7
  simp only [wHd, wIn, wUp, wPd, wA2, wRd, wOld, wNew, if_true, if_false, Bool.false_eq_true, reduceCtorEq, Option.some.injEq] at e0 e1 e2 e3 e4 e5 e6 e7 o0 o1 o2 o3 o4 o5 o6 o7 o8 o9
  refine ⟨by rw [List.length_set]; exact H.len, phw, by omega, by omega, by omega, by omega, by omega, by omega, by omega, by omega, by omega, fun q hm => ?_, fun q hm v hv => ?_, fun q hm a ha => ?_⟩
  · rcases mem_set_cases hi hm with rfl | ⟨j, hj, hji, rfl⟩
    · refine ⟨by simp [wHd, wIn, wUp, wPd, wA2], fun w hw => ?_, fun v hv => ?_, fun v hv => ?_, by simp [wUp, wRd]⟩
      · first | (cases hw; done) | (obtain rfl := Option.some.inj hw; exact ⟨by omega, rfl, rfl⟩)
      · first | (cases hv; done) | rfl
      · first | (cases hv; done) | rfl
    · exact H.ok _ (getD_mem_ hj)
  · rcases mem_set_cases hi hm with rfl | ⟨j, hj, hji, rfl⟩
    · first | (cases hv; done) | (obtain rfl := Option.some.inj hv; rfl)
    · exact H.bs _ (getD_mem_ hj) v hv
  · rcases mem_set_cases hi hm with rfl | ⟨j, hj, hji, rfl⟩
    · first | (cases ha; done) | (obtain rfl := Option.some.inj ha; omega)
    · obtain ⟨A, a1, a2⟩ := H.sn _ (getD_mem_ hj) a ha
      exact ⟨A, a1, by omega⟩

theorem PhIs.present (H : PhIs l x0 x1 ph Rin Rout) {v : Int} (hi : i < l.length) (hq : l.getD i Ph.none = ⟨true, false, false, false, false, false, .none, some v, .none⟩) : PhIs (l.set i ⟨true, false, false, true, false, false, .none, .none, some x0⟩) ((x0 + (2 + v % 2)) % 4294967296) (x1) (ph) (Rin) (Rout) := by
  have QM := getD_mem_ (d := Ph.none) hi
  have QA := fun h j hj hji => H.alone hi hq h (j := j) hj hji
  have ⟨o8, o9⟩ := H.own hi hq
  rw [hq] at QM
  have QB := H.bs _ QM
  have QS := H.sn _ QM
  have QK := H.ok _ QM
  obtain ⟨⟨s0, s1, s2, s3, s4, s5, s6, s7⟩, s8, s9⟩ := H.sums
  have phw := H.phw
  have x1e := H.x1
  have cnt := H.cnt
  have on := H.on
  have off := H.off
  have one := H.one
  have wr := H.wr
  have ups := H.ups
  have lv := H.lv
  have nw := H.nw
  have e0 := ws_set (f := wHd) (d := Ph.none) (x := ⟨true, false, false, true, false, false, .none, .none, some x0⟩) hi
  have e1 := ws_set (f := wIn) (d := Ph.none) (x := ⟨true, false, false, true, false, false, .none, .none, some x0⟩) hi
  have e2 := ws_set (f := wUp) (d := Ph.none) (x := ⟨true, false, false, true, false, false, .none, .none, some x0⟩) hi
  have e3 := ws_set (f := wPd) (d := Ph.none) (x := ⟨true, false, false, true, false, false, .none, .none, some x0⟩) hi
  have e4 := ws_set (f := wA2) (d := Ph.none) (x := ⟨true, false, false, true, false, false, .none, .none, some x0⟩) hi
  have e5 := ws_set (f := wRd) (d := Ph.none) (x := ⟨true, false, false, true, false, false, .none, .none, some x0⟩) hi
  have e6 := ws_set (f := wOld ph) (d := Ph.none) (x := ⟨true, false, false, true, false, false, .none, .none, some x0⟩) hi
  have e7 := ws_set (f := wNew ph) (d := Ph.none) (x := ⟨true, false, false, true, false, false, .none, .none, some x0⟩) hi
  have o0 := ws_one (d := Ph.none) wHd_01 hi
  have o1 := ws_one (d := Ph.none) wIn_01 hi
  have o2 := ws_one (d := Ph.none) wUp_01 hi
  have o3 := ws_one (d := Ph.none) wPd_01 hi
  have o4 := ws_one (d := Ph.none) wA2_01 hi
  have o5 := ws_one (d := Ph.none) wRd_01 hi
  have o6 := ws_one (d := Ph.none) (wOld_01 (ph := ph)) hi
  have o7 := ws_one (d := Ph.none) (wNew_01 (ph := ph)) hi
  rw [hq] at e0 e1 e2 e3 e4 e5 e6 e7 o0 o1 o2 o3 o4 o5 o6 o7
  simp only [wHd, wIn, wUp, wPd, wA2, wRd, wOld, wNew, if_true, if_false, Bool.false_eq_true, reduceCtorEq, Option.some.injEq] at e0 e1 e2 e3 e4 e5 e6 e7 o0 o1 o2 o3 o4 o5 o6 o7 o8 o9
  have hv := QB _ rfl
  subst hv
  refine ⟨by rw [List.length_set]; exact H.len, phw, by omega, by omega, by omega, by omega, by omega, by omega, by omega, by omega, by omega, fun q hm => ?_, fun q hm v hv => ?_, fun q hm a ha => ?_⟩
  · rcases mem_set_cases hi hm with rfl | ⟨j, hj, hji, rfl⟩
    · refine ⟨by simp [wHd, wIn, wUp, wPd, wA2], fun w hw => ?_, fun v hv => ?_, fun v hv => ?_, by simp [wUp, wRd]⟩
      · first | (cases hw; done) | (obtain rfl := Option.some.inj hw; exact ⟨by omega, rfl, rfl⟩)
      · first | (cases hv; done) | rfl
      · first | (cases hv; done) | rfl
    · exact H.ok _ (getD_mem_ hj)
  · rcases mem_set_cases hi hm with rfl | ⟨j, hj, hji, rfl⟩
    · first | (cases hv; done) | (obtain rfl := Option.some.inj hv; exact QB _ rfl)
    · exact H.bs _ (getD_mem_ hj) v hv
  · rcases mem_set_cases hi hm with rfl | ⟨j, hj, hji, rfl⟩
    · first | (cases ha; done) | (obtain rfl := Option.some.inj ha; exact ⟨Rin, by omega, by omega⟩)
    · exfalso
      have k1 := QA rfl j hj hji
      have k2 := (H.ok _ (getD_mem_ (d := Ph.none) hj)).sn a ha
      have k3 := (H.ok _ (getD_mem_ (d := Ph.none) hj)).some
      have k4 := wIn_01 (l.getD j Ph.none)
      have k5 := wUp_01 (l.getD j Ph.none)
      have k6 := wA2_01 (l.getD j Ph.none)
      simp only [wHd, wPd, k1, k2, if_true, Bool.false_eq_true, if_false] at k3
      omega

theorem PhIs.takeU (H : PhIs l x0 x1 ph Rin Rout) (hi : i < l.length) (hq : l.getD i Ph.none = ⟨false, false, false, false, false, true, .none, .none, .none⟩) (h0 : ws wHd l = 0) : PhIs (l.set i ⟨true, false, false, false, false, true, .none, .none, .none⟩) (x0) (x1) (ph) (Rin) (Rout) := by
  have QM := getD_mem_ (d := Ph.none) hi
  have QA := fun h j hj hji => H.alone hi hq h (j := j) hj hji
  have ⟨o8, o9⟩ := H.own hi hq
  rw [hq] at QM
  have QB := H.bs _ QM
  have QS := H.sn _ QM
  have QK := H.ok _ QM
  obtain ⟨⟨s0, s1, s2, s3, s4, s5, s6, s7⟩, s8, s9⟩ := H.sums
  have phw := H.phw
  have x1e := H.x1
  have cnt := H.cnt
  have on := H.on
  have off := H.off
  have one := H.one
  have wr := H.wr
  have ups := H.ups
  have lv := H.lv
  have nw := H.nw
  have e0 := ws_set (f := wHd) (d := Ph.none) (x := ⟨true, false, false, false, false, true, .none, .none, .none⟩) hi
  have e1 := ws_set (f := wIn) (d := Ph.none) (x := ⟨true, false, false, false, false, true, .none, .none, .none⟩) hi
  have e2 := ws_set (f := wUp) (d := Ph.none) (x := ⟨true, false, false, false, false, true, .none, .none, .none⟩) hi
  have e3 := ws_set (f := wPd) (d := Ph.none) (x := ⟨true, false, false, false, false, true, .none, .none, .none⟩) hi
  have e4 := ws_set (f := wA2) (d := Ph.none) (x := ⟨true, false, false, false, false, true, .none, .none, .none⟩) hi
  have e5 := ws_set (f := wRd) (d := Ph.none) (x := ⟨true, false, false, false, false, true, .none, .none, .none⟩) hi
  have e6 := ws_set (f := wOld ph) (d := Ph.none) (x := ⟨true, false, false, false, false, true, .none, .none, .none⟩) hi
  have e7 := ws_set (f := wNew ph) (d := Ph.none) (x := ⟨true, false, false, false, false, true, .none, .none, .none⟩) hi
  have o0 := ws_one (d := Ph.none) wHd_01 hi
  have o1 := ws_one (d := Ph.none) wIn_01 hi
  have o2 := ws_one (d := Ph.none) wUp_01 hi
  have o3 := ws_one (d := Ph.none) wPd_01 hi
  have o4 := ws_one (d := Ph.none) wA2_01 hi
  have o5 := ws_one (d := Ph.none) wRd_01 hi
  have o6 := ws_one (d := Ph.none) (wOld_01 (ph := ph)) hi
  have o7 := ws_one (d := Ph.none) (wNew_01 (ph := ph)) hi
  rw [hq] at e0 e1 e2 e3 e4 e5 e6 e7 o0 o1 o2 o3 o4 o5 o6 o7
  simp only [wHd, wIn, wUp, wPd, wA2, wRd, wOld, wNew, if_true, if_false, Bool.false_eq_true, reduceCtorEq, Option.some.injEq] at e0 e1 e2 e3 e4 e5 e6 e7 o0 o1 o2 o3 o4 o5 o6 o7 o8 o9
  refine ⟨by rw [List.length_set]; exact H.len, phw, by omega, by omega, by omega, by omega, by omega, by omega, by omega, by omega, by omega, fun q hm => ?_, fun q hm v hv => ?_, fun q hm a ha => ?_⟩
  · rcases mem_set_cases hi hm with rfl | ⟨j, hj, hji, rfl⟩
    · refine ⟨by simp [wHd, wIn, wUp, wPd, wA2], fun w hw => ?_, fun v hv => ?_, fun v hv => ?_, by simp [wUp, wRd]⟩
      · first | (cases hw; done) | (obtain rfl := Option.some.inj hw; exact ⟨by omega, rfl, rfl⟩)
      · first | (cases hv; done) | rfl
      · first | (cases hv; done) | rfl
    · exact H.ok _ (getD_mem_ hj)
  · rcases mem_set_cases hi hm with rfl | ⟨j, hj, hji, rfl⟩
    · first | (cases hv; done) | (obtain rfl := Option.some.inj hv; exact QB _ rfl)
    · exact H.bs _ (getD_mem_ hj) v hv
  · rcases mem_set_cases hi hm with rfl | ⟨j, hj, hji, rfl⟩
    · first | (cases ha; done) | (obtain rfl := Option.some.inj ha; omega)
    · obtain ⟨A, a1, a2⟩ := H.sn _ (getD_mem_ hj) a ha
      exact ⟨A, a1, by omega⟩

theorem PhIs.passU (H : PhIs l x0 x1 ph Rin Rout) (hi : i < l.length) (hq : l.getD i Ph.none = ⟨true, false, false, false, false, true, .none, .none, .none⟩) : PhIs (l.set i ⟨false, false, false, false, false, true, .none, .none, .none⟩) (x0) (x1) (ph) (Rin) (Rout) := by
  have QM := getD_mem_ (d := Ph.none) hi
  have QA := fun h j hj hji => H.alone hi hq h (j := j) hj hji
  have ⟨o8, o9⟩ := H.own hi hq
  rw [hq] at QM
  have QB := H.bs _ QM
  have QS := H.sn _ QM
  have QK := H.ok _ QM
  obtain ⟨⟨s0, s1, s2, s3, s4, s5, s6, s7⟩, s8, s9⟩ := H.sums
  have phw := H.phw
  have x1e := H.x1
  have cnt := H.cnt
  have on := H.on
  have off := H.off
  have one := H.one
  have wr := H.wr
  have ups := H.ups
  have lv := H.lv
  have nw := H.nw
  have e0 := ws_set (f := wHd) (d := Ph.none) (x := ⟨false, false, false, false, false, true, .none, .none, .none⟩) hi
  have e1 := ws_set (f := wIn) (d := Ph.none) (x := ⟨false, false, false, false, false, true, .none, .none, .none⟩) hi
  have e2 := ws_set (f := wUp) (d := Ph.none) (x := ⟨false, false, false, false, false, true, .none, .none, .none⟩) hi
  have e3 := ws_set (f := wPd) (d := Ph.none) (x := ⟨false, false, false, false, false, true, .none, .none, .none⟩) hi
  have e4 := ws_set (f := wA2) (d := Ph.none) (x := ⟨false, false, false, false, false, true, .none, .none, .none⟩) hi
  have e5 := ws_set (f := wRd) (d := Ph.none) (x := ⟨false, false, false, false, false, true, .none, .none, .none⟩) hi
  have e6 := ws_set (f := wOld ph) (d := Ph.none) (x := ⟨false, false, false, false, false, true, .none, .none, .none⟩) hi
  have e7 := ws_set (f := wNew ph) (d := Ph.none) (x := ⟨false, false, false, false, false, true, .none, .none, .none⟩) hi
  have o0 := ws_one (d := Ph.none) wHd_01 hi
  have o1 := ws_one (d := Ph.none) wIn_01 hi
  have o2 := ws_one (d := Ph.none) wUp_01 hi
  have o3 := ws_one (d := Ph.none) wPd_01 hi
  have o4 := ws_one (d := Ph.none) wA2_01 hi
  have o5 := ws_one (d := Ph.none) wRd_01 hi
  have o6 := ws_one (d := Ph.none) (wOld_01 (ph := ph)) hi
  have o7 := ws_one (d := Ph.none) (wNew_01 (ph := ph)) hi
  rw [hq] at e0 e1 e2 e3 e4 e5 e6 e7 o0 o1 o2 o3 o4 o5 o6 o7
  simp only [wHd, wIn, wUp, wPd, wA2, wRd, wOld, wNew, if_true, if_false, Bool.false_eq_true, reduceCtorEq, Option.some.injEq] at e0 e1 e2 e3 e4 e5 e6 e7 o0 o1 o2 o3 o4 o5 o6 o7 o8 o9
  refine ⟨by rw [List.length_set]; exact H.len, phw, by omega, by omega, by omega, by omega, by omega, by omega, by omega, by omega, by omega, fun q hm => ?_, fun q hm v hv => ?_, fun q hm a ha => ?_⟩
  · rcases mem_set_cases hi hm with rfl | ⟨j, hj, hji, rfl⟩
    · refine ⟨by simp [wHd, wIn, wUp, wPd, wA2], fun w hw => ?_, fun v hv => ?_, fun v hv => ?_, by simp [wUp, wRd]⟩
      · first | (cases hw; done) | (obtain rfl := Option.some.inj hw; exact ⟨by omega, rfl, rfl⟩)
      · first | (cases hv; done) | rfl
      · first | (cases hv; done) | rfl
    · exact H.ok _ (getD_mem_ hj)
  · rcases mem_set_cases hi hm with rfl | ⟨j, hj, hji, rfl⟩
    · first | (cases hv; done) | (obtain rfl := Option.some.inj hv; exact QB _ rfl)
    · exact H.bs _ (getD_mem_ hj) v hv
  · rcases mem_set_cases hi hm with rfl | ⟨j, hj, hji, rfl⟩
    · first | (cases ha; done) | (obtain rfl := Option.some.inj ha; omega)
    · obtain ⟨A, a1, a2⟩ := H.sn _ (getD_mem_ hj) a ha
      exact ⟨A, a1, by omega⟩

theorem PhIs.phaseU (H : PhIs l x0 x1 ph Rin Rout) (hi : i < l.length) (hq : l.getD i Ph.none = ⟨true, false, false, false, false, true, .none, .none, .none⟩) : PhIs (l.set i ⟨true, false, false, false, false, true, .none, some ph, .none⟩) (x0) (x1) (ph) (Rin) (Rout) := by
  have QM := getD_mem_ (d := Ph.none) hi
  have QA := fun h j hj hji => H.alone hi hq h (j := j) hj hji
  have ⟨o8, o9⟩ := H.own hi hq
  rw [hq] at QM
  have QB := H.bs _ QM
  have QS := H.sn _ QM
  have QK := H.ok _ QM
  obtain ⟨⟨s0, s1, s2, s3, s4, s5, s6, s7⟩, s8, s9⟩ := H.sums
  have phw := H.phw
  have x1e := H.x1
  have cnt := H.cnt
  have on := H.on
  have off := H.off
  have one := H.one
  have wr := H.wr
  have ups := H.ups
  have lv := H.lv
  have nw := H.nw
  have e0 := ws_set (f := wHd) (d := Ph.none) (x := ⟨true, false, false, false, false, true, .none, some ph, .none⟩) hi
  have e1 := ws_set (f := wIn) (d := Ph.none) (x := ⟨true, false, false, false, false, true, .none, some ph, .none⟩) hi
  have e2 := ws_set (f := wUp) (d := Ph.none) (x := ⟨true, false, false, false, false, true, .none, some ph, .none⟩) hi
  have e3 := ws_set (f := wPd) (d := Ph.none) (x := ⟨true, false, false, false, false, true, .none, some ph, .none⟩) hi
  have e4 := ws_set (f := wA2) (d := Ph.none) (x := ⟨true, false, false, false, false, true, .none, some ph, .none⟩) hi
  have e5 := ws_set (f := wRd) (d := Ph.none) (x := ⟨true, false, false, false, false, true, .none, some ph, .none⟩) hi
  have e6 := ws_set (f := wOld ph) (d := Ph.none) (x := ⟨true, false, false, false, false, true, .none, some ph, .none⟩) hi
  have e7 := ws_set (f := wNew ph) (d := Ph.none) (x := ⟨true, false, false, false, false, true, .none, some ph, .none⟩) hi
  have o0 := ws_one (d := Ph.none) wHd_01 hi
  have o1 := ws_one (d := Ph.none) wIn_01 hi
  have o2 := ws_one (d := Ph.none) wUp_01 hi
  have o3 := ws_one (d := Ph.none) wPd_01 hi
  have o4 := ws_one (d := Ph.none) wA2_01 hi
  have o5 := ws_one (d := Ph.none) wRd_01 hi
  have o6 := ws_one (d := Ph.none) (wOld_01 (ph := ph)) hi
  have o7 := ws_one (d := Ph.none) (wNew_01 (ph := ph)) hi
  rw [hq] at e0 e1 e2 e3 e4 e5 e6 e7 o0 o1 o2 o3 o4 o5 o6 o7
  simp only [wHd, wIn, wUp, wPd, wA2, wRd, wOld, wNew, if_true, if_false, Bool.false_eq_true, reduceCtorEq, Option.some.injEq] at e0 e1 e2 e3 e4 e5 e6 e7 o0 o1 o2 o3 o4 o5 o6 o7 o8 o9
  refine ⟨by rw [List.length_set]; exact H.len, phw, by omega, by omega, by omega, by omega, by omega, by omega, by omega, by omega, by omega, fun q hm => ?_, fun q hm v hv => ?_, fun q hm a ha => ?_⟩
  · rcases mem_set_cases hi hm with rfl | ⟨j, hj, hji, rfl⟩
    · refine ⟨by simp [wHd, wIn, wUp, wPd, wA2], fun w hw => ?_, fun v hv => ?_, fun v hv => ?_, by simp [wUp, wRd]⟩
      · first | (cases hw; done) | (obtain rfl := Option.some.inj hw; exact ⟨by omega, rfl, rfl⟩)
      · first | (cases hv; done) | rfl
      · first | (cases hv; done) | rfl
    · exact H.ok _ (getD_mem_ hj)
  · rcases mem_set_cases hi hm with rfl | ⟨j, hj, hji, rfl⟩
    · first | (cases hv; done) | (obtain rfl := Option.some.inj hv; rfl)
    · exact H.bs _ (getD_mem_ hj) v hv
  · rcases mem_set_cases hi hm with rfl | ⟨j, hj, hji, rfl⟩
    · first | (cases ha; done) | (obtain rfl := Option.some.inj ha; omega)
    · obtain ⟨A, a1, a2⟩ := H.sn _ (getD_mem_ hj) a ha
      exact ⟨A, a1, by omega⟩

theorem PhIs.presentU (H : PhIs l x0 x1 ph Rin Rout) {v : Int} (hi : i < l.length) (hq : l.getD i Ph.none = ⟨true, false, false, false, false, true, .none, some v, .none⟩) : PhIs (l.set i ⟨true, false, false, true, false, true, .none, .none, some x0⟩) ((x0 + (2 + v % 2)) % 4294967296) (x1) (ph) (Rin) (Rout) := by
  have QM := getD_mem_ (d := Ph.none) hi
  have QA := fun h j hj hji => H.alone hi hq h (j := j) hj hji
  have ⟨o8, o9⟩ := H.own hi hq
  rw [hq] at QM
  have QB := H.bs _ QM
  have QS := H.sn _ QM
  have QK := H.ok _ QM
  obtain ⟨⟨s0, s1, s2, s3, s4, s5, s6, s7⟩, s8, s9⟩ := H.sums
  have phw := H.phw
  have x1e := H.x1
  have cnt := H.cnt
  have on := H.on
  have off := H.off
  have one := H.one
  have wr := H.wr
  have ups := H.ups
  have lv := H.lv
  have nw := H.nw
  have e0 := ws_set (f := wHd) (d := Ph.none) (x := ⟨true, false, false, true, false, true, .none, .none, some x0⟩) hi
  have e1 := ws_set (f := wIn) (d := Ph.none) (x := ⟨true, false, false, true, false, true, .none, .none, some x0⟩) hi
  have e2 := ws_set (f := wUp) (d := Ph.none) (x := ⟨true, false, false, true, false, true, .none, .none, some x0⟩) hi
  have e3 := ws_set (f := wPd) (d := Ph.none) (x := ⟨true, false, false, true, false, true, .none, .none, some x0⟩) hi
  have e4 := ws_set (f := wA2) (d := Ph.none) (x := ⟨true, false, false, true, false, true, .none, .none, some x0⟩) hi
  have e5 := ws_set (f := wRd) (d := Ph.none) (x := ⟨true, false, false, true, false, true, .none, .none, some x0⟩) hi
  have e6 := ws_set (f := wOld ph) (d := Ph.none) (x := ⟨true, false, false, true, false, true, .none, .none, some x0⟩) hi
  have e7 := ws_set (f := wNew ph) (d := Ph.none) (x := ⟨true, false, false, true, false, true, .none, .none, some x0⟩) hi
  have o0 := ws_one (d := Ph.none) wHd_01 hi
  have o1 := ws_one (d := Ph.none) wIn_01 hi
  have o2 := ws_one (d := Ph.none) wUp_01 hi
  have o3 := ws_one (d := Ph.none) wPd_01 hi
  have o4 := ws_one (d := Ph.none) wA2_01 hi
  have o5 := ws_one (d := Ph.none) wRd_01 hi
  have o6 := ws_one (d := Ph.none) (wOld_01 (ph := ph)) hi
  have o7 := ws_one (d := Ph.none) (wNew_01 (ph := ph)) hi
  rw [hq] at e0 e1 e2 e3 e4 e5 e6 e7 o0 o1 o2 o3 o4 o5 o6 o7
  simp only [wHd, wIn, wUp, wPd, wA2, wRd, wOld, wNew, if_true, if_false, Bool.false_eq_true, reduceCtorEq, Option.some.injEq] at e0 e1 e2 e3 e4 e5 e6 e7 o0 o1 o2 o3 o4 o5 o6 o7 o8 o9
  have hv := QB _ rfl
  subst hv
  refine ⟨by rw [List.length_set]; exact H.len, phw, by omega, by omega, by omega, by omega, by omega, by omega, by omega, by omega, by omega, fun q hm => ?_, fun q hm v hv => ?_, fun q hm a ha => ?_⟩
  · rcases mem_set_cases hi hm with rfl | ⟨j, hj, hji, rfl⟩
    · refine ⟨by simp [wHd, wIn, wUp, wPd, wA2], fun w hw => ?_, fun v hv => ?_, fun v hv => ?_, by simp [wUp, wRd]⟩
      · first | (cases hw; done) | (obtain rfl := Option.some.inj hw; exact ⟨by omega, rfl, rfl⟩)
      · first | (cases hv; done) | rfl
      · first | (cases hv; done) | rfl
    · exact H.ok _ (getD_mem_ hj)
  · rcases mem_set_cases hi hm with rfl | ⟨j, hj, hji, rfl⟩
    · first | (cases hv; done) | (obtain rfl := Option.some.inj hv; exact QB _ rfl)
    · exact H.bs _ (getD_mem_ hj) v hv
  · rcases mem_set_cases hi hm with rfl | ⟨j, hj, hji, rfl⟩
    · first | (cases ha; done) | (obtain rfl := Option.some.inj ha; exact ⟨Rin, by omega, by omega⟩)
    · exfalso
      have k1 := QA rfl j hj hji
      have k2 := (H.ok _ (getD_mem_ (d := Ph.none) hj)).sn a ha
      have k3 := (H.ok _ (getD_mem_ (d := Ph.none) hj)).some
      have k4 := wIn_01 (l.getD j Ph.none)
      have k5 := wUp_01 (l.getD j Ph.none)
      have k6 := wA2_01 (l.getD j Ph.none)
      simp only [wHd, wPd, k1, k2, if_true, Bool.false_eq_true, if_false] at k3
      omega

theorem PhIs.phaseW (H : PhIs l x0 x1 ph Rin Rout) (hi : i < l.length) (hq : l.getD i Ph.none = ⟨true, true, false, false, false, false, .none, .none, .none⟩) : PhIs (l.set i ⟨true, true, false, false, false, false, .none, some ph, .none⟩) (x0) (x1) (ph) (Rin) (Rout) := by
  have QM := getD_mem_ (d := Ph.none) hi
  have QA := fun h j hj hji => H.alone hi hq h (j := j) hj hji
  have ⟨o8, o9⟩ := H.own hi hq
  rw [hq] at QM
  have QB := H.bs _ QM
  have QS := H.sn _ QM
  have QK := H.ok _ QM
  obtain ⟨⟨s0, s1, s2, s3, s4, s5, s6, s7⟩, s8, s9⟩ := H.sums
  have phw := H.phw
  have x1e := H.x1
  have cnt := H.cnt
  have on := H.on
  have off := H.off
  have one := H.one
  have wr := H.wr
  have ups := H.ups
  have lv := H.lv
  have nw := H.nw
  have e0 := ws_set (f := wHd) (d := Ph.none) (x := ⟨true, true, false, false, false, false, .none, some ph, .none⟩) hi
  have e1 := ws_set (f := wIn) (d := Ph.none) (x := ⟨true, true, false, false, false, false, .none, some ph, .none⟩) hi
  have e2 := ws_set (f := wUp) (d := Ph.none) (x := ⟨true, true, false, false, false, false, .none, some ph, .none⟩) hi
  have e3 := ws_set (f := wPd) (d := Ph.none) (x := ⟨true, true, false, false, false, false, .none, some ph, .none⟩) hi
  have e4 := ws_set (f := wA2) (d := Ph.none) (x := ⟨true, true, false, false, false, false, .none, some ph, .none⟩) hi
  have e5 := ws_set (f := wRd) (d := Ph.none) (x := ⟨true, true, false, false, false, false, .none, some ph, .none⟩) hi
  have e6 := ws_set (f := wOld ph) (d := Ph.none) (x := ⟨true, true, false, false, false, false, .none, some ph, .none⟩) hi
  have e7 := ws_set (f := wNew ph) (d := Ph.none) (x := ⟨true, true, false, false, false, false, .none, some ph, .none⟩) hi
  have o0 := ws_one (d := Ph.none) wHd_01 hi
  have o1 := ws_one (d := Ph.none) wIn_01 hi
  have o2 := ws_one (d := Ph.none) wUp_01 hi
  have o3 := ws_one (d := Ph.none) wPd_01 hi
  have o4 := ws_one (d := Ph.none) wA2_01 hi
  have o5 := ws_one (d := Ph.none) wRd_01 hi
  have o6 := ws_one (d := Ph.none) (wOld_01 (ph := ph)) hi
  have o7 := ws_one (d := Ph.none) (wNew_01 (ph := ph)) hi
  rw [hq] at e0 e1 e2 e3 e4 e5 e6 e7 o0 o1 o2 o3 o4 o5 o6 o7
  simp only [wHd, wIn, wUp, wPd, wA2, wRd, wOld, wNew, if_true, if_false, Bool.false_eq_true, reduceCtorEq, Option.some.injEq] at e0 e1 e2 e3 e4 e5 e6 e7 o0 o1 o2 o3 o4 o5 o6 o7 o8 o9
  refine ⟨by rw [List.length_set]; exact H.len, phw, by omega, by omega, by omega, by omega, by omega, by omega, by omega, by omega, by omega, fun q hm => ?_, fun q hm v hv => ?_, fun q hm a ha => ?_⟩
  · rcases mem_set_cases hi hm with rfl | ⟨j, hj, hji, rfl⟩
    · refine ⟨by simp [wHd, wIn, wUp, wPd, wA2], fun w hw => ?_, fun v hv => ?_, fun v hv => ?_, by simp [wUp, wRd]⟩
      · first | (cases hw; done) | (obtain rfl := Option.some.inj hw; exact ⟨by omega, rfl, rfl⟩)
      · first | (cases hv; done) | rfl
      · first | (cases hv; done) | rfl
    · exact H.ok _ (getD_mem_ hj)
  · rcases mem_set_cases hi hm with rfl | ⟨j, hj, hji, rfl⟩
    · first | (cases hv; done) | (obtain rfl := Option.some.inj hv; rfl)
    · exact H.bs _ (getD_mem_ hj) v hv
  · rcases mem_set_cases hi hm with rfl | ⟨j, hj, hji, rfl⟩
    · first | (cases ha; done) | (obtain rfl := Option.some.inj ha; omega)
    · obtain ⟨A, a1, a2⟩ := H.sn _ (getD_mem_ hj) a ha
      exact ⟨A, a1, by omega⟩

theorem PhIs.admit (H : PhIs l x0 x1 ph Rin Rout) {a : Int} (hi : i < l.length) (hq : l.getD i Ph.none = ⟨true, false, false, true, false, false, .none, .none, some a⟩) (h0 : x1 = a) : PhIs (l.set i ⟨true, true, false, false, false, false, .none, .none, .none⟩) (x0) (x1) (ph) (Rin) (Rout) := by
  have QM := getD_mem_ (d := Ph.none) hi
  have QA := fun h j hj hji => H.alone hi hq h (j := j) hj hji
  have ⟨o8, o9⟩ := H.own hi hq
  rw [hq] at QM
  have QB := H.bs _ QM
  have QS := H.sn _ QM
  have QK := H.ok _ QM
  obtain ⟨⟨s0, s1, s2, s3, s4, s5, s6, s7⟩, s8, s9⟩ := H.sums
  have phw := H.phw
  have x1e := H.x1
  have cnt := H.cnt
  have on := H.on
  have off := H.off
  have one := H.one
  have wr := H.wr
  have ups := H.ups
  have lv := H.lv
  have nw := H.nw
  have e0 := ws_set (f := wHd) (d := Ph.none) (x := ⟨true, true, false, false, false, false, .none, .none, .none⟩) hi
  have e1 := ws_set (f := wIn) (d := Ph.none) (x := ⟨true, true, false, false, false, false, .none, .none, .none⟩) hi
  have e2 := ws_set (f := wUp) (d := Ph.none) (x := ⟨true, true, false, false, false, false, .none, .none, .none⟩) hi
  have e3 := ws_set (f := wPd) (d := Ph.none) (x := ⟨true, true, false, false, false, false, .none, .none, .none⟩) hi
  have e4 := ws_set (f := wA2) (d := Ph.none) (x := ⟨true, true, false, false, false, false, .none, .none, .none⟩) hi
  have e5 := ws_set (f := wRd) (d := Ph.none) (x := ⟨true, true, false, false, false, false, .none, .none, .none⟩) hi
  have e6 := ws_set (f := wOld ph) (d := Ph.none) (x := ⟨true, true, false, false, false, false, .none, .none, .none⟩) hi
  have e7 := ws_set (f := wNew ph) (d := Ph.none) (x := ⟨true, true, false, false, false, false, .none, .none, .none⟩) hi
  have o0 := ws_one (d := Ph.none) wHd_01 hi
  have o1 := ws_one (d := Ph.none) wIn_01 hi
  have o2 := ws_one (d := Ph.none) wUp_01 hi
  have o3 := ws_one (d := Ph.none) wPd_01 hi
  have o4 := ws_one (d := Ph.none) wA2_01 hi
  have o5 := ws_one (d := Ph.none) wRd_01 hi
  have o6 := ws_one (d := Ph.none) (wOld_01 (ph := ph)) hi
  have o7 := ws_one (d := Ph.none) (wNew_01 (ph := ph)) hi
  rw [hq] at e0 e1 e2 e3 e4 e5 e6 e7 o0 o1 o2 o3 o4 o5 o6 o7
  simp only [wHd, wIn, wUp, wPd, wA2, wRd, wOld, wNew, if_true, if_false, Bool.false_eq_true, reduceCtorEq, Option.some.injEq] at e0 e1 e2 e3 e4 e5 e6 e7 o0 o1 o2 o3 o4 o5 o6 o7 o8 o9
  obtain ⟨A, a1, a2⟩ := QS a rfl
  refine ⟨by rw [List.length_set]; exact H.len, phw, by omega, by omega, by omega, by omega, by omega, by omega, by omega, by omega, by omega, fun q hm => ?_, fun q hm v hv => ?_, fun q hm a ha => ?_⟩
  · rcases mem_set_cases hi hm with rfl | ⟨j, hj, hji, rfl⟩
    · refine ⟨by simp [wHd, wIn, wUp, wPd, wA2], fun w hw => ?_, fun v hv => ?_, fun v hv => ?_, by simp [wUp, wRd]⟩
      · first | (cases hw; done) | (obtain rfl := Option.some.inj hw; exact ⟨by omega, rfl, rfl⟩)
      · first | (cases hv; done) | rfl
      · first | (cases hv; done) | rfl
    · exact H.ok _ (getD_mem_ hj)
  · rcases mem_set_cases hi hm with rfl | ⟨j, hj, hji, rfl⟩
    · first | (cases hv; done) | (obtain rfl := Option.some.inj hv; exact QB _ rfl)
    · exact H.bs _ (getD_mem_ hj) v hv
  · rcases mem_set_cases hi hm with rfl | ⟨j, hj, hji, rfl⟩
    · first | (cases ha; done) | (obtain rfl := Option.some.inj ha; omega)
    · exfalso
      have k1 := QA rfl j hj hji
      have k2 := (H.ok _ (getD_mem_ (d := Ph.none) hj)).sn a ha
      have k3 := (H.ok _ (getD_mem_ (d := Ph.none) hj)).some
      have k4 := wIn_01 (l.getD j Ph.none)
      have k5 := wUp_01 (l.getD j Ph.none)
      have k6 := wA2_01 (l.getD j Ph.none)
      simp only [wHd, wPd, k1, k2, if_true, Bool.false_eq_true, if_false] at k3
      omega

theorem PhIs.admitU (H : PhIs l x0 x1 ph Rin Rout) {a : Int} (hi : i < l.length) (hq : l.getD i Ph.none = ⟨true, false, false, true, false, true, .none, .none, some a⟩) (h0 : x1 = (a - 256) % 4294967296) : PhIs (l.set i ⟨true, false, true, false, false, true, .none, .none, .none⟩) (x0) (x1) (ph) (Rin) (Rout) := by
  have QM := getD_mem_ (d := Ph.none) hi
  have QA := fun h j hj hji => H.alone hi hq h (j := j) hj hji
  have ⟨o8, o9⟩ := H.own hi hq
  rw [hq] at QM
  have QB := H.bs _ QM
  have QS := H.sn _ QM
  have QK := H.ok _ QM
  obtain ⟨⟨s0, s1, s2, s3, s4, s5, s6, s7⟩, s8, s9⟩ := H.sums
  have phw := H.phw
  have x1e := H.x1
  have cnt := H.cnt
  have on := H.on
  have off := H.off
  have one := H.one
  have wr := H.wr
  have ups := H.ups
  have lv := H.lv
  have nw := H.nw
  have e0 := ws_set (f := wHd) (d := Ph.none) (x := ⟨true, false, true, false, false, true, .none, .none, .none⟩) hi
  have e1 := ws_set (f := wIn) (d := Ph.none) (x := ⟨true, false, true, false, false, true, .none, .none, .none⟩) hi
  have e2 := ws_set (f := wUp) (d := Ph.none) (x := ⟨true, false, true, false, false, true, .none, .none, .none⟩) hi
  have e3 := ws_set (f := wPd) (d := Ph.none) (x := ⟨true, false, true, false, false, true, .none, .none, .none⟩) hi
  have e4 := ws_set (f := wA2) (d := Ph.none) (x := ⟨true, false, true, false, false, true, .none, .none, .none⟩) hi
  have e5 := ws_set (f := wRd) (d := Ph.none) (x := ⟨true, false, true, false, false, true, .none, .none, .none⟩) hi
  have e6 := ws_set (f := wOld ph) (d := Ph.none) (x := ⟨true, false, true, false, false, true, .none, .none, .none⟩) hi
  have e7 := ws_set (f := wNew ph) (d := Ph.none) (x := ⟨true, false, true, false, false, true, .none, .none, .none⟩) hi
  have o0 := ws_one (d := Ph.none) wHd_01 hi
  have o1 := ws_one (d := Ph.none) wIn_01 hi
  have o2 := ws_one (d := Ph.none) wUp_01 hi
  have o3 := ws_one (d := Ph.none) wPd_01 hi
  have o4 := ws_one (d := Ph.none) wA2_01 hi
  have o5 := ws_one (d := Ph.none) wRd_01 hi
  have o6 := ws_one (d := Ph.none) (wOld_01 (ph := ph)) hi
  have o7 := ws_one (d := Ph.none) (wNew_01 (ph := ph)) hi
  rw [hq] at e0 e1 e2 e3 e4 e5 e6 e7 o0 o1 o2 o3 o4 o5 o6 o7
  simp only [wHd, wIn, wUp, wPd, wA2, wRd, wOld, wNew, if_true, if_false, Bool.false_eq_true, reduceCtorEq, Option.some.injEq] at e0 e1 e2 e3 e4 e5 e6 e7 o0 o1 o2 o3 o4 o5 o6 o7 o8 o9
  obtain ⟨A, a1, a2⟩ := QS a rfl
  refine ⟨by rw [List.length_set]; exact H.len, phw, by omega, by omega, by omega, by omega, by omega, by omega, by omega, by omega, by omega, fun q hm => ?_, fun q hm v hv => ?_, fun q hm a ha => ?_⟩
  · rcases mem_set_cases hi hm with rfl | ⟨j, hj, hji, rfl⟩
    · refine ⟨by simp [wHd, wIn, wUp, wPd, wA2], fun w hw => ?_, fun v hv => ?_, fun v hv => ?_, by simp [wUp, wRd]⟩
      · first | (cases hw; done) | (obtain rfl := Option.some.inj hw; exact ⟨by omega, rfl, rfl⟩)
      · first | (cases hv; done) | rfl
      · first | (cases hv; done) | rfl
    · exact H.ok _ (getD_mem_ hj)
  · rcases mem_set_cases hi hm with rfl | ⟨j, hj, hji, rfl⟩
    · first | (cases hv; done) | (obtain rfl := Option.some.inj hv; exact QB _ rfl)
    · exact H.bs _ (getD_mem_ hj) v hv
  · rcases mem_set_cases hi hm with rfl | ⟨j, hj, hji, rfl⟩
    · first | (cases ha; done) | (obtain rfl := Option.some.inj ha; omega)
    · exfalso
      have k1 := QA rfl j hj hji
      have k2 := (H.ok _ (getD_mem_ (d := Ph.none) hj)).sn a ha
      have k3 := (H.ok _ (getD_mem_ (d := Ph.none) hj)).some
      have k4 := wIn_01 (l.getD j Ph.none)
      have k5 := wUp_01 (l.getD j Ph.none)
      have k6 := wA2_01 (l.getD j Ph.none)
      simp only [wHd, wPd, k1, k2, if_true, Bool.false_eq_true, if_false] at k3
      omega

theorem PhIs.leave (H : PhIs l x0 x1 ph Rin Rout) {v : Int} (hi : i < l.length) (hq : l.getD i Ph.none = ⟨true, true, false, false, false, false, .none, some v, .none⟩) : PhIs (l.set i ⟨true, false, false, false, true, false, .none, some v, .none⟩) ((x0 + -(2 + v % 2) % 4294967296) % 4294967296) (x1) (ph) (Rin) (Rout) := by
  have QM := getD_mem_ (d := Ph.none) hi
  have QA := fun h j hj hji => H.alone hi hq h (j := j) hj hji
  have ⟨o8, o9⟩ := H.own hi hq
  rw [hq] at QM
  have QB := H.bs _ QM
  have QS := H.sn _ QM
  have QK := H.ok _ QM
  obtain ⟨⟨s0, s1, s2, s3, s4, s5, s6, s7⟩, s8, s9⟩ := H.sums
  have phw := H.phw
  have x1e := H.x1
  have cnt := H.cnt
  have on := H.on
  have off := H.off
  have one := H.one
  have wr := H.wr
  have ups := H.ups
  have lv := H.lv
  have nw := H.nw
  have e0 := ws_set (f := wHd) (d := Ph.none) (x := ⟨true, false, false, false, true, false, .none, some v, .none⟩) hi
  have e1 := ws_set (f := wIn) (d := Ph.none) (x := ⟨true, false, false, false, true, false, .none, some v, .none⟩) hi
  have e2 := ws_set (f := wUp) (d := Ph.none) (x := ⟨true, false, false, false, true, false, .none, some v, .none⟩) hi
  have e3 := ws_set (f := wPd) (d := Ph.none) (x := ⟨true, false, false, false, true, false, .none, some v, .none⟩) hi
  have e4 := ws_set (f := wA2) (d := Ph.none) (x := ⟨true, false, false, false, true, false, .none, some v, .none⟩) hi
  have e5 := ws_set (f := wRd) (d := Ph.none) (x := ⟨true, false, false, false, true, false, .none, some v, .none⟩) hi
  have e6 := ws_set (f := wOld ph) (d := Ph.none) (x := ⟨true, false, false, false, true, false, .none, some v, .none⟩) hi
  have e7 := ws_set (f := wNew ph) (d := Ph.none) (x := ⟨true, false, false, false, true, false, .none, some v, .none⟩) hi
  have o0 := ws_one (d := Ph.none) wHd_01 hi
  have o1 := ws_one (d := Ph.none) wIn_01 hi
  have o2 := ws_one (d := Ph.none) wUp_01 hi
  have o3 := ws_one (d := Ph.none) wPd_01 hi
  have o4 := ws_one (d := Ph.none) wA2_01 hi
  have o5 := ws_one (d := Ph.none) wRd_01 hi
  have o6 := ws_one (d := Ph.none) (wOld_01 (ph := ph)) hi
  have o7 := ws_one (d := Ph.none) (wNew_01 (ph := ph)) hi
  rw [hq] at e0 e1 e2 e3 e4 e5 e6 e7 o0 o1 o2 o3 o4 o5 o6 o7
  simp only [wHd, wIn, wUp, wPd, wA2, wRd, wOld, wNew, if_true, if_false, Bool.false_eq_true, reduceCtorEq, Option.some.injEq] at e0 e1 e2 e3 e4 e5 e6 e7 o0 o1 o2 o3 o4 o5 o6 o7 o8 o9
  have hv := QB _ rfl
  subst hv
  refine ⟨by rw [List.length_set]; exact H.len, phw, by omega, by omega, by omega, by omega, by omega, by omega, by omega, by omega, by omega, fun q hm => ?_, fun q hm v hv => ?_, fun q hm a ha => ?_⟩
  · rcases mem_set_cases hi hm with rfl | ⟨j, hj, hji, rfl⟩
    · refine ⟨by simp [wHd, wIn, wUp, wPd, wA2], fun w hw => ?_, fun v hv => ?_, fun v hv => ?_, by simp [wUp, wRd]⟩
      · first | (cases hw; done) | (obtain rfl := Option.some.inj hw; exact ⟨by omega, rfl, rfl⟩)
      · first | (cases hv; done) | rfl
      · first | (cases hv; done) | rfl
    · exact H.ok _ (getD_mem_ hj)
  · rcases mem_set_cases hi hm with rfl | ⟨j, hj, hji, rfl⟩
    · first | (cases hv; done) | (obtain rfl := Option.some.inj hv; rfl)
    · exact H.bs _ (getD_mem_ hj) v hv
  · rcases mem_set_cases hi hm with rfl | ⟨j, hj, hji, rfl⟩
    · first | (cases ha; done) | (obtain rfl := Option.some.inj ha; omega)
    · exfalso
      have k1 := QA rfl j hj hji
      have k2 := (H.ok _ (getD_mem_ (d := Ph.none) hj)).sn a ha
      have k3 := (H.ok _ (getD_mem_ (d := Ph.none) hj)).some
      have k4 := wIn_01 (l.getD j Ph.none)
      have k5 := wUp_01 (l.getD j Ph.none)
      have k6 := wA2_01 (l.getD j Ph.none)
      simp only [wHd, wPd, k1, k2, if_true, Bool.false_eq_true, if_false] at k3
      omega

theorem PhIs.down (H : PhIs l x0 x1 ph Rin Rout) {v : Int} (hi : i < l.length) (hq : l.getD i Ph.none = ⟨true, true, false, false, false, false, .none, some v, .none⟩) : PhIs (l.set i ⟨true, false, false, false, true, true, .none, some v, .none⟩) ((x0 + (256 - (2 + v % 2)) % 4294967296) % 4294967296) (x1) (ph) (Rin + 1) (Rout) := by
  have QM := getD_mem_ (d := Ph.none) hi
  have QA := fun h j hj hji => H.alone hi hq h (j := j) hj hji
  have ⟨o8, o9⟩ := H.own hi hq
  rw [hq] at QM
  have QB := H.bs _ QM
  have QS := H.sn _ QM
  have QK := H.ok _ QM
  obtain ⟨⟨s0, s1, s2, s3, s4, s5, s6, s7⟩, s8, s9⟩ := H.sums
  have phw := H.phw
  have x1e := H.x1
  have cnt := H.cnt
  have on := H.on
  have off := H.off
  have one := H.one
  have wr := H.wr
  have ups := H.ups
  have lv := H.lv
  have nw := H.nw
  have e0 := ws_set (f := wHd) (d := Ph.none) (x := ⟨true, false, false, false, true, true, .none, some v, .none⟩) hi
  have e1 := ws_set (f := wIn) (d := Ph.none) (x := ⟨true, false, false, false, true, true, .none, some v, .none⟩) hi
  have e2 := ws_set (f := wUp) (d := Ph.none) (x := ⟨true, false, false, false, true, true, .none, some v, .none⟩) hi
  have e3 := ws_set (f := wPd) (d := Ph.none) (x := ⟨true, false, false, false, true, true, .none, some v, .none⟩) hi
  have e4 := ws_set (f := wA2) (d := Ph.none) (x := ⟨true, false, false, false, true, true, .none, some v, .none⟩) hi
  have e5 := ws_set (f := wRd) (d := Ph.none) (x := ⟨true, false, false, false, true, true, .none, some v, .none⟩) hi
  have e6 := ws_set (f := wOld ph) (d := Ph.none) (x := ⟨true, false, false, false, true, true, .none, some v, .none⟩) hi
  have e7 := ws_set (f := wNew ph) (d := Ph.none) (x := ⟨true, false, false, false, true, true, .none, some v, .none⟩) hi
  have o0 := ws_one (d := Ph.none) wHd_01 hi
  have o1 := ws_one (d := Ph.none) wIn_01 hi
  have o2 := ws_one (d := Ph.none) wUp_01 hi
  have o3 := ws_one (d := Ph.none) wPd_01 hi
  have o4 := ws_one (d := Ph.none) wA2_01 hi
  have o5 := ws_one (d := Ph.none) wRd_01 hi
  have o6 := ws_one (d := Ph.none) (wOld_01 (ph := ph)) hi
  have o7 := ws_one (d := Ph.none) (wNew_01 (ph := ph)) hi
  rw [hq] at e0 e1 e2 e3 e4 e5 e6 e7 o0 o1 o2 o3 o4 o5 o6 o7
  simp only [wHd, wIn, wUp, wPd, wA2, wRd, wOld, wNew, if_true, if_false, Bool.false_eq_true, reduceCtorEq, Option.some.injEq] at e0 e1 e2 e3 e4 e5 e6 e7 o0 o1 o2 o3 o4 o5 o6 o7 o8 o9
  have hv := QB _ rfl
  subst hv
  refine ⟨by rw [List.length_set]; exact H.len, phw, by omega, by omega, by omega, by omega, by omega, by omega, by omega, by omega, by omega, fun q hm => ?_, fun q hm v hv => ?_, fun q hm a ha => ?_⟩
  · rcases mem_set_cases hi hm with rfl | ⟨j, hj, hji, rfl⟩
    · refine ⟨by simp [wHd, wIn, wUp, wPd, wA2], fun w hw => ?_, fun v hv => ?_, fun v hv => ?_, by simp [wUp, wRd]⟩
      · first | (cases hw; done) | (obtain rfl := Option.some.inj hw; exact ⟨by omega, rfl, rfl⟩)
      · first | (cases hv; done) | rfl
      · first | (cases hv; done) | rfl
    · exact H.ok _ (getD_mem_ hj)
  · rcases mem_set_cases hi hm with rfl | ⟨j, hj, hji, rfl⟩
    · first | (cases hv; done) | (obtain rfl := Option.some.inj hv; rfl)
    · exact H.bs _ (getD_mem_ hj) v hv
  · rcases mem_set_cases hi hm with rfl | ⟨j, hj, hji, rfl⟩
    · first | (cases ha; done) | (obtain rfl := Option.some.inj ha; omega)
    · exfalso
      have k1 := QA rfl j hj hji
      have k2 := (H.ok _ (getD_mem_ (d := Ph.none) hj)).sn a ha
      have k3 := (H.ok _ (getD_mem_ (d := Ph.none) hj)).some
      have k4 := wIn_01 (l.getD j Ph.none)
      have k5 := wUp_01 (l.getD j Ph.none)
      have k6 := wA2_01 (l.getD j Ph.none)
      simp only [wHd, wPd, k1, k2, if_true, Bool.false_eq_true, if_false] at k3
      omega

theorem PhIs.upin (H : PhIs l x0 x1 ph Rin Rout) (hi : i < l.length) (hq : l.getD i Ph.none = ⟨true, false, true, false, false, true, .none, .none, .none⟩) : PhIs (l.set i ⟨true, true, false, false, false, false, .none, .none, .none⟩) (x0) ((x1 + 256) % 4294967296) (ph) (Rin) (Rout + 1) := by
  have QM := getD_mem_ (d := Ph.none) hi
  have QA := fun h j hj hji => H.alone hi hq h (j := j) hj hji
  have ⟨o8, o9⟩ := H.own hi hq
  rw [hq] at QM
  have QB := H.bs _ QM
  have QS := H.sn _ QM
  have QK := H.ok _ QM
  obtain ⟨⟨s0, s1, s2, s3, s4, s5, s6, s7⟩, s8, s9⟩ := H.sums
  have phw := H.phw
  have x1e := H.x1
  have cnt := H.cnt
  have on := H.on
  have off := H.off
  have one := H.one
  have wr := H.wr
  have ups := H.ups
  have lv := H.lv
  have nw := H.nw
  have e0 := ws_set (f := wHd) (d := Ph.none) (x := ⟨true, true, false, false, false, false, .none, .none, .none⟩) hi
  have e1 := ws_set (f := wIn) (d := Ph.none) (x := ⟨true, true, false, false, false, false, .none, .none, .none⟩) hi
  have e2 := ws_set (f := wUp) (d := Ph.none) (x := ⟨true, true, false, false, false, false, .none, .none, .none⟩) hi
  have e3 := ws_set (f := wPd) (d := Ph.none) (x := ⟨true, true, false, false, false, false, .none, .none, .none⟩) hi
  have e4 := ws_set (f := wA2) (d := Ph.none) (x := ⟨true, true, false, false, false, false, .none, .none, .none⟩) hi
  have e5 := ws_set (f := wRd) (d := Ph.none) (x := ⟨true, true, false, false, false, false, .none, .none, .none⟩) hi
  have e6 := ws_set (f := wOld ph) (d := Ph.none) (x := ⟨true, true, false, false, false, false, .none, .none, .none⟩) hi
  have e7 := ws_set (f := wNew ph) (d := Ph.none) (x := ⟨true, true, false, false, false, false, .none, .none, .none⟩) hi
  have o0 := ws_one (d := Ph.none) wHd_01 hi
  have o1 := ws_one (d := Ph.none) wIn_01 hi
  have o2 := ws_one (d := Ph.none) wUp_01 hi
  have o3 := ws_one (d := Ph.none) wPd_01 hi
  have o4 := ws_one (d := Ph.none) wA2_01 hi
  have o5 := ws_one (d := Ph.none) wRd_01 hi
  have o6 := ws_one (d := Ph.none) (wOld_01 (ph := ph)) hi
  have o7 := ws_one (d := Ph.none) (wNew_01 (ph := ph)) hi
  rw [hq] at e0 e1 e2 e3 e4 e5 e6 e7 o0 o1 o2 o3 o4 o5 o6 o7
  simp only [wHd, wIn, wUp, wPd, wA2, wRd, wOld, wNew, if_true, if_false, Bool.false_eq_true, reduceCtorEq, Option.some.injEq] at e0 e1 e2 e3 e4 e5 e6 e7 o0 o1 o2 o3 o4 o5 o6 o7 o8 o9
  refine ⟨by rw [List.length_set]; exact H.len, phw, by omega, by omega, by omega, by omega, by omega, by omega, by omega, by omega, by omega, fun q hm => ?_, fun q hm v hv => ?_, fun q hm a ha => ?_⟩
  · rcases mem_set_cases hi hm with rfl | ⟨j, hj, hji, rfl⟩
    · refine ⟨by simp [wHd, wIn, wUp, wPd, wA2], fun w hw => ?_, fun v hv => ?_, fun v hv => ?_, by simp [wUp, wRd]⟩
      · first | (cases hw; done) | (obtain rfl := Option.some.inj hw; exact ⟨by omega, rfl, rfl⟩)
      · first | (cases hv; done) | rfl
      · first | (cases hv; done) | rfl
    · exact H.ok _ (getD_mem_ hj)
  · rcases mem_set_cases hi hm with rfl | ⟨j, hj, hji, rfl⟩
    · first | (cases hv; done) | (obtain rfl := Option.some.inj hv; exact QB _ rfl)
    · exact H.bs _ (getD_mem_ hj) v hv
  · rcases mem_set_cases hi hm with rfl | ⟨j, hj, hji, rfl⟩
    · first | (cases ha; done) | (obtain rfl := Option.some.inj ha; omega)
    · exfalso
      have k1 := QA rfl j hj hji
      have k2 := (H.ok _ (getD_mem_ (d := Ph.none) hj)).sn a ha
      have k3 := (H.ok _ (getD_mem_ (d := Ph.none) hj)).some
      have k4 := wIn_01 (l.getD j Ph.none)
      have k5 := wUp_01 (l.getD j Ph.none)
      have k6 := wA2_01 (l.getD j Ph.none)
      simp only [wHd, wPd, k1, k2, if_true, Bool.false_eq_true, if_false] at k3
      omega

theorem PhIs.store (H : PhIs l x0 x1 ph Rin Rout) {v : Int} (hi : i < l.length) (hq : l.getD i Ph.none = ⟨true, false, false, false, true, false, .none, some v, .none⟩) : PhIs (l.set i ⟨true, false, false, false, false, false, .none, .none, .none⟩) (x0) (x1) ((v + 1) % 4294967296) (Rin) (Rout) := by
  have QM := getD_mem_ (d := Ph.none) hi
  have QA := fun h j hj hji => H.alone hi hq h (j := j) hj hji
  have ⟨o8, o9⟩ := H.own hi hq
  rw [hq] at QM
  have QB := H.bs _ QM
  have QS := H.sn _ QM
  have QK := H.ok _ QM
  obtain ⟨⟨s0, s1, s2, s3, s4, s5, s6, s7⟩, s8, s9⟩ := H.sums
  have phw := H.phw
  have x1e := H.x1
  have cnt := H.cnt
  have on := H.on
  have off := H.off
  have one := H.one
  have wr := H.wr
  have ups := H.ups
  have lv := H.lv
  have nw := H.nw
  have e0 := ws_set (f := wHd) (d := Ph.none) (x := ⟨true, false, false, false, false, false, .none, .none, .none⟩) hi
  have e1 := ws_set (f := wIn) (d := Ph.none) (x := ⟨true, false, false, false, false, false, .none, .none, .none⟩) hi
  have e2 := ws_set (f := wUp) (d := Ph.none) (x := ⟨true, false, false, false, false, false, .none, .none, .none⟩) hi
  have e3 := ws_set (f := wPd) (d := Ph.none) (x := ⟨true, false, false, false, false, false, .none, .none, .none⟩) hi
  have e4 := ws_set (f := wA2) (d := Ph.none) (x := ⟨true, false, false, false, false, false, .none, .none, .none⟩) hi
  have e5 := ws_set (f := wRd) (d := Ph.none) (x := ⟨true, false, false, false, false, false, .none, .none, .none⟩) hi
  have e6 := ws_set (f := wOld ph) (d := Ph.none) (x := ⟨true, false, false, false, false, false, .none, .none, .none⟩) hi
  have e7 := ws_set (f := wNew ph) (d := Ph.none) (x := ⟨true, false, false, false, false, false, .none, .none, .none⟩) hi
  have o0 := ws_one (d := Ph.none) wHd_01 hi
  have o1 := ws_one (d := Ph.none) wIn_01 hi
  have o2 := ws_one (d := Ph.none) wUp_01 hi
  have o3 := ws_one (d := Ph.none) wPd_01 hi
  have o4 := ws_one (d := Ph.none) wA2_01 hi
  have o5 := ws_one (d := Ph.none) wRd_01 hi
  have o6 := ws_one (d := Ph.none) (wOld_01 (ph := ph)) hi
  have o7 := ws_one (d := Ph.none) (wNew_01 (ph := ph)) hi
  rw [hq] at e0 e1 e2 e3 e4 e5 e6 e7 o0 o1 o2 o3 o4 o5 o6 o7
  simp only [wHd, wIn, wUp, wPd, wA2, wRd, wOld, wNew, if_true, if_false, Bool.false_eq_true, reduceCtorEq, Option.some.injEq] at e0 e1 e2 e3 e4 e5 e6 e7 o0 o1 o2 o3 o4 o5 o6 o7 o8 o9
  have hv := QB _ rfl
  subst hv
  have eo : wOld ((v + 1) % 4294967296) = wNew v := by
    funext q
    unfold wOld wNew
    rw [show (2 : Int) + ((v + 1) % 4294967296 + 1) % 2 = 2 + v % 2 by omega]
  have en : wNew ((v + 1) % 4294967296) = wOld v := by
    funext q
    unfold wOld wNew
    rw [show (2 : Int) + (v + 1) % 4294967296 % 2 = 2 + (v + 1) % 2 by omega]
  refine ⟨by rw [List.length_set]; exact H.len, by omega, by omega, by (try simp only [eo, en]); omega, by (try simp only [eo, en]); omega, by (try simp only [eo, en]); omega, by (try simp only [eo, en]); omega, by (try simp only [eo, en]); omega, by (try simp only [eo, en]); omega, by (try simp only [eo, en]); omega, by (try simp only [eo, en]); omega, fun q hm => ?_, fun q hm v hv => ?_, fun q hm a ha => ?_⟩
  · rcases mem_set_cases hi hm with rfl | ⟨j, hj, hji, rfl⟩
    · refine ⟨by simp [wHd, wIn, wUp, wPd, wA2], fun w hw => ?_, fun v hv => ?_, fun v hv => ?_, by simp [wUp, wRd]⟩
      · first | (cases hw; done) | (obtain rfl := Option.some.inj hw; exact ⟨by omega, rfl, rfl⟩)
      · first | (cases hv; done) | rfl
      · first | (cases hv; done) | rfl
    · exact H.ok _ (getD_mem_ hj)
  · rcases mem_set_cases hi hm with rfl | ⟨j, hj, hji, rfl⟩
    · first | (cases hv; done) | (obtain rfl := Option.some.inj hv; exact QB _ rfl)
    · exfalso
      have k1 := QA rfl j hj hji
      have k2 := (H.ok _ (getD_mem_ (d := Ph.none) hj)).b _ hv
      rw [k1] at k2
      cases k2
  · rcases mem_set_cases hi hm with rfl | ⟨j, hj, hji, rfl⟩
    · first | (cases ha; done) | (obtain rfl := Option.some.inj ha; omega)
    · exfalso
      have k1 := QA rfl j hj hji
      have k2 := (H.ok _ (getD_mem_ (d := Ph.none) hj)).sn a ha
      have k3 := (H.ok _ (getD_mem_ (d := Ph.none) hj)).some
      have k4 := wIn_01 (l.getD j Ph.none)
      have k5 := wUp_01 (l.getD j Ph.none)
      have k6 := wA2_01 (l.getD j Ph.none)
      simp only [wHd, wPd, k1, k2, if_true, Bool.false_eq_true, if_false] at k3
      omega

theorem PhIs.storeU (H : PhIs l x0 x1 ph Rin Rout) {v : Int} (hi : i < l.length) (hq : l.getD i Ph.none = ⟨true, false, false, false, true, true, .none, some v, .none⟩) : PhIs (l.set i ⟨true, false, false, false, false, true, .none, .none, .none⟩) (x0) (x1) ((v + 1) % 4294967296) (Rin) (Rout) := by
  have QM := getD_mem_ (d := Ph.none) hi
  have QA := fun h j hj hji => H.alone hi hq h (j := j) hj hji
  have ⟨o8, o9⟩ := H.own hi hq
  rw [hq] at QM
  have QB := H.bs _ QM
  have QS := H.sn _ QM
  have QK := H.ok _ QM
  obtain ⟨⟨s0, s1, s2, s3, s4, s5, s6, s7⟩, s8, s9⟩ := H.sums
  have phw := H.phw
  have x1e := H.x1
  have cnt := H.cnt
  have on := H.on
  have off := H.off
  have one := H.one
  have wr := H.wr
  have ups := H.ups
  have lv := H.lv
  have nw := H.nw
  have e0 := ws_set (f := wHd) (d := Ph.none) (x := ⟨true, false, false, false, false, true, .none, .none, .none⟩) hi
  have e1 := ws_set (f := wIn) (d := Ph.none) (x := ⟨true, false, false, false, false, true, .none, .none, .none⟩) hi
  have e2 := ws_set (f := wUp) (d := Ph.none) (x := ⟨true, false, false, false, false, true, .none, .none, .none⟩) hi
  have e3 := ws_set (f := wPd) (d := Ph.none) (x := ⟨true, false, false, false, false, true, .none, .none, .none⟩) hi
  have e4 := ws_set (f := wA2) (d := Ph.none) (x := ⟨true, false, false, false, false, true, .none, .none, .none⟩) hi
  have e5 := ws_set (f := wRd) (d := Ph.none) (x := ⟨true, false, false, false, false, true, .none, .none, .none⟩) hi
  have e6 := ws_set (f := wOld ph) (d := Ph.none) (x := ⟨true, false, false, false, false, true, .none, .none, .none⟩) hi
  have e7 := ws_set (f := wNew ph) (d := Ph.none) (x := ⟨true, false, false, false, false, true, .none, .none, .none⟩) hi
  have o0 := ws_one (d := Ph.none) wHd_01 hi
  have o1 := ws_one (d := Ph.none) wIn_01 hi
  have o2 := ws_one (d := Ph.none) wUp_01 hi
  have o3 := ws_one (d := Ph.none) wPd_01 hi
  have o4 := ws_one (d := Ph.none) wA2_01 hi
  have o5 := ws_one (d := Ph.none) wRd_01 hi
  have o6 := ws_one (d := Ph.none) (wOld_01 (ph := ph)) hi
  have o7 := ws_one (d := Ph.none) (wNew_01 (ph := ph)) hi
  rw [hq] at e0 e1 e2 e3 e4 e5 e6 e7 o0 o1 o2 o3 o4 o5 o6 o7
  simp only [wHd, wIn, wUp, wPd, wA2, wRd, wOld, wNew, if_true, if_false, Bool.false_eq_true, reduceCtorEq, Option.some.injEq] at e0 e1 e2 e3 e4 e5 e6 e7 o0 o1 o2 o3 o4 o5 o6 o7 o8 o9
  have hv := QB _ rfl
  subst hv
  have eo : wOld ((v + 1) % 4294967296) = wNew v := by
    funext q
    unfold wOld wNew
    rw [show (2 : Int) + ((v + 1) % 4294967296 + 1) % 2 = 2 + v % 2 by omega]
  have en : wNew ((v + 1) % 4294967296) = wOld v := by
    funext q
    unfold wOld wNew
    rw [show (2 : Int) + (v + 1) % 4294967296 % 2 = 2 + (v + 1) % 2 by omega]
  refine ⟨by rw [List.length_set]; exact H.len, by omega, by omega, by (try simp only [eo, en]); omega, by (try simp only [eo, en]); omega, by (try simp only [eo, en]); omega, by (try simp only [eo, en]); omega, by (try simp only [eo, en]); omega, by (try simp only [eo, en]); omega, by (try simp only [eo, en]); omega, by (try simp only [eo, en]); omega, fun q hm => ?_, fun q hm v hv => ?_, fun q hm a ha => ?_⟩
  · rcases mem_set_cases hi hm with rfl | ⟨j, hj, hji, rfl⟩
    · refine ⟨by simp [wHd, wIn, wUp, wPd, wA2], fun w hw => ?_, fun v hv => ?_, fun v hv => ?_, by simp [wUp, wRd]⟩
      · first | (cases hw; done) | (obtain rfl := Option.some.inj hw; exact ⟨by omega, rfl, rfl⟩)
      · first | (cases hv; done) | rfl
      · first | (cases hv; done) | rfl
    · exact H.ok _ (getD_mem_ hj)
  · rcases mem_set_cases hi hm with rfl | ⟨j, hj, hji, rfl⟩
    · first | (cases hv; done) | (obtain rfl := Option.some.inj hv; exact QB _ rfl)
    · exfalso
      have k1 := QA rfl j hj hji
      have k2 := (H.ok _ (getD_mem_ (d := Ph.none) hj)).b _ hv
      rw [k1] at k2
      cases k2
  · rcases mem_set_cases hi hm with rfl | ⟨j, hj, hji, rfl⟩
    · first | (cases ha; done) | (obtain rfl := Option.some.inj ha; omega)
    · exfalso
      have k1 := QA rfl j hj hji
      have k2 := (H.ok _ (getD_mem_ (d := Ph.none) hj)).sn a ha
      have k3 := (H.ok _ (getD_mem_ (d := Ph.none) hj)).some
      have k4 := wIn_01 (l.getD j Ph.none)
      have k5 := wUp_01 (l.getD j Ph.none)
      have k6 := wA2_01 (l.getD j Ph.none)
      simp only [wHd, wPd, k1, k2, if_true, Bool.false_eq_true, if_false] at k3
      omega

/-- Where all that are there wait, nobody is. -/
theorem PhIs.free (H : PhIs l x0 x1 ph Rin Rout) (hb : ∀ q, q ∈ l → q.inn = false ∧ q.up = false ∧ q.a2 = false ∧ (q.rd = true → q.pd = true) ∧ (∀ w, q.wt = some w → x0 % 4 = w) ∧ (q.pd = true → ∃ a, q.sn = some a ∧ ¬ x1 = (if q.rd then (a - 256) % 4294967296 else a))) :
    ∀ q, q ∈ l → q.wt = none ∧ q.pd = false := by
  obtain ⟨⟨s0, s1, s2, s3, s4, s5, s6, s7⟩, s8, s9⟩ := H.sums
  have one := H.one
  have on := H.on
  have off := H.off
  have x1e := H.x1
  have i0 : ws wIn l = 0 := ws_zero (fun q hq => by unfold wIn; rw [(hb q hq).1]; rfl)
  have u0 : ws wUp l = 0 := ws_zero (fun q hq => by unfold wUp; rw [(hb q hq).2.1]; rfl)
  have pd0 : ws wPd l = 0 := by
    rcases (show ws wPd l = 0 ∨ ws wPd l = 1 by omega) with h | h
    · exact h
    · exfalso
      obtain ⟨i, hi, hp⟩ := ws_some (d := Ph.none) (f := wPd) (l := l) (n := l.length) rfl (by omega)
      have QM := getD_mem_ (d := Ph.none) hi
      have hpd : (l.getD i Ph.none).pd = true := by
        unfold wPd at hp
        cases h : (l.getD i Ph.none).pd with
        | true => rfl
        | false => rw [h] at hp; exact absurd rfl hp
      obtain ⟨a, ha, hne⟩ := (hb _ QM).2.2.2.2.2 hpd
      obtain ⟨A, a1, a2⟩ := H.sn _ QM a ha
      have o0 : ws (wOld ph) l = 0 := ws_zero (fun q hq => by
        unfold wOld
        split
        · rename_i hw
          have := (hb q hq).2.2.2.2.1 _ hw
          omega
        · rfl)
      have r1 : ws wRd l = wRd (l.getD i Ph.none) := by
        have e := ws_set (f := wRd) (d := Ph.none) (x := Ph.none) hi
        have z : ws wRd (l.set i Ph.none) = 0 := ws_zero (fun q hq => by
          rcases mem_set_cases hi hq with rfl | ⟨j, hj, hji, rfl⟩
          · rfl
          · have k1 := H.alone hi rfl ((H.ok _ QM).turn hpd) hj hji
            have hm := getD_mem_ (d := Ph.none) hj
            unfold wRd
            cases hr : (l.getD j Ph.none).rd with
            | false => rfl
            | true =>
              exfalso
              have k2 := (hb _ hm).2.2.2.1 hr
              have k3 := (H.ok _ hm).some
              have k4 := wIn_01 (l.getD j Ph.none)
              have k5 := wUp_01 (l.getD j Ph.none)
              have k6 := wA2_01 (l.getD j Ph.none)
              simp only [wHd, wPd, k1, k2, if_true, Bool.false_eq_true, if_false] at k3
              omega)
        have z0 : wRd Ph.none = 0 := rfl
        omega
      rw [o0, r1] at a2
      unfold wRd at a2
      cases hr : (l.getD i Ph.none).rd with
      | true =>
        rw [hr] at a2 hne
        simp only [if_true] at a2 hne
        exact hne (by omega)
      | false =>
        rw [hr] at a2 hne
        simp only [Bool.false_eq_true, if_false] at a2 hne
        exact hne (by omega)
  intro q hq
  constructor
  · cases hw : q.wt with
    | none => rfl
    | some w =>
      exfalso
      have h1 := (hb q hq).2.2.2.2.1 w hw
      have h2 := ((H.ok q hq).wt w hw).1
      have h3 := off (by omega)
      omega
  · cases hp : q.pd with
    | false => rfl
    | true =>
      exfalso
      obtain ⟨i, hi, rfl⟩ := List.getElem_of_mem hq
      have := ws_one (d := Ph.none) wPd_01 hi
      unfold wPd at this
      rw [show l.getD i Ph.none = l[i] by simp [List.getD, hi], hp] at this
      have e : ws (fun q : Ph => if q.pd = true then (1 : Int) else 0) l = ws wPd l := rfl
      simp only [if_true] at this
      omega
end
end Go.Proofs.Ytmbbcgkfankiaaa.Z

/- The phase-fair lock: where a task is, what a step does. No program is in sight. Written by genpflive.py. -/
set_option linter.unusedVariables false
set_option linter.unusedSimpArgs false
namespace Go.Proofs.Ytmbbcgkfankiaaa.Z
open Go.RowKit

/-- Where a task is. -/
inductive PfP
  | idle (h : Int)
  | r0
  | r1 (a : Int)
  | u0
  | q0 (a : Int)
  | q1 (a : Int)
  | l0
  | l1 (a : Int)
  | l2 (a : Int)
  | l3 (a : Int) (b : Int)
  | l4 (a : Int) (b : Int)
  | v0
  | v1 (b : Int)
  | v2 (b : Int)
  | v3 (b : Int)
  | d0
  | d1 (b : Int)
  | d2 (b : Int)
  | d3 (b : Int)
  | y0 (a : Int) (b : Int)
  | y1 (a : Int) (b : Int)
  | y2 (a : Int) (b : Int)
  | y3 (a : Int) (b : Int)
  | y4 (a : Int) (b : Int)
  | y5 (a : Int) (b : Int)
  | y6 (a : Int) (b : Int)
  | y7 (a : Int) (b : Int)
  | y9 (a : Int) (b : Int)
  | z0 (a : Int) (b : Int)
  | z1 (a : Int) (b : Int)
  | z2 (a : Int) (b : Int)
  | z3 (a : Int) (b : Int)
  | z4 (a : Int) (b : Int)
  | z5 (a : Int) (b : Int)
  | z6 (a : Int) (b : Int)
  | z7 (a : Int) (b : Int)
  | z8 (a : Int) (b : Int)
  | z9 (a : Int) (b : Int)
def pfFr (op line a b : Int) : Fr := ⟨op, line, a, b, 0, Wk.zero, 0⟩
def pfConc : PfP → Fr × Int
  | .idle h => (Fr.zero, h)
  | .r0 => (pfFr 1 0 0 0, 0)
  | .r1 a => (pfFr 1 1 a 0, 0)
  | .u0 => (pfFr 2 0 0 0, 0)
  | .q0 a => (pfFr 5 0 a 0, 0)
  | .q1 a => (pfFr 5 1 a 0, 0)
  | .l0 => (pfFr 3 0 0 0, 0)
  | .l1 a => (pfFr 3 1 a 0, 0)
  | .l2 a => (pfFr 3 2 a 0, 0)
  | .l3 a b => (pfFr 3 3 a b, 0)
  | .l4 a b => (pfFr 3 4 a b, 0)
  | .v0 => (pfFr 4 0 0 0, 0)
  | .v1 b => (pfFr 4 1 0 b, 0)
  | .v2 b => (pfFr 4 2 0 b, 0)
  | .v3 b => (pfFr 4 3 0 b, 0)
  | .d0 => (pfFr 8 0 0 0, 1)
  | .d1 b => (pfFr 8 1 0 b, 1)
  | .d2 b => (pfFr 8 2 0 b, 1)
  | .d3 b => (pfFr 8 3 0 b, 1)
  | .y0 a b => (pfFr 6 0 a b, 0)
  | .y1 a b => (pfFr 6 1 a b, 0)
  | .y2 a b => (pfFr 6 2 a b, 0)
  | .y3 a b => (pfFr 6 3 a b, 0)
  | .y4 a b => (pfFr 6 4 a b, 0)
  | .y5 a b => (pfFr 6 5 a b, 0)
  | .y6 a b => (pfFr 6 6 a b, 0)
  | .y7 a b => (pfFr 6 7 a b, 0)
  | .y9 a b => (pfFr 6 9 a b, 0)
  | .z0 a b => (pfFr 7 0 a b, 1)
  | .z1 a b => (pfFr 7 1 a b, 1)
  | .z2 a b => (pfFr 7 2 a b, 1)
  | .z3 a b => (pfFr 7 3 a b, 1)
  | .z4 a b => (pfFr 7 4 a b, 1)
  | .z5 a b => (pfFr 7 5 a b, 1)
  | .z6 a b => (pfFr 7 6 a b, 1)
  | .z7 a b => (pfFr 7 7 a b, 1)
  | .z8 a b => (pfFr 7 8 a b, 1)
  | .z9 a b => (pfFr 7 9 a b, 1)
def pfWait : PfP → Option (Nat × (Int → Bool))
  | .r1 a => some (0, fun v => v % 4 != a % 4)
  | .l1 a => some (3, fun v => v == a)
  | .l4 a b => some (1, fun v => v == a)
  | .y7 a b => some (1, fun v => v == a)
  | .z7 a b => some (1, fun v => v == (a - 256) % 4294967296)
  | _ => none
def pfPost : PfP → PfP
  | .r1 _ => .idle 1
  | .l1 a => .l2 a
  | .l4 _ _ => .idle 2
  | .y7 _ _ => .idle 2
  | .z7 a b => .z8 a b
  | p => p
def pfKeep : PfP → Int
  | .r1 a => a
  | .l1 a => a
  | .l4 a _ => a
  | .y7 a _ => a
  | .z7 a _ => a
  | _ => 0
def pfAct (x0 x1 x2 x3 x4 : Int) : PfP → PfP × Option (Nat × Int) × Option Nat
  | .r0 => (if x0 % 4 = 0 then .idle 1 else .r1 x0, some (0, (x0 + 256) % 4294967296), none)
  | .u0 => (.idle 0, some (1, (x1 + 256) % 4294967296), some 1)
  | .q0 _ => (if x0 % 4 = 0 then .q1 x0 else .idle 0, none, none)
  | .q1 a => if x0 = a then (.idle 1, some (0, (a + 256) % 4294967296), none) else (.q0 a, none, none)
  | .l0 => (.l1 x2, some (2, (x2 + 1) % 4294967296), none)
  | .l2 a => (.l3 a x4, none, none)
  | .l3 _ b => (.l4 x0 b, some (0, (x0 + pfP b) % 4294967296), none)
  | .v0 => (.v1 x4, none, none)
  | .v1 b => (.v2 b, some (0, (x0 + -pfP b % 4294967296) % 4294967296), some 0)
  | .v2 b => (.v3 b, some (4, (b + 1) % 4294967296), none)
  | .v3 _ => (.idle 0, some (3, (x3 + 1) % 4294967296), some 3)
  | .d0 => (.d1 x4, none, none)
  | .d1 b => (.d2 b, some (0, (x0 + (256 - pfP b) % 4294967296) % 4294967296), some 0)
  | .d2 b => (.d3 b, some (4, (b + 1) % 4294967296), none)
  | .d3 _ => (.idle 1, some (3, (x3 + 1) % 4294967296), some 3)
  | .y0 _ b => (.y1 x2 b, none, none)
  | .y1 a _ => (if 0 < aheadA a x3 then .idle 0 else if aheadA a x3 < 0 then .y0 a x3 else .y2 a x3, none, none)
  | .y2 a b => if x2 = a then (.y3 a b, some (2, (a + 1) % 4294967296), none) else (.y0 a b, none, none)
  | .y3 _ b => (.y4 x0 b, none, none)
  | .y4 a _ => (if 0 < aheadA a x1 then .y9 a x1 else .y5 a x1, none, none)
  | .y5 a _ => (.y6 a x4, none, none)
  | .y6 _ b => (.y7 x0 b, some (0, (x0 + pfP b) % 4294967296), none)
  | .y9 _ _ => (.idle 0, some (3, (x3 + 1) % 4294967296), some 3)
  | .z0 _ b => (.z1 x2 b, none, none)
  | .z1 a _ => (if 0 < aheadA a x3 then .idle 1 else if aheadA a x3 < 0 then .z0 a x3 else .z2 a x3, none, none)
  | .z2 a b => if x2 = a then (.z3 a b, some (2, (a + 1) % 4294967296), none) else (.z0 a b, none, none)
  | .z3 _ b => (.z4 x0 b, none, none)
  | .z4 a _ => (if 256 < aheadA a x1 then .z9 a x1 else .z5 a x1, none, none)
  | .z5 a _ => (.z6 a x4, none, none)
  | .z6 _ b => (.z7 x0 b, some (0, (x0 + pfP b) % 4294967296), none)
  | .z9 _ _ => (.idle 1, some (3, (x3 + 1) % 4294967296), some 3)
  | .z8 _ _ => (.idle 2, some (1, (x1 + 256) % 4294967296), none)
  | p => (p, none, none)
def pfStart (op h : Int) : PfP := if op = 1 then .r0 else if op = 2 then .u0 else if op = 3 then .l0 else if op = 4 then .v0 else if op = 5 then .q0 0 else if op = 6 then .y0 0 0 else if op = 7 then .z0 0 0 else .d0
def pfK : LockM PfP := ⟨pfA, pfConc, fun p v => pfKeep p, fun _ p => pfWait p, fun p v => pfPost p, fun _ p m => pfAct (m 0) (m 1) (m 2) (m 3) (m 4) p, .idle, pfStart, fun _ => True⟩

set_option maxHeartbeats 3200000 in
theorem pf_good (n : Nat) (mode : Int) : pfK.Good n mode := by
  refine ⟨fun p => by cases p <;> exact ⟨rfl, rfl, rfl⟩, fun h => rfl, fun p hp => ?_, fun p hp => ?_, fun t p c pr hw => ?_, fun op h hm => ?_, fun t op h hm => ?_, fun t p c pr _ _ hw => ?_, fun t p c pr v hw hh => ?_, fun p t s hok ht hw hop hn hmd htk hf hl => ?_, fun p t c pr st s hok ht hw h0 h3 hn hmd htk hf hl => ?_, fun p t c pr v s hok ht hm2 hw hpr hn hmd htk hf hl => ?_⟩
  · cases p <;> first | rfl | (simp [pfK, pfConc, pfFr] at hp)
  · cases p <;> first | (simp [pfK, pfConc, pfFr] at hp; done) | (simp [pfK, pfConc, pfFr] at hp; rw [hp]; rfl)
  · cases p <;> simp [pfK, pfWait] at hw <;> simp [pfK, pfConc, pfFr]
  · rcases may_ops hm with ⟨rfl, rfl | rfl | rfl | rfl⟩ | ⟨rfl, rfl | rfl⟩ | ⟨_, _, rfl | rfl⟩ <;> simp [pfStart, pfK, pfConc, pfFr, frOp, fromA]
  · rcases may_ops hm with ⟨rfl, rfl | rfl | rfl | rfl⟩ | ⟨rfl, rfl | rfl⟩ | ⟨_, _, rfl | rfl⟩ <;> simp [pfK, pfStart, pfWait]
  · cases p <;> simp [pfK, pfWait] at hw <;> omega
  · cases p <;> simp [pfK, pfWait] at hw <;> simp [pfPost, pfK, pfConc, pfFr] at hh ⊢
  · obtain ⟨sn, sm, st, f, acc, notes, L⟩ := s
    simp only at hn hmd htk hf hl
    subst hn hmd htk hf
    have l0 := at_ld (n := n) (L := L) (c := 0) hl (by decide) (by omega)
    have a0 := fun x => at_ad (n := n) (L := L) (c := 0) (x := x) hl (by decide) (by omega)
    have s0 := fun x => at_st (n := n) (L := L) (c := 0) (x := x) hl (by decide) (by omega)
    have c0 := fun x y => at_cas (n := n) (L := L) (c := 0) (x := x) (y := y) hl (by decide) (by omega)
    have d0 := fun x y => at_casB (n := n) (L := L) (c := 0) (x := x) (y := y) hl (by decide) (by omega)
    simp only [show (0 : Int).toNat = 0 from rfl] at l0 a0 s0 c0 d0
    have l1 := at_ld (n := n) (L := L) (c := 1) hl (by decide) (by omega)
    have a1 := fun x => at_ad (n := n) (L := L) (c := 1) (x := x) hl (by decide) (by omega)
    have s1 := fun x => at_st (n := n) (L := L) (c := 1) (x := x) hl (by decide) (by omega)
    have c1 := fun x y => at_cas (n := n) (L := L) (c := 1) (x := x) (y := y) hl (by decide) (by omega)
    have d1 := fun x y => at_casB (n := n) (L := L) (c := 1) (x := x) (y := y) hl (by decide) (by omega)
    simp only [show (1 : Int).toNat = 1 from rfl] at l1 a1 s1 c1 d1
    have l2 := at_ld (n := n) (L := L) (c := 2) hl (by decide) (by omega)
    have a2 := fun x => at_ad (n := n) (L := L) (c := 2) (x := x) hl (by decide) (by omega)
    have s2 := fun x => at_st (n := n) (L := L) (c := 2) (x := x) hl (by decide) (by omega)
    have c2 := fun x y => at_cas (n := n) (L := L) (c := 2) (x := x) (y := y) hl (by decide) (by omega)
    have d2 := fun x y => at_casB (n := n) (L := L) (c := 2) (x := x) (y := y) hl (by decide) (by omega)
    simp only [show (2 : Int).toNat = 2 from rfl] at l2 a2 s2 c2 d2
    have l3 := at_ld (n := n) (L := L) (c := 3) hl (by decide) (by omega)
    have a3 := fun x => at_ad (n := n) (L := L) (c := 3) (x := x) hl (by decide) (by omega)
    have s3 := fun x => at_st (n := n) (L := L) (c := 3) (x := x) hl (by decide) (by omega)
    have c3 := fun x y => at_cas (n := n) (L := L) (c := 3) (x := x) (y := y) hl (by decide) (by omega)
    have d3 := fun x y => at_casB (n := n) (L := L) (c := 3) (x := x) (y := y) hl (by decide) (by omega)
    simp only [show (3 : Int).toNat = 3 from rfl] at l3 a3 s3 c3 d3
    have l4 := at_ld (n := n) (L := L) (c := 4) hl (by decide) (by omega)
    have a4 := fun x => at_ad (n := n) (L := L) (c := 4) (x := x) hl (by decide) (by omega)
    have s4 := fun x => at_st (n := n) (L := L) (c := 4) (x := x) hl (by decide) (by omega)
    have c4 := fun x y => at_cas (n := n) (L := L) (c := 4) (x := x) (y := y) hl (by decide) (by omega)
    have d4 := fun x y => at_casB (n := n) (L := L) (c := 4) (x := x) (y := y) hl (by decide) (by omega)
    simp only [show (4 : Int).toNat = 4 from rfl] at l4 a4 s4 c4 d4
    show ActIs pfK n p (pfAct (mainOf n L 0) (mainOf n L 1) (mainOf n L 2) (mainOf n L 3) (mainOf n L 4) p) _ _
    generalize mainOf n L 0 = x0 at l0 a0 s0 c0 d0
    generalize mainOf n L 1 = x1 at l1 a1 s1 c1 d1
    generalize mainOf n L 2 = x2 at l2 a2 s2 c2 d2
    generalize mainOf n L 3 = x3 at l3 a3 s3 c3 d3
    generalize mainOf n L 4 = x4 at l4 a4 s4 c4 d4
    cases p <;> simp [pfK, pfWait] at hw <;> simp [pfK, pfConc, pfFr, Fr.zero] at hop
    case r0 => by_cases q0 : x0 % 4 = 0 <;> constructor <;> simp [pfK, pfConc, pfFr, pfA, pfAct, Rn.fresh, Rn.did, Rn.setA, Rn.setB, Rn.note, Rn.goto, Rn.noted, Rn.fin, Rn.wake, writtenL, normF, behindA, wkOf, q0, pfR10, l0, a0, s0, c0, d0, l1, a1, s1, c1, d1, l2, a2, s2, c2, d2, l3, a3, s3, c3, d3, l4, a4, s4, c4, d4] <;> omega
    case u0 => constructor <;> simp [pfK, pfConc, pfFr, pfA, pfAct, Rn.fresh, Rn.did, Rn.setA, Rn.setB, Rn.note, Rn.goto, Rn.noted, Rn.fin, Rn.wake, writtenL, normF, behindA, wkOf, pfR20, l0, a0, s0, c0, d0, l1, a1, s1, c1, d1, l2, a2, s2, c2, d2, l3, a3, s3, c3, d3, l4, a4, s4, c4, d4] <;> omega
    case q0 a => by_cases q0 : x0 % 4 = 0 <;> constructor <;> simp [pfK, pfConc, pfFr, pfA, pfAct, Rn.fresh, Rn.did, Rn.setA, Rn.setB, Rn.note, Rn.goto, Rn.noted, Rn.fin, Rn.wake, writtenL, normF, behindA, wkOf, q0, pfR50, l0, a0, s0, c0, d0, l1, a1, s1, c1, d1, l2, a2, s2, c2, d2, l3, a3, s3, c3, d3, l4, a4, s4, c4, d4] <;> omega
    case q1 a => by_cases q0 : x0 = a <;> constructor <;> simp [pfK, pfConc, pfFr, pfA, pfAct, Rn.fresh, Rn.did, Rn.setA, Rn.setB, Rn.note, Rn.goto, Rn.noted, Rn.fin, Rn.wake, writtenL, normF, behindA, wkOf, q0, pfR51, l0, a0, s0, c0, d0, l1, a1, s1, c1, d1, l2, a2, s2, c2, d2, l3, a3, s3, c3, d3, l4, a4, s4, c4, d4] <;> omega
    case l0 => constructor <;> simp [pfK, pfConc, pfFr, pfA, pfAct, Rn.fresh, Rn.did, Rn.setA, Rn.setB, Rn.note, Rn.goto, Rn.noted, Rn.fin, Rn.wake, writtenL, normF, behindA, wkOf, pf30, l0, a0, s0, c0, d0, l1, a1, s1, c1, d1, l2, a2, s2, c2, d2, l3, a3, s3, c3, d3, l4, a4, s4, c4, d4] <;> omega
    case l2 a => constructor <;> simp [pfK, pfConc, pfFr, pfA, pfAct, Rn.fresh, Rn.did, Rn.setA, Rn.setB, Rn.note, Rn.goto, Rn.noted, Rn.fin, Rn.wake, writtenL, normF, behindA, wkOf, pf32, l0, a0, s0, c0, d0, l1, a1, s1, c1, d1, l2, a2, s2, c2, d2, l3, a3, s3, c3, d3, l4, a4, s4, c4, d4] <;> omega
    case l3 a b => constructor <;> simp [pfK, pfConc, pfFr, pfA, pfAct, Rn.fresh, Rn.did, Rn.setA, Rn.setB, Rn.note, Rn.goto, Rn.noted, Rn.fin, Rn.wake, writtenL, normF, behindA, wkOf, pf33, l0, a0, s0, c0, d0, l1, a1, s1, c1, d1, l2, a2, s2, c2, d2, l3, a3, s3, c3, d3, l4, a4, s4, c4, d4] <;> omega
    case v0 => constructor <;> simp [pfK, pfConc, pfFr, pfA, pfAct, Rn.fresh, Rn.did, Rn.setA, Rn.setB, Rn.note, Rn.goto, Rn.noted, Rn.fin, Rn.wake, writtenL, normF, behindA, wkOf, pf40, l0, a0, s0, c0, d0, l1, a1, s1, c1, d1, l2, a2, s2, c2, d2, l3, a3, s3, c3, d3, l4, a4, s4, c4, d4] <;> omega
    case v1 b => constructor <;> simp [pfK, pfConc, pfFr, pfA, pfAct, Rn.fresh, Rn.did, Rn.setA, Rn.setB, Rn.note, Rn.goto, Rn.noted, Rn.fin, Rn.wake, writtenL, normF, behindA, wkOf, pf41, l0, a0, s0, c0, d0, l1, a1, s1, c1, d1, l2, a2, s2, c2, d2, l3, a3, s3, c3, d3, l4, a4, s4, c4, d4] <;> omega
    case v2 b => constructor <;> simp [pfK, pfConc, pfFr, pfA, pfAct, Rn.fresh, Rn.did, Rn.setA, Rn.setB, Rn.note, Rn.goto, Rn.noted, Rn.fin, Rn.wake, writtenL, normF, behindA, wkOf, pf42, l0, a0, s0, c0, d0, l1, a1, s1, c1, d1, l2, a2, s2, c2, d2, l3, a3, s3, c3, d3, l4, a4, s4, c4, d4] <;> omega
    case v3 b => constructor <;> simp [pfK, pfConc, pfFr, pfA, pfAct, Rn.fresh, Rn.did, Rn.setA, Rn.setB, Rn.note, Rn.goto, Rn.noted, Rn.fin, Rn.wake, writtenL, normF, behindA, wkOf, pf43, Rn.pfPass, l0, a0, s0, c0, d0, l1, a1, s1, c1, d1, l2, a2, s2, c2, d2, l3, a3, s3, c3, d3, l4, a4, s4, c4, d4] <;> omega
    case d0 => constructor <;> simp [pfK, pfConc, pfFr, pfA, pfAct, Rn.fresh, Rn.did, Rn.setA, Rn.setB, Rn.note, Rn.goto, Rn.noted, Rn.fin, Rn.wake, writtenL, normF, behindA, wkOf, pf80, l0, a0, s0, c0, d0, l1, a1, s1, c1, d1, l2, a2, s2, c2, d2, l3, a3, s3, c3, d3, l4, a4, s4, c4, d4] <;> omega
    case d1 b => constructor <;> simp [pfK, pfConc, pfFr, pfA, pfAct, Rn.fresh, Rn.did, Rn.setA, Rn.setB, Rn.note, Rn.goto, Rn.noted, Rn.fin, Rn.wake, writtenL, normF, behindA, wkOf, pf81, l0, a0, s0, c0, d0, l1, a1, s1, c1, d1, l2, a2, s2, c2, d2, l3, a3, s3, c3, d3, l4, a4, s4, c4, d4] <;> omega
    case d2 b => constructor <;> simp [pfK, pfConc, pfFr, pfA, pfAct, Rn.fresh, Rn.did, Rn.setA, Rn.setB, Rn.note, Rn.goto, Rn.noted, Rn.fin, Rn.wake, writtenL, normF, behindA, wkOf, pf82, l0, a0, s0, c0, d0, l1, a1, s1, c1, d1, l2, a2, s2, c2, d2, l3, a3, s3, c3, d3, l4, a4, s4, c4, d4] <;> omega
    case d3 b => constructor <;> simp [pfK, pfConc, pfFr, pfA, pfAct, Rn.fresh, Rn.did, Rn.setA, Rn.setB, Rn.note, Rn.goto, Rn.noted, Rn.fin, Rn.wake, writtenL, normF, behindA, wkOf, pf83, Rn.pfPass, l0, a0, s0, c0, d0, l1, a1, s1, c1, d1, l2, a2, s2, c2, d2, l3, a3, s3, c3, d3, l4, a4, s4, c4, d4] <;> omega
    case y0 a b => constructor <;> simp [pfK, pfConc, pfFr, pfA, pfAct, Rn.fresh, Rn.did, Rn.setA, Rn.setB, Rn.note, Rn.goto, Rn.noted, Rn.fin, Rn.wake, writtenL, normF, behindA, wkOf, pft0, l0, a0, s0, c0, d0, l1, a1, s1, c1, d1, l2, a2, s2, c2, d2, l3, a3, s3, c3, d3, l4, a4, s4, c4, d4] <;> omega
    case y1 a b => by_cases q0 : 0 < aheadA a x3 <;> by_cases q1 : aheadA a x3 < 0 <;> constructor <;> simp [pfK, pfConc, pfFr, pfA, pfAct, Rn.fresh, Rn.did, Rn.setA, Rn.setB, Rn.note, Rn.goto, Rn.noted, Rn.fin, Rn.wake, writtenL, normF, behindA, wkOf, q0, q1, pft1, l0, a0, s0, c0, d0, l1, a1, s1, c1, d1, l2, a2, s2, c2, d2, l3, a3, s3, c3, d3, l4, a4, s4, c4, d4] <;> omega
    case y2 a b => by_cases q0 : x2 = a <;> constructor <;> simp [pfK, pfConc, pfFr, pfA, pfAct, Rn.fresh, Rn.did, Rn.setA, Rn.setB, Rn.note, Rn.goto, Rn.noted, Rn.fin, Rn.wake, writtenL, normF, behindA, wkOf, q0, pft2, l0, a0, s0, c0, d0, l1, a1, s1, c1, d1, l2, a2, s2, c2, d2, l3, a3, s3, c3, d3, l4, a4, s4, c4, d4] <;> omega
    case y3 a b => constructor <;> simp [pfK, pfConc, pfFr, pfA, pfAct, Rn.fresh, Rn.did, Rn.setA, Rn.setB, Rn.note, Rn.goto, Rn.noted, Rn.fin, Rn.wake, writtenL, normF, behindA, wkOf, pft3, l0, a0, s0, c0, d0, l1, a1, s1, c1, d1, l2, a2, s2, c2, d2, l3, a3, s3, c3, d3, l4, a4, s4, c4, d4] <;> omega
    case y4 a b => by_cases q0 : 0 < aheadA a x1 <;> constructor <;> simp [pfK, pfConc, pfFr, pfA, pfAct, Rn.fresh, Rn.did, Rn.setA, Rn.setB, Rn.note, Rn.goto, Rn.noted, Rn.fin, Rn.wake, writtenL, normF, behindA, wkOf, q0, pft46, pfIn6, l0, a0, s0, c0, d0, l1, a1, s1, c1, d1, l2, a2, s2, c2, d2, l3, a3, s3, c3, d3, l4, a4, s4, c4, d4] <;> omega
    case y5 a b => constructor <;> simp [pfK, pfConc, pfFr, pfA, pfAct, Rn.fresh, Rn.did, Rn.setA, Rn.setB, Rn.note, Rn.goto, Rn.noted, Rn.fin, Rn.wake, writtenL, normF, behindA, wkOf, pft5, l0, a0, s0, c0, d0, l1, a1, s1, c1, d1, l2, a2, s2, c2, d2, l3, a3, s3, c3, d3, l4, a4, s4, c4, d4] <;> omega
    case y6 a b => constructor <;> simp [pfK, pfConc, pfFr, pfA, pfAct, Rn.fresh, Rn.did, Rn.setA, Rn.setB, Rn.note, Rn.goto, Rn.noted, Rn.fin, Rn.wake, writtenL, normF, behindA, wkOf, pft6, l0, a0, s0, c0, d0, l1, a1, s1, c1, d1, l2, a2, s2, c2, d2, l3, a3, s3, c3, d3, l4, a4, s4, c4, d4] <;> omega
    case y9 a b => constructor <;> simp [pfK, pfConc, pfFr, pfA, pfAct, Rn.fresh, Rn.did, Rn.setA, Rn.setB, Rn.note, Rn.goto, Rn.noted, Rn.fin, Rn.wake, writtenL, normF, behindA, wkOf, pft9, Rn.pfPass, l0, a0, s0, c0, d0, l1, a1, s1, c1, d1, l2, a2, s2, c2, d2, l3, a3, s3, c3, d3, l4, a4, s4, c4, d4] <;> omega
    case z0 a b => constructor <;> simp [pfK, pfConc, pfFr, pfA, pfAct, Rn.fresh, Rn.did, Rn.setA, Rn.setB, Rn.note, Rn.goto, Rn.noted, Rn.fin, Rn.wake, writtenL, normF, behindA, wkOf, pft0, l0, a0, s0, c0, d0, l1, a1, s1, c1, d1, l2, a2, s2, c2, d2, l3, a3, s3, c3, d3, l4, a4, s4, c4, d4] <;> omega
    case z1 a b => by_cases q0 : 0 < aheadA a x3 <;> by_cases q1 : aheadA a x3 < 0 <;> constructor <;> simp [pfK, pfConc, pfFr, pfA, pfAct, Rn.fresh, Rn.did, Rn.setA, Rn.setB, Rn.note, Rn.goto, Rn.noted, Rn.fin, Rn.wake, writtenL, normF, behindA, wkOf, q0, q1, pft1, l0, a0, s0, c0, d0, l1, a1, s1, c1, d1, l2, a2, s2, c2, d2, l3, a3, s3, c3, d3, l4, a4, s4, c4, d4] <;> omega
    case z2 a b => by_cases q0 : x2 = a <;> constructor <;> simp [pfK, pfConc, pfFr, pfA, pfAct, Rn.fresh, Rn.did, Rn.setA, Rn.setB, Rn.note, Rn.goto, Rn.noted, Rn.fin, Rn.wake, writtenL, normF, behindA, wkOf, q0, pft2, l0, a0, s0, c0, d0, l1, a1, s1, c1, d1, l2, a2, s2, c2, d2, l3, a3, s3, c3, d3, l4, a4, s4, c4, d4] <;> omega
    case z3 a b => constructor <;> simp [pfK, pfConc, pfFr, pfA, pfAct, Rn.fresh, Rn.did, Rn.setA, Rn.setB, Rn.note, Rn.goto, Rn.noted, Rn.fin, Rn.wake, writtenL, normF, behindA, wkOf, pft3, l0, a0, s0, c0, d0, l1, a1, s1, c1, d1, l2, a2, s2, c2, d2, l3, a3, s3, c3, d3, l4, a4, s4, c4, d4] <;> omega
    case z4 a b => by_cases q0 : 256 < aheadA a x1 <;> constructor <;> simp [pfK, pfConc, pfFr, pfA, pfAct, Rn.fresh, Rn.did, Rn.setA, Rn.setB, Rn.note, Rn.goto, Rn.noted, Rn.fin, Rn.wake, writtenL, normF, behindA, wkOf, q0, pft47, pfIn7, l0, a0, s0, c0, d0, l1, a1, s1, c1, d1, l2, a2, s2, c2, d2, l3, a3, s3, c3, d3, l4, a4, s4, c4, d4] <;> omega
    case z5 a b => constructor <;> simp [pfK, pfConc, pfFr, pfA, pfAct, Rn.fresh, Rn.did, Rn.setA, Rn.setB, Rn.note, Rn.goto, Rn.noted, Rn.fin, Rn.wake, writtenL, normF, behindA, wkOf, pft5, l0, a0, s0, c0, d0, l1, a1, s1, c1, d1, l2, a2, s2, c2, d2, l3, a3, s3, c3, d3, l4, a4, s4, c4, d4] <;> omega
    case z6 a b => constructor <;> simp [pfK, pfConc, pfFr, pfA, pfAct, Rn.fresh, Rn.did, Rn.setA, Rn.setB, Rn.note, Rn.goto, Rn.noted, Rn.fin, Rn.wake, writtenL, normF, behindA, wkOf, pft6, l0, a0, s0, c0, d0, l1, a1, s1, c1, d1, l2, a2, s2, c2, d2, l3, a3, s3, c3, d3, l4, a4, s4, c4, d4] <;> omega
    case z8 a b => constructor <;> simp [pfK, pfConc, pfFr, pfA, pfAct, Rn.fresh, Rn.did, Rn.setA, Rn.setB, Rn.note, Rn.goto, Rn.noted, Rn.fin, Rn.wake, writtenL, normF, behindA, wkOf, pft87, l0, a0, s0, c0, d0, l1, a1, s1, c1, d1, l2, a2, s2, c2, d2, l3, a3, s3, c3, d3, l4, a4, s4, c4, d4] <;> omega
    case z9 a b => constructor <;> simp [pfK, pfConc, pfFr, pfA, pfAct, Rn.fresh, Rn.did, Rn.setA, Rn.setB, Rn.note, Rn.goto, Rn.noted, Rn.fin, Rn.wake, writtenL, normF, behindA, wkOf, pft9, Rn.pfPass, l0, a0, s0, c0, d0, l1, a1, s1, c1, d1, l2, a2, s2, c2, d2, l3, a3, s3, c3, d3, l4, a4, s4, c4, d4] <;> omega
  · obtain ⟨sn, sm, stk, f, acc, notes, L⟩ := s
    simp only at hn hmd htk hf hl
    subst hn hmd htk hf
    cases p <;> simp [pfK, pfWait] at hw
    case r1 a =>
      obtain ⟨rfl, rfl⟩ := hw
      have hd := fun h => wait_done (L := L) (n := n) (mode := sm) (task := t) (st := st) (c := 0) (p := fun v => v % 4 != a % 4) h
      have hs := fun h => wait_ds (L := L) (n := n) (mode := sm) (task := t) (st := st) (c := 0) (p := fun v => v % 4 != a % 4) h0 h3 h
      simp [pfK, pfConc, pfFr, pfA, Rn.fresh, Rn.waited, pfKeep, pfPost, pfR11]
      generalize waitA L n sm t st 0 (fun v => v % 4 != a % 4) = R at hd hs ⊢
      obtain ⟨rs, ra, rsn, rd, rw_⟩ := R
      cases rsn <;> cases rd <;> simp [Rn.note, Rn.fin, Rn.goto, Rn.setA, normF, behindA] at hd hs ⊢ <;> simp [hd, Wk.zero]
    case l1 a =>
      obtain ⟨rfl, rfl⟩ := hw
      have hd := fun h => wait_done (L := L) (n := n) (mode := sm) (task := t) (st := st) (c := 3) (p := fun v => v == a) h
      have hs := fun h => wait_ds (L := L) (n := n) (mode := sm) (task := t) (st := st) (c := 3) (p := fun v => v == a) h0 h3 h
      simp [pfK, pfConc, pfFr, pfA, Rn.fresh, Rn.waited, pfKeep, pfPost, pf31]
      generalize waitA L n sm t st 3 (fun v => v == a) = R at hd hs ⊢
      obtain ⟨rs, ra, rsn, rd, rw_⟩ := R
      cases rsn <;> cases rd <;> simp [Rn.note, Rn.fin, Rn.goto, Rn.setA, normF, behindA] at hd hs ⊢ <;> simp [hd, Wk.zero]
    case l4 a b =>
      obtain ⟨rfl, rfl⟩ := hw
      have hd := fun h => wait_done (L := L) (n := n) (mode := sm) (task := t) (st := st) (c := 1) (p := fun v => v == a) h
      have hs := fun h => wait_ds (L := L) (n := n) (mode := sm) (task := t) (st := st) (c := 1) (p := fun v => v == a) h0 h3 h
      simp [pfK, pfConc, pfFr, pfA, Rn.fresh, Rn.waited, pfKeep, pfPost, pf34]
      generalize waitA L n sm t st 1 (fun v => v == a) = R at hd hs ⊢
      obtain ⟨rs, ra, rsn, rd, rw_⟩ := R
      cases rsn <;> cases rd <;> simp [Rn.note, Rn.fin, Rn.goto, Rn.setA, normF, behindA] at hd hs ⊢ <;> simp [hd, Wk.zero]
    case y7 a b =>
      obtain ⟨rfl, rfl⟩ := hw
      have hd := fun h => wait_done (L := L) (n := n) (mode := sm) (task := t) (st := st) (c := 1) (p := fun v => v == a) h
      have hs := fun h => wait_ds (L := L) (n := n) (mode := sm) (task := t) (st := st) (c := 1) (p := fun v => v == a) h0 h3 h
      simp [pfK, pfConc, pfFr, pfA, Rn.fresh, Rn.waited, pfKeep, pfPost, pft76, pfLast6]
      generalize waitA L n sm t st 1 (fun v => v == a) = R at hd hs ⊢
      obtain ⟨rs, ra, rsn, rd, rw_⟩ := R
      cases rsn <;> cases rd <;> simp [Rn.note, Rn.fin, Rn.goto, Rn.setA, normF, behindA] at hd hs ⊢ <;> simp [hd, Wk.zero]
    case z7 a b =>
      obtain ⟨rfl, rfl⟩ := hw
      have hd := fun h => wait_done (L := L) (n := n) (mode := sm) (task := t) (st := st) (c := 1) (p := fun v => v == (a - 256) % 4294967296) h
      have hs := fun h => wait_ds (L := L) (n := n) (mode := sm) (task := t) (st := st) (c := 1) (p := fun v => v == (a - 256) % 4294967296) h0 h3 h
      simp [pfK, pfConc, pfFr, pfA, Rn.fresh, Rn.waited, pfKeep, pfPost, pft77, pfLast7]
      generalize waitA L n sm t st 1 (fun v => v == (a - 256) % 4294967296) = R at hd hs ⊢
      obtain ⟨rs, ra, rsn, rd, rw_⟩ := R
      cases rsn <;> cases rd <;> simp [Rn.note, Rn.fin, Rn.goto, Rn.setA, normF, behindA] at hd hs ⊢ <;> simp [hd, Wk.zero]
  · obtain ⟨sn, sm, stk, f, acc, notes, L⟩ := s
    simp only at hn hmd htk hf hl
    subst hn hmd htk hf
    cases p <;> simp [pfK, pfWait] at hw
    case r1 a =>
      obtain ⟨rfl, rfl⟩ := hw
      have hd := wait4_done (L := L) (n := n) (task := t) (c := 0) (p := fun v => v % 4 != a % 4) hm2
      have hs := wait4_seen (L := L) (n := n) (task := t) (c := 0) (p := fun v => v % 4 != a % 4) hm2
      simp [pfK, pfConc, pfFr, pfA, Rn.fresh, Rn.waited, pfKeep, pfPost, pfR11]
      generalize waitA L n sm t 4 0 (fun v => v % 4 != a % 4) = R at hd hs ⊢
      obtain ⟨rs, ra, rsn, rd, rw_⟩ := R
      obtain ⟨rfl, rfl⟩ := hd
      obtain rfl := hs
      simp [Rn.note, Rn.fin, Rn.goto, Rn.setA, normF, behindA, Wk.zero]
    case l1 a =>
      obtain ⟨rfl, rfl⟩ := hw
      have hd := wait4_done (L := L) (n := n) (task := t) (c := 3) (p := fun v => v == a) hm2
      have hs := wait4_seen (L := L) (n := n) (task := t) (c := 3) (p := fun v => v == a) hm2
      simp [pfK, pfConc, pfFr, pfA, Rn.fresh, Rn.waited, pfKeep, pfPost, pf31]
      generalize waitA L n sm t 4 3 (fun v => v == a) = R at hd hs ⊢
      obtain ⟨rs, ra, rsn, rd, rw_⟩ := R
      obtain ⟨rfl, rfl⟩ := hd
      obtain rfl := hs
      simp [Rn.note, Rn.fin, Rn.goto, Rn.setA, normF, behindA, Wk.zero]
    case l4 a b =>
      obtain ⟨rfl, rfl⟩ := hw
      have hd := wait4_done (L := L) (n := n) (task := t) (c := 1) (p := fun v => v == a) hm2
      have hs := wait4_seen (L := L) (n := n) (task := t) (c := 1) (p := fun v => v == a) hm2
      simp [pfK, pfConc, pfFr, pfA, Rn.fresh, Rn.waited, pfKeep, pfPost, pf34]
      generalize waitA L n sm t 4 1 (fun v => v == a) = R at hd hs ⊢
      obtain ⟨rs, ra, rsn, rd, rw_⟩ := R
      obtain ⟨rfl, rfl⟩ := hd
      obtain rfl := hs
      simp [Rn.note, Rn.fin, Rn.goto, Rn.setA, normF, behindA, Wk.zero]
    case y7 a b =>
      obtain ⟨rfl, rfl⟩ := hw
      have hd := wait4_done (L := L) (n := n) (task := t) (c := 1) (p := fun v => v == a) hm2
      have hs := wait4_seen (L := L) (n := n) (task := t) (c := 1) (p := fun v => v == a) hm2
      simp [pfK, pfConc, pfFr, pfA, Rn.fresh, Rn.waited, pfKeep, pfPost, pft76, pfLast6]
      generalize waitA L n sm t 4 1 (fun v => v == a) = R at hd hs ⊢
      obtain ⟨rs, ra, rsn, rd, rw_⟩ := R
      obtain ⟨rfl, rfl⟩ := hd
      obtain rfl := hs
      simp [Rn.note, Rn.fin, Rn.goto, Rn.setA, normF, behindA, Wk.zero]
    case z7 a b =>
      obtain ⟨rfl, rfl⟩ := hw
      have hd := wait4_done (L := L) (n := n) (task := t) (c := 1) (p := fun v => v == (a - 256) % 4294967296) hm2
      have hs := wait4_seen (L := L) (n := n) (task := t) (c := 1) (p := fun v => v == (a - 256) % 4294967296) hm2
      simp [pfK, pfConc, pfFr, pfA, Rn.fresh, Rn.waited, pfKeep, pfPost, pft77, pfLast7]
      generalize waitA L n sm t 4 1 (fun v => v == (a - 256) % 4294967296) = R at hd hs ⊢
      obtain ⟨rs, ra, rsn, rd, rw_⟩ := R
      obtain ⟨rfl, rfl⟩ := hd
      obtain rfl := hs
      simp [Rn.note, Rn.fin, Rn.goto, Rn.setA, normF, behindA, Wk.zero]

def pfAttr : PfP → Ph
  | .idle h => ⟨decide (h = 2), decide (h = 2), false, false, false, decide (h = 1), .none, .none, .none⟩
  | .r0 => ⟨false, false, false, false, false, false, .none, .none, .none⟩
  | .r1 a => ⟨false, false, false, false, false, false, some (a % 4), .none, .none⟩
  | .u0 => ⟨false, false, false, false, false, true, .none, .none, .none⟩
  | .q0 _ => ⟨false, false, false, false, false, false, .none, .none, .none⟩
  | .q1 _ => ⟨false, false, false, false, false, false, .none, .none, .none⟩
  | .l0 => ⟨false, false, false, false, false, false, .none, .none, .none⟩
  | .l1 _ => ⟨false, false, false, false, false, false, .none, .none, .none⟩
  | .l2 _ => ⟨true, false, false, false, false, false, .none, .none, .none⟩
  | .l3 _ b => ⟨true, false, false, false, false, false, .none, some b, .none⟩
  | .l4 a _ => ⟨true, false, false, true, false, false, .none, .none, some a⟩
  | .v0 => ⟨true, true, false, false, false, false, .none, .none, .none⟩
  | .v1 b => ⟨true, true, false, false, false, false, .none, some b, .none⟩
  | .v2 b => ⟨true, false, false, false, true, false, .none, some b, .none⟩
  | .v3 _ => ⟨true, false, false, false, false, false, .none, .none, .none⟩
  | .d0 => ⟨true, true, false, false, false, false, .none, .none, .none⟩
  | .d1 b => ⟨true, true, false, false, false, false, .none, some b, .none⟩
  | .d2 b => ⟨true, false, false, false, true, true, .none, some b, .none⟩
  | .d3 _ => ⟨true, false, false, false, false, true, .none, .none, .none⟩
  | .y0 _ _ => ⟨false, false, false, false, false, false, .none, .none, .none⟩
  | .y1 _ _ => ⟨false, false, false, false, false, false, .none, .none, .none⟩
  | .y2 _ _ => ⟨false, false, false, false, false, false, .none, .none, .none⟩
  | .y3 _ _ => ⟨true, false, false, false, false, false, .none, .none, .none⟩
  | .y4 _ _ => ⟨true, false, false, false, false, false, .none, .none, .none⟩
  | .y5 _ _ => ⟨true, false, false, false, false, false, .none, .none, .none⟩
  | .y6 _ b => ⟨true, false, false, false, false, false, .none, some b, .none⟩
  | .y7 a _ => ⟨true, false, false, true, false, false, .none, .none, some a⟩
  | .y9 _ _ => ⟨true, false, false, false, false, false, .none, .none, .none⟩
  | .z0 _ _ => ⟨false, false, false, false, false, true, .none, .none, .none⟩
  | .z1 _ _ => ⟨false, false, false, false, false, true, .none, .none, .none⟩
  | .z2 _ _ => ⟨false, false, false, false, false, true, .none, .none, .none⟩
  | .z3 _ _ => ⟨true, false, false, false, false, true, .none, .none, .none⟩
  | .z4 _ _ => ⟨true, false, false, false, false, true, .none, .none, .none⟩
  | .z5 _ _ => ⟨true, false, false, false, false, true, .none, .none, .none⟩
  | .z6 _ b => ⟨true, false, false, false, false, true, .none, some b, .none⟩
  | .z7 a _ => ⟨true, false, false, true, false, true, .none, .none, some a⟩
  | .z8 _ _ => ⟨true, false, true, false, false, true, .none, .none, .none⟩
  | .z9 _ _ => ⟨true, false, false, false, false, true, .none, .none, .none⟩
theorem ws_map {P Q : Type} (f : Q → Int) (g : P → Q) : ∀ l, ws f (l.map g) = ws (fun x => f (g x)) l
  | [] => rfl
  | x :: l => by simp only [List.map_cons, ws, ws_map f g l]
theorem getD_map_ {P Q : Type} {g : P → Q} {l : List P} {i : Nat} {d : P} {e : Q} (h : i < l.length) : (l.map g).getD i e = g (l.getD i d) := by
  simp [List.getD, h]
/-- Who has the turn; who waits for it. -/
def pfH (p : PfP) : Int := wHd (pfAttr p)
def pfW : PfP → Int
  | .l1 _ => 1
  | _ => 0
theorem pfH_01 : ∀ x, 0 ≤ pfH x := fun x => wHd_01 _
theorem pfW_01 : ∀ x, 0 ≤ pfW x := by intro x; cases x <;> simp [pfW]
def pfAt (base Wi Wo t : Int) : PfP → Prop
  | .l1 a => a = t % 4294967296
  | .y1 a _ => ∃ u, base ≤ u ∧ u ≤ Wi ∧ a = u % 4294967296
  | .z1 a _ => ∃ u, base ≤ u ∧ u ≤ Wi ∧ a = u % 4294967296
  | .y2 a _ => ∃ u, base ≤ u ∧ u ≤ Wi ∧ a = u % 4294967296 ∧ u ≤ Wo
  | .z2 a _ => ∃ u, base ≤ u ∧ u ≤ Wi ∧ a = u % 4294967296 ∧ u ≤ Wo
  | _ => True
def pfOk : PfP → Prop
  | .idle h => h = 0 ∨ h = 1 ∨ h = 2
  | .q1 a => a % 4 = 0
  | _ => True
structure PfTk (base : Int) (n b : Nat) (ps : List PfP) (m : Nat → Int) (Wi Wo : Int) (T : Nat → Int) : Prop where
  m2 : m 2 = Wi % 4294967296
  m3 : m 3 = Wo % 4294967296
  lo : base ≤ Wo
  le : Wo ≤ Wi
  hi : Wi + b ≤ base + 1073741824
  nt : Wi - Wo = ws pfH ps + ws pfW ps
  rng : ∀ i, i < n → pfW (ps.getD i (pfK.idle 0)) = 1 → Wo + ws pfH ps ≤ T i ∧ T i < Wi
  inj : ∀ i j, i < n → j < n → i ≠ j → pfW (ps.getD i (pfK.idle 0)) = 1 → pfW (ps.getD j (pfK.idle 0)) = 1 → T i ≠ T j
  sur : ∀ t, Wo + ws pfH ps ≤ t → t < Wi → ∃ i, i < n ∧ pfW (ps.getD i (pfK.idle 0)) = 1 ∧ T i = t
  at_ : ∀ i, i < n → pfAt base Wi Wo (T i) (ps.getD i (pfK.idle 0))
section
variable {base Wi Wo : Int} {n b : Nat} {ps : List PfP} {m m' : Nat → Int} {T : Nat → Int} {i : Nat} {p p' : PfP}
theorem pf_get (hl : ps.length = n) (hi : i < n) {j : Nat} : (ps.set i p').getD j (pfK.idle 0) = if i = j then p' else ps.getD j (pfK.idle 0) := getDsetG (by omega)
theorem pfAt_mono {base Wi Wo Wi' Wo' t : Int} {q : PfP} (h : pfAt base Wi Wo t q) (h1 : Wi ≤ Wi') (h2 : Wo ≤ Wo') : pfAt base Wi' Wo' t q := by
  cases q <;> simp only [pfAt] at h ⊢ <;> first | exact h | (obtain ⟨u, k1, k2, k3⟩ := h; exact ⟨u, k1, by omega, k3⟩) | (obtain ⟨u, k1, k2, k3, k4⟩ := h; exact ⟨u, k1, by omega, k3, by omega⟩)
theorem PfTk.same (H : PfTk base n (b + 1) ps m Wi Wo T) (hl : ps.length = n) (hi : i < n) (hp : ps.getD i (pfK.idle 0) = p) (hh : pfH p' = pfH p) (hw : pfW p' = pfW p) (ha : pfAt base Wi Wo (T i) p') (e : m' 2 = m 2 ∧ m' 3 = m 3) : PfTk base n b (ps.set i p') m' Wi Wo T := by
  have s1 := ws_set (f := pfH) (d := pfK.idle 0) (x := p') (l := ps) (i := i) (by omega)
  have s2 := ws_set (f := pfW) (d := pfK.idle 0) (x := p') (l := ps) (i := i) (by omega)
  rw [hp] at s1 s2
  have e1 : ws pfH (ps.set i p') = ws pfH ps := by omega
  have hT : ∀ j, pfW ((ps.set i p').getD j (pfK.idle 0)) = pfW (ps.getD j (pfK.idle 0)) := fun j => by
    rw [pf_get hl hi]
    split
    · rename_i e; subst e; rw [hp, hw]
    · rfl
  refine ⟨e.1.trans H.m2, e.2.trans H.m3, H.lo, H.le, by have := H.hi; omega, by have := H.nt; omega, fun j hj h => by rw [e1]; exact H.rng j hj (by rw [← hT]; exact h), fun j k hj hk hjk h1 h2 => H.inj j k hj hk hjk (by rw [← hT]; exact h1) (by rw [← hT]; exact h2), fun t h1 h2 => ?_, fun j hj => ?_⟩
  · rw [e1] at h1
    obtain ⟨j, g1, g2, g3⟩ := H.sur t h1 h2
    exact ⟨j, g1, by rw [hT]; exact g2, g3⟩
  · rw [pf_get hl hi]
    split
    · rename_i e; subst e; exact ha
    · exact H.at_ j hj
theorem PfTk.ticket (H : PfTk base n (b + 1) ps m Wi Wo T) (hl : ps.length = n) (hi : i < n) (hp : ps.getD i (pfK.idle 0) = p) (hh : pfH p' = pfH p) (hw0 : pfW p = 0) (hw : pfW p' = 1) (ha : pfAt base (Wi + 1) Wo Wi p') (e : m' 2 = (Wi + 1) % 4294967296 ∧ m' 3 = m 3) : ∃ T', PfTk base n b (ps.set i p') m' (Wi + 1) Wo T' := by
  have s1 := ws_set (f := pfH) (d := pfK.idle 0) (x := p') (l := ps) (i := i) (by omega)
  have s2 := ws_set (f := pfW) (d := pfK.idle 0) (x := p') (l := ps) (i := i) (by omega)
  rw [hp] at s1 s2
  have e1 : ws pfH (ps.set i p') = ws pfH ps := by omega
  have nt := H.nt
  have w0 := ws_nonneg pfW_01 ps
  refine ⟨fun j => if j = i then Wi else T j, e.1, e.2.trans H.m3, H.lo, by have := H.le; omega, by have := H.hi; omega, by omega, fun j hj h => ?_, fun j k hj hk hjk h1 h2 => ?_, fun t h1 h2 => ?_, fun j hj => ?_⟩
  · rw [pf_get hl hi] at h
    rw [e1]
    by_cases e : i = j
    · subst e; simp only [if_true]; omega
    · rw [if_neg e] at h
      simp only [if_neg (fun h : j = i => e h.symm)]
      have := H.rng j hj h
      omega
  · rw [pf_get hl hi] at h1 h2
    by_cases e1 : i = j
    · subst e1
      rw [if_neg hjk] at h2
      have := H.rng k hk h2
      simp only [if_true, if_neg (fun h : k = i => hjk h.symm)]
      omega
    · rw [if_neg e1] at h1
      by_cases e2 : i = k
      · subst e2
        have := H.rng j hj h1
        simp only [if_true, if_neg (fun h : j = i => e1 h.symm)]
        omega
      · rw [if_neg e2] at h2
        simp only [if_neg (fun h : j = i => e1 h.symm), if_neg (fun h : k = i => e2 h.symm)]
        exact H.inj j k hj hk hjk h1 h2
  · rw [e1] at h1
    by_cases hu : t = Wi
    · exact ⟨i, hi, by rw [pf_get hl hi, if_pos rfl]; exact hw, by simp [hu]⟩
    · obtain ⟨j, g1, g2, g3⟩ := H.sur t h1 (by omega)
      have hji : ¬ i = j := by rintro rfl; rw [hp, hw0] at g2; omega
      exact ⟨j, g1, by rw [pf_get hl hi, if_neg hji]; exact g2, by simp only [if_neg (fun h : j = i => hji h.symm)]; exact g3⟩
  · rw [pf_get hl hi]
    by_cases e1 : i = j
    · subst e1; simp only [if_true]; exact ha
    · simp only [if_neg e1, if_neg (fun h : j = i => e1 h.symm)]
      exact pfAt_mono (H.at_ j hj) (by omega) (by omega)
theorem PfTk.turn (H : PfTk base n (b + 1) ps m Wi Wo T) (hl : ps.length = n) (hi : i < n) (hp : ps.getD i (pfK.idle 0) = p) (hT : T i = Wo) (hw0 : pfW p = 1) (hw : pfW p' = 0) (hh0 : pfH p = 0) (hh : pfH p' = 1) (ha : pfAt base Wi Wo (T i) p') (e : m' 2 = m 2 ∧ m' 3 = m 3) : ws pfH ps = 0 ∧ PfTk base n b (ps.set i p') m' Wi Wo T := by
  have s1 := ws_set (f := pfH) (d := pfK.idle 0) (x := p') (l := ps) (i := i) (by omega)
  have s2 := ws_set (f := pfW) (d := pfK.idle 0) (x := p') (l := ps) (i := i) (by omega)
  rw [hp] at s1 s2
  have r := H.rng i hi (by rw [hp]; exact hw0)
  have h0 := ws_nonneg pfH_01 ps
  have z : ws pfH ps = 0 := by omega
  have e1 : ws pfH (ps.set i p') = 1 := by omega
  refine ⟨z, e.1.trans H.m2, e.2.trans H.m3, H.lo, H.le, by have := H.hi; omega, by have := H.nt; omega, fun j hj h => ?_, fun j k hj hk hjk h1 h2 => ?_, fun t h1 h2 => ?_, fun j hj => ?_⟩
  · rw [pf_get hl hi] at h
    by_cases e : i = j
    · subst e; rw [if_pos rfl, hw] at h; omega
    · rw [if_neg e] at h
      have g1 := H.rng j hj h
      have g2 := H.inj i j hi hj e (by rw [hp]; exact hw0) h
      omega
  · rw [pf_get hl hi] at h1 h2
    have e1 : ¬ i = j := by rintro rfl; rw [if_pos rfl, hw] at h1; omega
    have e2 : ¬ i = k := by rintro rfl; rw [if_pos rfl, hw] at h2; omega
    rw [if_neg e1] at h1
    rw [if_neg e2] at h2
    exact H.inj j k hj hk hjk h1 h2
  · obtain ⟨j, g1, g2, g3⟩ := H.sur t (by omega) h2
    have hji : ¬ i = j := by rintro rfl; omega
    exact ⟨j, g1, by rw [pf_get hl hi, if_neg hji]; exact g2, g3⟩
  · rw [pf_get hl hi]
    split
    · rename_i e; subst e; exact ha
    · exact H.at_ j hj
theorem PfTk.pass (H : PfTk base n (b + 1) ps m Wi Wo T) (hl : ps.length = n) (hi : i < n) (hp : ps.getD i (pfK.idle 0) = p) (hone : ws pfH ps ≤ 1) (hw0 : pfW p = 0) (hw : pfW p' = 0) (hh0 : pfH p = 1) (hh : pfH p' = 0) (ha : pfAt base Wi (Wo + 1) (T i) p') (e : m' 2 = m 2 ∧ m' 3 = (Wo + 1) % 4294967296) : PfTk base n b (ps.set i p') m' Wi (Wo + 1) T := by
  have s1 := ws_set (f := pfH) (d := pfK.idle 0) (x := p') (l := ps) (i := i) (by omega)
  have s2 := ws_set (f := pfW) (d := pfK.idle 0) (x := p') (l := ps) (i := i) (by omega)
  have s3 := ws_one (d := pfK.idle 0) pfH_01 (l := ps) (i := i) (by omega)
  rw [hp] at s1 s2 s3
  have w0 := ws_nonneg pfW_01 ps
  have nt := H.nt
  have hT : ∀ j, pfW ((ps.set i p').getD j (pfK.idle 0)) = pfW (ps.getD j (pfK.idle 0)) := fun j => by
    rw [pf_get hl hi]
    split
    · rename_i e; subst e; rw [hp, hw, hw0]
    · rfl
  refine ⟨e.1.trans H.m2, e.2, by have := H.lo; omega, by omega, by have := H.hi; omega, by omega, fun j hj h => by have := H.rng j hj (by rw [← hT]; exact h); omega, fun j k hj hk hjk h1 h2 => H.inj j k hj hk hjk (by rw [← hT]; exact h1) (by rw [← hT]; exact h2), fun t h1 h2 => ?_, fun j hj => ?_⟩
  · obtain ⟨j, g1, g2, g3⟩ := H.sur t (by omega) h2
    exact ⟨j, g1, by rw [hT]; exact g2, g3⟩
  · rw [pf_get hl hi]
    split
    · rename_i e; subst e; exact ha
    · exact pfAt_mono (H.at_ j hj) (by omega) (by omega)
theorem PfTk.takes (H : PfTk base n (b + 1) ps m Wi Wo T) (hl : ps.length = n) (hi : i < n) (hp : ps.getD i (pfK.idle 0) = p) (heq : Wi = Wo) (hw0 : pfW p = 0) (hw : pfW p' = 0) (hh0 : pfH p = 0) (hh : pfH p' = 1) (ha : pfAt base (Wi + 1) Wo (T i) p') (e : m' 2 = (Wi + 1) % 4294967296 ∧ m' 3 = m 3) : ws pfH ps = 0 ∧ PfTk base n b (ps.set i p') m' (Wi + 1) Wo T := by
  have s1 := ws_set (f := pfH) (d := pfK.idle 0) (x := p') (l := ps) (i := i) (by omega)
  have s2 := ws_set (f := pfW) (d := pfK.idle 0) (x := p') (l := ps) (i := i) (by omega)
  rw [hp] at s1 s2
  have w0 := ws_nonneg pfW_01 ps
  have h0 := ws_nonneg pfH_01 ps
  have nt := H.nt
  have hT : ∀ j, pfW ((ps.set i p').getD j (pfK.idle 0)) = pfW (ps.getD j (pfK.idle 0)) := fun j => by
    rw [pf_get hl hi]
    split
    · rename_i e; subst e; rw [hp, hw, hw0]
    · rfl
  have hno : ∀ j, j < n → pfW (ps.getD j (pfK.idle 0)) ≠ 1 := fun j hj h => by
    have := ws_one (d := pfK.idle 0) pfW_01 (l := ps) (i := j) (by omega)
    omega
  refine ⟨by omega, e.1, e.2.trans H.m3, H.lo, by omega, by have := H.hi; omega, by omega, fun j hj h => absurd (by rw [← hT]; exact h) (hno j hj), fun j k hj hk hjk h1 h2 => absurd (by rw [← hT]; exact h1) (hno j hj), fun t h1 h2 => by omega, fun j hj => ?_⟩
  rw [pf_get hl hi]
  split
  · rename_i e; subst e; exact ha
  · exact pfAt_mono (H.at_ j hj) (by omega) (by omega)
end
def pfI (base : Int) (n b : Nat) (ps : List PfP) (m : Nat → Int) : Prop := n ≤ 64 ∧ ps.length = n ∧ (∃ Rin Rout, PhIs (ps.map pfAttr) (m 0) (m 1) (m 4) Rin Rout) ∧ (∃ Wi Wo T, PfTk base n b ps m Wi Wo T) ∧ ∀ p, p ∈ ps → pfOk p
theorem pf_mem {ps : List PfP} {i : Nat} {q : PfP} (h : ∀ p, p ∈ ps → pfOk p) (hq : pfOk q) : ∀ p, p ∈ ps.set i q → pfOk p := fun p hp => by
  rcases List.mem_or_eq_of_mem_set hp with h1 | h1
  · exact h p h1
  · rw [h1]; exact hq
theorem pf_at {ps : List PfP} {i n : Nat} (h : ∀ p, p ∈ ps → pfOk p) (hl : ps.length = n) (hi : i < n) : pfOk (ps.getD i (pfK.idle 0)) := h _ (by simp [List.getD, hl, hi])
theorem pf_hs (ps : List PfP) : ws wHd (ps.map pfAttr) = ws pfH ps := ws_map wHd pfAttr ps
theorem pfahead_is {x y : Int} (h : -1073741824 ≤ x - y ∧ x - y ≤ 1073741824) : aheadA (x % 4294967296) (y % 4294967296) = x - y := by
  unfold aheadA
  omega
theorem pf_wr (m : Nat → Int) (v : Int) : (written m (some (0, v)) 0 = v ∧ written m (some (0, v)) 1 = m 1 ∧ written m (some (0, v)) 4 = m 4 ∧ written m (some (0, v)) 2 = m 2 ∧ written m (some (0, v)) 3 = m 3) ∧
    (written m (some (1, v)) 0 = m 0 ∧ written m (some (1, v)) 1 = v ∧ written m (some (1, v)) 4 = m 4 ∧ written m (some (1, v)) 2 = m 2 ∧ written m (some (1, v)) 3 = m 3) ∧
    (written m (some (4, v)) 0 = m 0 ∧ written m (some (4, v)) 1 = m 1 ∧ written m (some (4, v)) 4 = v ∧ written m (some (4, v)) 2 = m 2 ∧ written m (some (4, v)) 3 = m 3) ∧
    (written m (some (2, v)) 0 = m 0 ∧ written m (some (2, v)) 1 = m 1 ∧ written m (some (2, v)) 4 = m 4 ∧ written m (some (2, v)) 2 = v ∧ written m (some (2, v)) 3 = m 3) ∧
    (written m (some (3, v)) 0 = m 0 ∧ written m (some (3, v)) 1 = m 1 ∧ written m (some (3, v)) 4 = m 4 ∧ written m (some (3, v)) 2 = m 2 ∧ written m (some (3, v)) 3 = v) := by
  simp [written, upd]

set_option maxHeartbeats 6400000 in
theorem pf_kept (base : Int) (n : Nat) : pfK.Keeps n (pfI base n) := by
  refine ⟨fun b ps m H => ?_, fun b ps m i _ _ _ => trivial, fun b ps m i op h H hi hl hp hm => ?_, fun b ps m i H hi hl hw hop => ?_, fun b ps m i c pr H hi hl hw hpr => ?_, fun b ps m i j c pr H hi hj hij hl hw hop hwj hpr => ?_⟩
  · obtain ⟨h1, h2, hP, ⟨Wi, Wo, T, H⟩, h5⟩ := H
    exact ⟨h1, h2, hP, ⟨Wi, Wo, T, H.m2, H.m3, H.lo, H.le, by have := H.hi; omega, H.nt, H.rng, H.inj, H.sur, H.at_⟩, h5⟩
  · obtain ⟨h1, h2, ⟨Rin, Rout, HP⟩, ⟨Wi, Wo, T, HT⟩, h5⟩ := H
    have hok := pf_at h5 hl hi
    rw [hp] at hok
    have hok : h = 0 ∨ h = 1 ∨ h = 2 := hok
    have key : pfAttr (pfK.start op h) = pfAttr (pfK.idle h) ∧ pfW (pfK.start op h) = 0 ∧ pfAt base Wi Wo (T i) (pfK.start op h) ∧ pfOk (pfK.start op h) := by
      rcases may_ops hm with ⟨rfl, rfl | rfl | rfl | rfl⟩ | ⟨rfl, rfl | rfl⟩ | ⟨g1, g2, rfl | rfl⟩ <;> first | exact ⟨rfl, rfl, trivial, trivial⟩ | (obtain rfl : h = 2 := by omega); exact ⟨rfl, rfl, trivial, trivial⟩
    obtain ⟨g1, g2, g3, g4⟩ := key
    refine ⟨h1, by simpa using h2, ⟨Rin, Rout, ?_⟩, ⟨Wi, Wo, T, HT.same hl hi hp (by unfold pfH; rw [g1]) (by rw [g2]; rfl) g3 ⟨rfl, rfl⟩⟩, pf_mem h5 g4⟩
    rw [List.map_set, g1, set_self (by simpa using (show i < ps.length by omega)) (d := Ph.none) (by rw [getD_map_ (d := pfK.idle 0) (by omega), hp])]
    exact HP
  · obtain ⟨h1, h2, ⟨Rin, Rout, HP⟩, ⟨Wi, Wo, T, HT⟩, h5⟩ := H
    have ha := HT.at_ i hi
    have hok := pf_at h5 hl hi
    have hact : pfK.act i (ps.getD i (pfK.idle 0)) m = pfAct (m 0) (m 1) (m 2) (m 3) (m 4) (ps.getD i (pfK.idle 0)) := rfl
    rw [hact]
    have hil : i < (ps.map pfAttr).length := by simpa using (show i < ps.length by omega)
    have hq := getD_map_ (g := pfAttr) (d := pfK.idle 0) (e := Ph.none) (l := ps) (i := i) (by omega)
    obtain ⟨p, hp⟩ : ∃ p, ps.getD i (pfK.idle 0) = p := ⟨_, rfl⟩
    rw [hp] at ha hok hq hw hop ⊢
    have hone : ws pfH ps ≤ 1 := by rw [← pf_hs]; exact HP.one
    have w0 := fun v => (pf_wr m v).1
    have w1 := fun v => (pf_wr m v).2.1
    have w4 := fun v => (pf_wr m v).2.2.1
    have w2 := fun v => (pf_wr m v).2.2.2.1
    have w3 := fun v => (pf_wr m v).2.2.2.2
    have fin : ∀ q w, (∃ Rin Rout, PhIs ((ps.map pfAttr).set i (pfAttr q)) (written m w 0) (written m w 1) (written m w 4) Rin Rout) → (∃ Wi Wo T, PfTk base n b (ps.set i q) (written m w) Wi Wo T) → pfOk q → pfI base n b (ps.set i q) (written m w) :=
      fun q w g1 g2 g3 => ⟨h1, by simpa using h2, by rw [List.map_set]; exact g1, g2, pf_mem h5 g3⟩
    have tsame : ∀ q w, pfH q = pfH p → pfW q = pfW p → pfAt base Wi Wo (T i) q → written m w 2 = m 2 → written m w 3 = m 3 → ∃ Wi Wo T, PfTk base n b (ps.set i q) (written m w) Wi Wo T :=
      fun q w g1 g2 g3 g4 g5 => ⟨Wi, Wo, T, HT.same hl hi hp g1 g2 g3 ⟨g4, g5⟩⟩
    have psame : ∀ q w, pfAttr q = pfAttr p → written m w 0 = m 0 → written m w 1 = m 1 → written m w 4 = m 4 → ∃ Rin Rout, PhIs ((ps.map pfAttr).set i (pfAttr q)) (written m w 0) (written m w 1) (written m w 4) Rin Rout :=
      fun q w g1 g2 g3 g4 => ⟨Rin, Rout, by rw [g1, g2, g3, g4, set_self hil hq]; exact HP⟩
    have nowr : ∀ q, pfAttr q = pfAttr p → pfW q = pfW p → pfAt base Wi Wo (T i) q → pfOk q → pfI base n b (ps.set i q) m :=
      fun q g1 g2 g3 g4 => fin q none (psame q none g1 rfl rfl rfl) (tsame q none (by unfold pfH; rw [g1]) g2 g3 rfl rfl) g4
    cases p <;> simp [pfK, pfWait] at hw <;> simp [pfK, pfConc, pfFr, Fr.zero] at hop <;> simp only [pfAt] at ha <;> simp only [pfOk] at hok <;> simp only [pfAct]
    case r0 =>
      obtain ⟨k0, k1, k4, k2, k3⟩ := w0 ((m 0 + 256) % 4294967296)
      split
      · exact fin _ _ ⟨_, _, by rw [k0, k1, k4]; exact HP.reads hil hq (by assumption)⟩ (tsame _ _ rfl rfl trivial k2 k3) (Or.inr (Or.inl rfl))
      · exact fin _ _ ⟨_, _, by rw [k0, k1, k4]; exact HP.waits hil hq (by assumption)⟩ (tsame _ _ rfl rfl trivial k2 k3) trivial
    case u0 =>
      obtain ⟨k0, k1, k4, k2, k3⟩ := w1 _
      exact fin _ _ ⟨_, _, by rw [k0, k1, k4]; exact HP.goes hil hq⟩ (tsame _ _ rfl rfl trivial k2 k3) (Or.inl rfl)
    case q0 a =>
      split
      · exact nowr _ rfl rfl trivial (by assumption)
      · exact nowr _ rfl rfl trivial (Or.inl rfl)
    case q1 a =>
      obtain ⟨k0, k1, k4, k2, k3⟩ := w0 ((a + 256) % 4294967296)
      by_cases h0 : m 0 = a
      · rw [if_pos h0]
        exact fin _ _ ⟨_, _, by rw [k0, k1, k4, ← h0]; exact HP.reads hil hq (by rw [h0]; exact hok)⟩ (tsame _ _ rfl rfl trivial k2 k3) (Or.inr (Or.inl rfl))
      · rw [if_neg h0]; exact nowr _ rfl rfl trivial trivial
    case l0 =>
      obtain ⟨k0, k1, k4, k2, k3⟩ := w2 ((m 2 + 1) % 4294967296)
      obtain ⟨T', H'⟩ := HT.ticket (p' := .l1 (m 2)) (m' := written m (some (2, (m 2 + 1) % 4294967296))) hl hi hp rfl rfl rfl HT.m2 ⟨by rw [k2, HT.m2]; omega, k3⟩
      exact fin _ _ (psame _ _ rfl k0 k1 k4) ⟨_, _, _, H'⟩ trivial
    case l2 a =>
      exact fin _ none ⟨_, _, HP.phase hil hq⟩ (tsame _ _ rfl rfl trivial rfl rfl) trivial
    case l3 a b' =>
      obtain ⟨k0, k1, k4, k2, k3⟩ := w0 _
      exact fin _ _ ⟨_, _, by rw [k0, k1, k4]; exact HP.present hil hq⟩ (tsame _ _ rfl rfl trivial k2 k3) trivial
    case v0 =>
      exact fin _ none ⟨_, _, HP.phaseW hil hq⟩ (tsame _ _ rfl rfl trivial rfl rfl) trivial
    case d0 =>
      exact fin _ none ⟨_, _, HP.phaseW hil hq⟩ (tsame _ _ rfl rfl trivial rfl rfl) trivial
    case v1 b' =>
      obtain ⟨k0, k1, k4, k2, k3⟩ := w0 _
      exact fin _ _ ⟨_, _, by rw [k0, k1, k4]; exact HP.leave hil hq⟩ (tsame _ _ rfl rfl trivial k2 k3) trivial
    case d1 b' =>
      obtain ⟨k0, k1, k4, k2, k3⟩ := w0 _
      exact fin _ _ ⟨_, _, by rw [k0, k1, k4]; exact HP.down hil hq⟩ (tsame _ _ rfl rfl trivial k2 k3) trivial
    case v2 b' =>
      obtain ⟨k0, k1, k4, k2, k3⟩ := w4 _
      exact fin _ _ ⟨_, _, by rw [k0, k1, k4]; exact HP.store hil hq⟩ (tsame _ _ rfl rfl trivial k2 k3) trivial
    case d2 b' =>
      obtain ⟨k0, k1, k4, k2, k3⟩ := w4 _
      exact fin _ _ ⟨_, _, by rw [k0, k1, k4]; exact HP.storeU hil hq⟩ (tsame _ _ rfl rfl trivial k2 k3) trivial
    case v3 b' =>
      obtain ⟨k0, k1, k4, k2, k3⟩ := w3 ((m 3 + 1) % 4294967296)
      exact fin _ _ ⟨_, _, by rw [k0, k1, k4]; exact HP.pass hil hq⟩ ⟨_, _, _, HT.pass hl hi hp hone rfl rfl rfl rfl trivial ⟨k2, by rw [k3, HT.m3]; omega⟩⟩ (Or.inl rfl)
    case d3 b' =>
      obtain ⟨k0, k1, k4, k2, k3⟩ := w3 ((m 3 + 1) % 4294967296)
      exact fin _ _ ⟨_, _, by rw [k0, k1, k4]; exact HP.passU hil hq⟩ ⟨_, _, _, HT.pass hl hi hp hone rfl rfl rfl rfl trivial ⟨k2, by rw [k3, HT.m3]; omega⟩⟩ (Or.inr (Or.inl rfl))
    case y9 a b' =>
      obtain ⟨k0, k1, k4, k2, k3⟩ := w3 ((m 3 + 1) % 4294967296)
      exact fin _ _ ⟨_, _, by rw [k0, k1, k4]; exact HP.pass hil hq⟩ ⟨_, _, _, HT.pass hl hi hp hone rfl rfl rfl rfl trivial ⟨k2, by rw [k3, HT.m3]; omega⟩⟩ (Or.inl rfl)
    case z9 a b' =>
      obtain ⟨k0, k1, k4, k2, k3⟩ := w3 ((m 3 + 1) % 4294967296)
      exact fin _ _ ⟨_, _, by rw [k0, k1, k4]; exact HP.passU hil hq⟩ ⟨_, _, _, HT.pass hl hi hp hone rfl rfl rfl rfl trivial ⟨k2, by rw [k3, HT.m3]; omega⟩⟩ (Or.inr (Or.inl rfl))
    case y0 a b' => exact nowr _ rfl rfl ⟨Wi, by have := HT.lo; have := HT.le; omega, by omega, HT.m2⟩ trivial
    case y1 a b' =>
      obtain ⟨u, u1, u2, u3⟩ := ha
      have hah : aheadA a (m 3) = u - Wo := by rw [u3, HT.m3]; exact pfahead_is (by have := HT.lo; have := HT.le; have := HT.hi; omega)
      rw [hah]
      split
      · exact nowr _ rfl rfl trivial (Or.inl rfl)
      split
      · exact nowr _ rfl rfl trivial trivial
      · exact nowr _ rfl rfl ⟨u, u1, u2, u3, by omega⟩ trivial
    case y2 a b' =>
      obtain ⟨u, u1, u2, u3, u4⟩ := ha
      obtain ⟨k0, k1, k4, k2, k3⟩ := w2 ((a + 1) % 4294967296)
      by_cases h0 : m 2 = a
      · rw [if_pos h0]
        have hm2 := HT.m2
        have hle := HT.le
        have hlo := HT.lo
        have hhi := HT.hi
        have hU : Wi = u := by omega
        obtain ⟨z, H'⟩ := HT.takes (p' := .y3 a b') (m' := written m (some (2, (a + 1) % 4294967296))) hl hi hp (by omega) rfl rfl rfl rfl trivial ⟨by rw [k2, u3, hU]; omega, k3⟩
        exact fin _ _ ⟨_, _, by rw [k0, k1, k4]; exact HP.take hil hq (by rw [pf_hs]; exact z)⟩ ⟨_, _, _, H'⟩ trivial
      · rw [if_neg h0]; exact nowr _ rfl rfl trivial trivial
    case y3 a b' => exact nowr _ rfl rfl trivial trivial
    case y4 a b' =>
      split
      · exact nowr _ rfl rfl trivial trivial
      · exact nowr _ rfl rfl trivial trivial
    case y5 a b' =>
      exact fin _ none ⟨_, _, HP.phase hil hq⟩ (tsame _ _ rfl rfl trivial rfl rfl) trivial
    case y6 a b' =>
      obtain ⟨k0, k1, k4, k2, k3⟩ := w0 _
      exact fin _ _ ⟨_, _, by rw [k0, k1, k4]; exact HP.present hil hq⟩ (tsame _ _ rfl rfl trivial k2 k3) trivial
    case z0 a b' => exact nowr _ rfl rfl ⟨Wi, by have := HT.lo; have := HT.le; omega, by omega, HT.m2⟩ trivial
    case z1 a b' =>
      obtain ⟨u, u1, u2, u3⟩ := ha
      have hah : aheadA a (m 3) = u - Wo := by rw [u3, HT.m3]; exact pfahead_is (by have := HT.lo; have := HT.le; have := HT.hi; omega)
      rw [hah]
      split
      · exact nowr _ rfl rfl trivial (Or.inr (Or.inl rfl))
      split
      · exact nowr _ rfl rfl trivial trivial
      · exact nowr _ rfl rfl ⟨u, u1, u2, u3, by omega⟩ trivial
    case z2 a b' =>
      obtain ⟨u, u1, u2, u3, u4⟩ := ha
      obtain ⟨k0, k1, k4, k2, k3⟩ := w2 ((a + 1) % 4294967296)
      by_cases h0 : m 2 = a
      · rw [if_pos h0]
        have hm2 := HT.m2
        have hle := HT.le
        have hlo := HT.lo
        have hhi := HT.hi
        have hU : Wi = u := by omega
        obtain ⟨z, H'⟩ := HT.takes (p' := .z3 a b') (m' := written m (some (2, (a + 1) % 4294967296))) hl hi hp (by omega) rfl rfl rfl rfl trivial ⟨by rw [k2, u3, hU]; omega, k3⟩
        exact fin _ _ ⟨_, _, by rw [k0, k1, k4]; exact HP.takeU hil hq (by rw [pf_hs]; exact z)⟩ ⟨_, _, _, H'⟩ trivial
      · rw [if_neg h0]; exact nowr _ rfl rfl trivial trivial
    case z3 a b' => exact nowr _ rfl rfl trivial trivial
    case z4 a b' =>
      split
      · exact nowr _ rfl rfl trivial trivial
      · exact nowr _ rfl rfl trivial trivial
    case z5 a b' =>
      exact fin _ none ⟨_, _, HP.phaseU hil hq⟩ (tsame _ _ rfl rfl trivial rfl rfl) trivial
    case z6 a b' =>
      obtain ⟨k0, k1, k4, k2, k3⟩ := w0 _
      exact fin _ _ ⟨_, _, by rw [k0, k1, k4]; exact HP.presentU hil hq⟩ (tsame _ _ rfl rfl trivial k2 k3) trivial
    case z8 a b' =>
      obtain ⟨k0, k1, k4, k2, k3⟩ := w1 _
      exact fin _ _ ⟨_, _, by rw [k0, k1, k4]; exact HP.upin hil hq⟩ (tsame _ _ rfl rfl trivial k2 k3) (Or.inr (Or.inr rfl))
  · obtain ⟨h1, h2, ⟨Rin, Rout, HP⟩, ⟨Wi, Wo, T, HT⟩, h5⟩ := H
    have ha := HT.at_ i hi
    have hrg := HT.rng i hi
    have hpost : pfK.post (ps.getD i (pfK.idle 0)) (m c) = pfPost (ps.getD i (pfK.idle 0)) := rfl
    rw [hpost]
    have hil : i < (ps.map pfAttr).length := by simpa using (show i < ps.length by omega)
    have hq := getD_map_ (g := pfAttr) (d := pfK.idle 0) (e := Ph.none) (l := ps) (i := i) (by omega)
    obtain ⟨p, hp⟩ : ∃ p, ps.getD i (pfK.idle 0) = p := ⟨_, rfl⟩
    rw [hp] at ha hq hw hrg ⊢
    have fin : ∀ q, (∃ Rin Rout, PhIs ((ps.map pfAttr).set i (pfAttr q)) (m 0) (m 1) (m 4) Rin Rout) → (∃ Wi Wo T, PfTk base n b (ps.set i q) m Wi Wo T) → pfOk q → pfI base n b (ps.set i q) m :=
      fun q g1 g2 g3 => ⟨h1, by simpa using h2, by rw [List.map_set]; exact g1, g2, pf_mem h5 g3⟩
    have tsame : ∀ q, pfH q = pfH p → pfW q = pfW p → pfAt base Wi Wo (T i) q → ∃ Wi Wo T, PfTk base n b (ps.set i q) m Wi Wo T :=
      fun q g1 g2 g3 => ⟨Wi, Wo, T, HT.same hl hi hp g1 g2 g3 ⟨rfl, rfl⟩⟩
    cases p <;> simp [pfK, pfWait] at hw <;> simp only [pfAt] at ha
    case r1 a =>
      obtain ⟨rfl, rfl⟩ := hw
      have h0 : ¬ m 0 % 4 = a % 4 := by simpa using hpr
      exact fin _ ⟨_, _, HP.lets hil hq h0⟩ (tsame _ rfl rfl trivial) (Or.inr (Or.inl rfl))
    case l1 a =>
      obtain ⟨rfl, rfl⟩ := hw
      have h0 : m 3 = a := by simpa using hpr
      have hr := hrg rfl
      have hs := ws_nonneg pfH_01 ps
      have hT : T i = Wo := by have := HT.m3; have := HT.lo; have := HT.le; have := HT.hi; omega
      obtain ⟨z, H'⟩ := HT.turn (p' := .l2 a) (m' := m) hl hi hp hT rfl rfl rfl rfl trivial ⟨rfl, rfl⟩
      exact fin _ ⟨_, _, HP.take hil hq (by rw [pf_hs]; exact z)⟩ ⟨_, _, _, H'⟩ trivial
    case l4 a b' =>
      obtain ⟨rfl, rfl⟩ := hw
      have h0 : m 1 = a := by simpa using hpr
      exact fin _ ⟨_, _, HP.admit hil hq h0⟩ (tsame _ rfl rfl trivial) (Or.inr (Or.inr rfl))
    case y7 a b' =>
      obtain ⟨rfl, rfl⟩ := hw
      have h0 : m 1 = a := by simpa using hpr
      exact fin _ ⟨_, _, HP.admit hil hq h0⟩ (tsame _ rfl rfl trivial) (Or.inr (Or.inr rfl))
    case z7 a b' =>
      obtain ⟨rfl, rfl⟩ := hw
      have h0 : m 1 = (a - 256) % 4294967296 := by simpa using hpr
      exact fin _ ⟨_, _, HP.admitU hil hq h0⟩ (tsame _ rfl rfl trivial) trivial
  · obtain ⟨h1, h2, ⟨Rin, Rout, HP⟩, ⟨Wi, Wo, T, HT⟩, h5⟩ := H
    have hact : pfK.act i (ps.getD i (pfK.idle 0)) m = pfAct (m 0) (m 1) (m 2) (m 3) (m 4) (ps.getD i (pfK.idle 0)) := rfl
    rw [hact] at hpr ⊢
    have hil : i < (ps.map pfAttr).length := by simpa using (show i < ps.length by omega)
    have hjl : j < (ps.map pfAttr).length := by simpa using (show j < ps.length by omega)
    have hq := getD_map_ (g := pfAttr) (d := pfK.idle 0) (e := Ph.none) (l := ps) (i := i) (by omega)
    have hqj := getD_map_ (g := pfAttr) (d := pfK.idle 0) (e := Ph.none) (l := ps) (i := j) (by omega)
    obtain ⟨p, hp⟩ : ∃ p, ps.getD i (pfK.idle 0) = p := ⟨_, rfl⟩
    obtain ⟨q, hqq⟩ : ∃ q, ps.getD j (pfK.idle 0) = q := ⟨_, rfl⟩
    rw [hp] at hw hop hpr hq ⊢
    rw [hqq] at hwj hqj
    have QM := HP.ok _ (getD_mem_ (d := Ph.none) hjl)
    rw [hqj] at QM
    have hal := fun h => HP.alone hil hq h hjl (fun h => hij h.symm)
    rw [hqj] at hal
    have HA := HP.own hil hq
    have hone := HP.one
    have off := HP.off
    obtain ⟨⟨s0, s1, s2, s3, s4, s5, s6, s7⟩, s8, s9⟩ := HP.sums
    have hx0 : 0 ≤ m 0 ∧ m 0 < 4294967296 := by have := HP.on; omega
    have hc : (c = 0 ∧ ∃ a, q = .r1 a ∧ pr = (fun v => v % 4 != a % 4)) ∨ c = 3 ∨ (c = 1 ∧ (pfAttr q).hd = true) := by
      cases q <;> simp [pfK, pfWait] at hwj
      case r1 a => exact Or.inl ⟨hwj.1.symm, a, rfl, hwj.2.symm⟩
      case l1 a => exact Or.inr (Or.inl hwj.1.symm)
      all_goals exact Or.inr (Or.inr ⟨hwj.1.symm, rfl⟩)
    have keep : ∀ w, (pfAct (m 0) (m 1) (m 2) (m 3) (m 4) p).2.1 = w → written m w c = m c → pr (m c) = true ∨ (pfAct (m 0) (m 1) (m 2) (m 3) (m 4) p).2.2 = some c := fun w g1 g2 => Or.inl (by rw [← g2, ← g1]; exact hpr)
    have other : ∀ c0 v, (pfAct (m 0) (m 1) (m 2) (m 3) (m 4) p).2.1 = some (c0, v) → c ≠ c0 → pr (m c) = true ∨ (pfAct (m 0) (m 1) (m 2) (m 3) (m 4) p).2.2 = some c := fun c0 v g1 g2 => keep _ g1 (by simp [written, upd, g2])
    have more : ∀ v, (pfAct (m 0) (m 1) (m 2) (m 3) (m 4) p).2.1 = some (0, v) → v % 4 = m 0 % 4 → pr (m c) = true ∨ (pfAct (m 0) (m 1) (m 2) (m 3) (m 4) p).2.2 = some c := fun v g1 g2 => by
      rcases hc with ⟨rfl, a, rfl, rfl⟩ | rfl | ⟨rfl, _⟩
      · left
        rw [g1] at hpr
        simp only [written, upd, if_true] at hpr ⊢
        rw [← g2]; exact hpr
      · exact other 0 _ g1 (by decide)
      · exact other 0 _ g1 (by decide)
    have pres : ∀ v, (pfAct (m 0) (m 1) (m 2) (m 3) (m 4) p).2.1 = some (0, v) → (pfAttr p).hd = true → wIn (pfAttr p) + wUp (pfAttr p) + wPd (pfAttr p) + wA2 (pfAttr p) = 0 → pr (m c) = true ∨ (pfAct (m 0) (m 1) (m 2) (m 3) (m 4) p).2.2 = some c := fun v g1 g2 g3 => by
      rcases hc with ⟨rfl, a, rfl, rfl⟩ | rfl | ⟨rfl, _⟩
      · left
        have hh : wHd (pfAttr p) = 1 := by unfold wHd; rw [g2]; rfl
        have h0 := off (by omega)
        have hwt := (QM.wt (a % 4) rfl).1
        have : ¬ m 0 % 4 = a % 4 := by omega
        simpa using this
      · exact other 0 _ g1 (by decide)
      · exact other 0 _ g1 (by decide)
    cases p <;> simp [pfK, pfWait] at hw <;> simp [pfK, pfConc, pfFr, Fr.zero] at hop
    case r0 => exact more _ rfl (by omega)
    case q1 a =>
      by_cases h0 : m 0 = a
      · exact more ((a + 256) % 4294967296) (by simp only [pfAct, if_pos h0]) (by omega)
      · exact keep none (by simp only [pfAct, if_neg h0]) rfl
    case l3 a b' => exact pres _ rfl rfl rfl
    case y6 a b' => exact pres _ rfl rfl rfl
    case z6 a b' => exact pres _ rfl rfl rfl
    case u0 => rcases hc with ⟨rfl, _⟩ | rfl | ⟨rfl, _⟩ <;> first | exact Or.inr rfl | exact other 1 _ rfl (by decide)
    case v1 b' => rcases hc with ⟨rfl, _⟩ | rfl | ⟨rfl, _⟩ <;> first | exact Or.inr rfl | exact other 0 _ rfl (by decide)
    case d1 b' => rcases hc with ⟨rfl, _⟩ | rfl | ⟨rfl, _⟩ <;> first | exact Or.inr rfl | exact other 0 _ rfl (by decide)
    case v2 b' => rcases hc with ⟨rfl, _⟩ | rfl | ⟨rfl, _⟩ <;> exact other 4 _ rfl (by decide)
    case d2 b' => rcases hc with ⟨rfl, _⟩ | rfl | ⟨rfl, _⟩ <;> exact other 4 _ rfl (by decide)
    case l0 => rcases hc with ⟨rfl, _⟩ | rfl | ⟨rfl, _⟩ <;> exact other 2 _ rfl (by decide)
    case v3 b' => rcases hc with ⟨rfl, _⟩ | rfl | ⟨rfl, _⟩ <;> first | exact Or.inr rfl | exact other 3 _ rfl (by decide)
    case d3 b' => rcases hc with ⟨rfl, _⟩ | rfl | ⟨rfl, _⟩ <;> first | exact Or.inr rfl | exact other 3 _ rfl (by decide)
    case y9 a b' => rcases hc with ⟨rfl, _⟩ | rfl | ⟨rfl, _⟩ <;> first | exact Or.inr rfl | exact other 3 _ rfl (by decide)
    case z9 a b' => rcases hc with ⟨rfl, _⟩ | rfl | ⟨rfl, _⟩ <;> first | exact Or.inr rfl | exact other 3 _ rfl (by decide)
    case z8 a b' =>
      rcases hc with ⟨rfl, _⟩ | rfl | ⟨rfl, hh⟩
      · exact other 1 _ rfl (by decide)
      · exact other 1 _ rfl (by decide)
      · have := hal rfl
        rw [hh] at this
        cases this
    case y2 a b' =>
      by_cases h0 : m 2 = a
      · rcases hc with ⟨rfl, _⟩ | rfl | ⟨rfl, _⟩ <;> exact other 2 _ (by simp only [pfAct, if_pos h0]; rfl) (by decide)
      · exact keep none (by simp only [pfAct, if_neg h0]) rfl
    case z2 a b' =>
      by_cases h0 : m 2 = a
      · rcases hc with ⟨rfl, _⟩ | rfl | ⟨rfl, _⟩ <;> exact other 2 _ (by simp only [pfAct, if_pos h0]; rfl) (by decide)
      · exact keep none (by simp only [pfAct, if_neg h0]) rfl
    all_goals exact keep none rfl rfl

/-- How many writes are left; how many that wake; how many steps while no word changes. -/
def pfNw : PfP → Nat
  | .idle h => if h = 0 then 0 else if h = 1 then 1 else 3
  | .r1 _ => 1
  | .u0 => 1
  | .v3 _ => 1
  | .y9 _ _ => 1
  | .r0 => 2
  | .q0 _ => 2
  | .q1 _ => 2
  | .v2 _ => 2
  | .d3 _ => 2
  | .z9 _ _ => 2
  | .l4 _ _ => 3
  | .v0 => 3
  | .v1 _ => 3
  | .d2 _ => 3
  | .y7 _ _ => 3
  | .l1 _ => 4
  | .l2 _ => 4
  | .l3 _ _ => 4
  | .d0 => 4
  | .d1 _ => 4
  | .y3 _ _ => 4
  | .y4 _ _ => 4
  | .y5 _ _ => 4
  | .y6 _ _ => 4
  | .z7 _ _ => 4
  | .z8 _ _ => 4
  | .l0 => 5
  | .y0 _ _ => 5
  | .y1 _ _ => 5
  | .y2 _ _ => 5
  | .z3 _ _ => 5
  | .z4 _ _ => 5
  | .z5 _ _ => 5
  | .z6 _ _ => 5
  | _ => 6
def pfNv : PfP → Nat
  | .idle h => if h = 0 then 0 else if h = 1 then 1 else 2
  | .r0 => 1
  | .r1 _ => 1
  | .u0 => 1
  | .q0 _ => 1
  | .q1 _ => 1
  | .v2 _ => 1
  | .v3 _ => 1
  | .y9 _ _ => 1
  | .d0 => 3
  | .d1 _ => 3
  | _ => 2
def pfCp (x0 x1 x2 x3 : Int) : PfP → Nat
  | .idle h => if h = 0 then 0 else if h = 1 then 1 else 2
  | .r1 a => if x0 % 4 != a % 4 then 2 else 5
  | .q0 _ => 2
  | .q1 a => if x0 = a then 1 else 3
  | .l1 a => if x3 = a then 3 else 5
  | .l2 _ => 2
  | .l4 a _ => if x1 = a then 3 else 5
  | .v0 => 2 | .d0 => 2
  | .y7 a _ => if x1 = a then 3 else 5
  | .z7 a _ => if x1 = (a - 256) % 4294967296 then 2 else 5
  | .y0 _ _ => 3
  | .y1 a _ => if x2 = a then 2 else 5
  | .y2 a _ => if x2 = a then 1 else 4
  | .y3 _ _ => 4 | .y4 _ _ => 3 | .y5 _ _ => 2
  | .z0 _ _ => 3
  | .z1 a _ => if x2 = a then 2 else 5
  | .z2 a _ => if x2 = a then 1 else 4
  | .z3 _ _ => 4 | .z4 _ _ => 3 | .z5 _ _ => 2
  | _ => 1

set_option maxHeartbeats 3200000 in
theorem pf_live (base : Int) (n : Nat) : pfK.Live n (pfI base n) 6 3 7 pfNw pfNv (fun m _ p => pfCp (m 0) (m 1) (m 2) (m 3) p) := by
  refine ⟨fun p => by cases p <;> simp [pfNw] <;> (repeat' split) <;> omega, fun p => by cases p <;> simp [pfNv] <;> (repeat' split) <;> omega, by decide, fun m t p => by cases p <;> simp [pfCp] <;> (repeat' split) <;> omega, fun m t p c pr hw hpr => ?_, fun m t p c pr hw hpr => ?_, fun t p c pr v hw => ?_,
    fun m t p w hw hop he => ?_, fun b ps m t p hI hpl ht hpt hw hop he => ?_, fun m t h hh => ?_, fun m t => rfl, fun m t p hw hz => ?_, fun b ps m H hl hall => ?_⟩
  · cases p <;> simp [pfK, pfWait] at hw <;> obtain ⟨rfl, rfl⟩ := hw <;> simp at hpr <;> simp [pfK, pfPost, pfCp, hpr]
  · cases p <;> simp [pfK, pfWait] at hw <;> obtain ⟨rfl, rfl⟩ := hw <;> simp at hpr <;> simp [pfCp, hpr]
  · cases p <;> simp [pfK, pfWait] at hw <;> simp [pfK, pfPost, pfNw, pfNv]
  · have hact : pfK.act t p m = pfAct (m 0) (m 1) (m 2) (m 3) (m 4) p := rfl
    rw [hact] at he ⊢
    cases p <;> simp [pfK, pfWait] at hw <;> simp [pfK, pfConc, pfFr, Fr.zero] at hop
    case r0 => simp only [pfAct]; split <;> simp [pfNw, pfNv]
    case q1 a => by_cases hq : m 0 = a <;> simp [pfAct, hq] at he <;> simp [pfAct, pfNw, pfNv, hq]
    case y2 a b => by_cases hq : m 2 = a <;> simp [pfAct, hq] at he <;> simp [pfAct, pfNw, pfNv, hq]
    case z2 a b => by_cases hq : m 2 = a <;> simp [pfAct, hq] at he <;> simp [pfAct, pfNw, pfNv, hq]
    all_goals first | (simp [pfAct] at he; done) | simp [pfAct, pfNw, pfNv]
  · have hact : pfK.act t p m = pfAct (m 0) (m 1) (m 2) (m 3) (m 4) p := rfl
    rw [hact] at he ⊢
    show _ ∧ _ ∧ _ ∧ pfCp (m 0) (m 1) (m 2) (m 3) (pfAct (m 0) (m 1) (m 2) (m 3) (m 4) p).1 + 1 ≤ pfCp (m 0) (m 1) (m 2) (m 3) p
    obtain ⟨h1, h2, _, ⟨Wi, Wo, T, HT⟩, _⟩ := hI
    have m2 := HT.m2
    have m3 := HT.m3
    have lo := HT.lo
    have le := HT.le
    have hhi := HT.hi
    clear hact hpt HT
    cases p <;> simp [pfK, pfWait] at hw <;> simp [pfK, pfConc, pfFr, Fr.zero] at hop
    case q0 a => by_cases hq : m 0 % 4 = 0 <;> simp [pfAct, pfNw, pfNv, pfCp, hq]
    case q1 a => by_cases hq : m 0 = a <;> simp [pfAct, hq] at he <;> simp [pfAct, pfNw, pfNv, pfCp, hq]
    case y1 a b =>
      by_cases hq : m 2 = a
      · have hah : aheadA a (m 3) = Wi - Wo := by rw [← hq, m2, m3]; exact pfahead_is (by omega)
        simp only [pfAct, hah]
        split
        · simp [pfNw, pfNv, pfCp, hq]
        split
        · omega
        · simp [pfNw, pfNv, pfCp, hq]
      · simp only [pfAct]
        (repeat' split) <;> simp [pfNw, pfNv, pfCp, hq]
    case z1 a b =>
      by_cases hq : m 2 = a
      · have hah : aheadA a (m 3) = Wi - Wo := by rw [← hq, m2, m3]; exact pfahead_is (by omega)
        simp only [pfAct, hah]
        split
        · simp [pfNw, pfNv, pfCp, hq]
        split
        · omega
        · simp [pfNw, pfNv, pfCp, hq]
      · simp only [pfAct]
        (repeat' split) <;> simp [pfNw, pfNv, pfCp, hq]
    case y2 a b => by_cases hq : m 2 = a <;> simp [pfAct, hq] at he <;> simp [pfAct, pfNw, pfNv, pfCp, hq]
    case z2 a b => by_cases hq : m 2 = a <;> simp [pfAct, hq] at he <;> simp [pfAct, pfNw, pfNv, pfCp, hq]
    case y4 a b => simp only [pfAct]; split <;> simp [pfNw, pfNv, pfCp]
    case z4 a b => simp only [pfAct]; split <;> simp [pfNw, pfNv, pfCp]
    all_goals first | (simp [pfAct] at he; done) | simp [pfAct, pfNw, pfNv, pfCp]
  · rcases hh with rfl | rfl <;> simp [pfK, pfStart, pfNw, pfNv, pfCp]
  · cases p <;> simp [pfK, pfWait] at hw <;> simp [pfCp] at hz
    case idle h =>
      rcases Decidable.em (h = 0) with h0 | h0
      · subst h0; rfl
      · have hz := hz h0
        split at hz <;> simp at hz
    all_goals (split at hz <;> simp at hz)
  · obtain ⟨h1, h2, ⟨Rin, Rout, HP⟩, ⟨Wi, Wo, T, HT⟩, h5⟩ := H
    have hfree := HP.free (fun q hq => by
      obtain ⟨i, hi, rfl⟩ := List.getElem_of_mem hq
      have hin : i < n := by simpa [hl] using hi
      have e : (ps.map pfAttr)[i] = pfAttr (ps.getD i (pfK.idle 0)) := by simp [List.getD, show i < ps.length by omega]
      rw [e]
      rcases hall i hin with h | ⟨c, pr, hw, hpr⟩
      · rw [h]; exact ⟨rfl, rfl, rfl, (fun h => by cases h), (fun w h => by cases h), (fun h => by cases h)⟩
      · generalize ps.getD i (pfK.idle 0) = p at hw
        cases p <;> simp [pfK, pfWait] at hw <;> obtain ⟨rfl, rfl⟩ := hw <;> simp at hpr
        case r1 a => exact ⟨rfl, rfl, rfl, (fun h => by cases h), (fun w h => by have := Option.some.inj h; omega), (fun h => by cases h)⟩
        case l1 a => exact ⟨rfl, rfl, rfl, (fun h => by cases h), (fun w h => by cases h), (fun h => by cases h)⟩
        case l4 a b' => exact ⟨rfl, rfl, rfl, (fun h => by cases h), (fun w h => by cases h), fun _ => ⟨a, rfl, hpr⟩⟩
        case y7 a b' => exact ⟨rfl, rfl, rfl, (fun h => by cases h), (fun w h => by cases h), fun _ => ⟨a, rfl, hpr⟩⟩
        case z7 a b' => exact ⟨rfl, rfl, rfl, fun _ => rfl, (fun w h => by cases h), fun _ => ⟨a, rfl, hpr⟩⟩)
    have hwt : ∀ i, i < n → (pfAttr (ps.getD i (pfK.idle 0))).wt = none ∧ (pfAttr (ps.getD i (pfK.idle 0))).pd = false := fun i hi => by
      rw [← getD_map_ (g := pfAttr) (e := Ph.none) (by omega)]
      exact hfree _ (getD_mem_ (by simpa using (show i < ps.length by omega)))
    have hl1 : ∀ i, i < n → ps.getD i (pfK.idle 0) = pfK.idle 0 ∨ ∃ a, ps.getD i (pfK.idle 0) = .l1 a ∧ ¬ m 3 = a := fun i hi => by
      have hq := hwt i hi
      rcases hall i hi with h | ⟨c, pr, hw, hpr⟩
      · exact Or.inl h
      · right
        generalize ps.getD i (pfK.idle 0) = p at hw hq ⊢
        cases p <;> simp [pfK, pfWait] at hw <;> obtain ⟨rfl, rfl⟩ := hw <;> simp at hpr
        case r1 a => cases hq.1
        case l1 a => exact ⟨a, rfl, hpr⟩
        all_goals cases hq.2
    have hh0 : ws pfH ps = 0 := ws_all0 (d := pfK.idle 0) hl (fun i hi => by
      rcases hl1 i hi with h | ⟨a, h, _⟩ <;> rw [h] <;> rfl)
    intro i hi
    rcases hl1 i hi with h | ⟨a, h, hne⟩
    · exact h
    · exfalso
      have hr := HT.rng i hi (by rw [h]; rfl)
      obtain ⟨j, hj, g2, g3⟩ := HT.sur Wo (by omega) (by omega)
      rcases hl1 j hj with h | ⟨a, h, hne⟩
      · rw [h] at g2; exact absurd g2 (by decide)
      · have haj := HT.at_ j hj
        rw [h] at haj
        have haj : a = T j % 4294967296 := haj
        exact hne (by rw [HT.m3, haj, g3])

theorem pf_all (base : Int) (n : Nat) (mode : Int) : pfK.All n mode (pfI base n) 6 3 7 pfNw pfNv (fun m _ p => pfCp (m 0) (m 1) (m 2) (m 3) p) := by
  refine ⟨pf_good n mode, pf_kept base n, pf_live base n, fun b ps m i h H hi hl hp => ?_, fun b ps m i j H hl hi hj hji hp => ?_, fun t h => rfl⟩
  · have := pf_at H.2.2.2.2 hl hi
    rw [hp] at this
    exact this
  · obtain ⟨h1, h2, ⟨Rin, Rout, HP⟩, ⟨Wi, Wo, T, HT⟩, h5⟩ := H
    have hil : i < (ps.map pfAttr).length := by simpa using (show i < ps.length by omega)
    have hjl : j < (ps.map pfAttr).length := by simpa using (show j < ps.length by omega)
    have hqi : (ps.map pfAttr).getD i Ph.none = pfAttr (pfK.idle 2) := by rw [getD_map_ (d := pfK.idle 0) (by omega), hp]
    have hqj : (ps.map pfAttr).getD j Ph.none = pfAttr (ps.getD j (pfK.idle 0)) := getD_map_ (by omega)
    have hal := HP.alone hil hqi rfl hjl hji
    rw [hqj] at hal
    have o1 := ws_one (d := Ph.none) wIn_01 hil
    rw [hqi] at o1
    have o1 : 1 ≤ ws wIn (ps.map pfAttr) := o1
    obtain ⟨⟨s0, s1, s2, s3, s4, s5, s6, s7⟩, s8, s9⟩ := HP.sums
    have one := HP.one
    have wr := (HP.wr (by omega)).1
    have o5 := ws_one (d := Ph.none) wRd_01 hjl
    rw [hqj, wr] at o5
    have hok := pf_at h5 hl hj
    generalize ps.getD j (pfK.idle 0) = p at hal o5 hok
    cases p <;> first | rfl | (exfalso; simp [pfAttr] at hal; done) | (exfalso; simp [pfAttr, wRd] at o5; done) | skip
    case idle h =>
      show h = 0
      have hok : h = 0 ∨ h = 1 ∨ h = 2 := hok
      rcases hok with rfl | rfl | rfl
      · rfl
      · exfalso; simp [pfAttr, wRd] at o5
      · exfalso; simp [pfAttr] at hal

/-- ONE WRITES, OR MANY READ. -/
theorem pf_excludes (k : Nat) (d base : Int) (h1 : 1 ≤ k) (h2 : k ≤ 6) (hd : d = 1 ∨ d = 2) (hb : 0 ≤ base ∧ base < 4294967296) (l : List (Int × Int)) (hlen : l.length ≤ 500) : ExcludesOk pfA k (Mt.start k d (own2 base ++ List.replicate ((8 + 4 * (k : Int)).toNat - 5) 0)) l := by
  have hfit : k * ((7 + 1) * 6 + 2 * k * 3) + 2 * k + 7 < 2 * k * (8 * k + 40) ∧ 2 * k * (2 * k * (8 * k + 40)) ≤ 100000 := by
    rcases (show k = 1 ∨ k = 2 ∨ k = 3 ∨ k = 4 ∨ k = 5 ∨ k = 6 by omega) with rfl | rfl | rfl | rfl | rfl | rfl <;> decide
  refine excludes_ok (K := pfK) (pf_all base k d) h1 (by omega) hd hfit.1 rfl l (start_MI (pf_all base k d) _ (by simp [own2]; omega) ?_)
  have hr : ∀ i, (List.replicate k (pfK.idle 0)).getD i (pfK.idle 0) = pfK.idle 0 := fun i => by
    rw [List.getD_eq_getElem?_getD, List.getElem?_replicate]; split <;> rfl
  have hx : mainOf k (own2 base ++ List.replicate ((8 + 4 * (k : Int)).toNat - 5) 0) 0 = base * 256 % 4294967296 ∧ mainOf k (own2 base ++ List.replicate ((8 + 4 * (k : Int)).toNat - 5) 0) 1 = base * 256 % 4294967296 ∧ mainOf k (own2 base ++ List.replicate ((8 + 4 * (k : Int)).toNat - 5) 0) 2 = base ∧ mainOf k (own2 base ++ List.replicate ((8 + 4 * (k : Int)).toNat - 5) 0) 3 = base ∧ mainOf k (own2 base ++ List.replicate ((8 + 4 * (k : Int)).toNat - 5) 0) 4 = base := by
    simp [mainOf, own2]; omega
  obtain ⟨x0, x1, x2, x3, x4⟩ := hx
  have hmr : (List.replicate k (pfK.idle 0)).map pfAttr = List.replicate k Ph.none := by rw [List.map_replicate]; rfl
  have z := fun (f : Ph → Int) (h : f Ph.none = 0) => ws_replicate (f := f) (n := k) h
  refine ⟨by omega, by simp, ⟨base, base, ?_⟩, ⟨base, base, fun _ => 0, ?_⟩, fun p hp => ?_⟩
  · rw [hmr, x0, x1, x4]
    refine ⟨by simp; omega, hb, by omega, ?_, ?_, ?_, ?_, ?_, ?_, ?_, ?_, fun q hq => ?_, fun q hq v hv => ?_, fun q hq a ha => ?_⟩
    · rw [z wRd rfl, z (wOld base) rfl, z (wNew base) rfl]; omega
    · rw [z wIn rfl, z wUp rfl, z wPd rfl]; intro h; omega
    · intro _; omega
    · rw [z wHd rfl]; decide
    · rw [z wIn rfl]; intro h; omega
    · rw [z wUp rfl]; intro h; omega
    · rw [z wA2 rfl]; intro h; omega
    · intro _ _; exact z (wNew base) rfl
    · rw [(List.mem_replicate.1 hq).2]; exact ⟨by decide, (fun w h => by cases h), (fun w h => by cases h), (fun w h => by cases h), by decide⟩
    · rw [(List.mem_replicate.1 hq).2] at hv; cases hv
    · rw [(List.mem_replicate.1 hq).2] at ha; cases ha
  · refine ⟨by rw [x2]; omega, by rw [x3]; omega, by omega, by omega, by omega, ?_, fun i _ h => ?_, fun i j _ _ _ h => ?_, fun t g1 g2 => ?_, fun i _ => ?_⟩
    · rw [ws_replicate (f := pfH) rfl, ws_replicate (f := pfW) rfl]; omega
    · rw [hr] at h; exact absurd (show (0 : Int) = 1 from h) (by decide)
    · rw [hr] at h; exact absurd (show (0 : Int) = 1 from h) (by decide)
    · rw [ws_replicate (f := pfH) rfl] at g1; omega
    · rw [hr]; trivial
  · rw [(List.mem_replicate.1 hp).2]; exact Or.inl rfl

end Go.Proofs.Ytmbbcgkfankiaaa.Z

/- Law 11: the statement PfExcludes. Written by genmat.py. -/
set_option linter.unusedVariables false
set_option linter.unusedSimpArgs false
namespace Go.Proofs.Ytmbbcgkfankiaaa.Z
open Go.RowKit

theorem pfExcludes_any {B : Option Addr} {m d : Nat} {l : List (Int × Int)} (n mode base : Int) (w : World) (hn : 0 ≤ n ∧ n < 256) (hm : 0 ≤ mode ∧ mode < 256) (hb : 0 ≤ base ∧ base < 4294967296) (hB : Rd w 2 B m (l.flatMap turnDec)) (hl : ∀ x, x ∈ l → (0 ≤ x.1 ∧ x.1 < 256) ∧ (0 ≤ x.2 ∧ x.2 < 256)) :
    Calls Try.prog 10 #[.int .u8 n, .int .u8 mode, .int .u32 base, .slice B m d] w fun e w' => e = .returned (.bool true) ∧ Touch [] w w' := by
  by_cases h5 : m ≤ 500
  · exact pf_excludes_some n mode base l w hn hm hb hB hl h5 (fun k hk => pf_excludes k (1 + mode % 2) base (by omega) (by omega) (by omega) hb l (by rw [turn_len hB]; exact h5))
  · exact pf_excludes_long n mode base w hn hm hb (by omega)

end Go.Proofs.Ytmbbcgkfankiaaa.Z
