/- Locks as tasks that wait for cells, and wake each other: what a step of a task does. No lock in sight. -/
import Derived.Test.YtlndihdlodempaaZMat2
set_option linter.unusedVariables false
set_option linter.unusedSimpArgs false
namespace Go.Proofs.Ytlndihdlodempaa.Z
open Go.RowKit

/-- The words that are no watches, no permits. -/
def mainOf (n : Nat) (L : List Int) : Nat → Int := fun j => if j < 8 + 2 * n then L.getD j 0 else 0
def upd (m : Nat → Int) (c : Nat) (v : Int) : Nat → Int := fun j => if j = c then v else m j
def written (m : Nat → Int) : Option (Nat × Int) → Nat → Int
  | none => m
  | some (c, v) => upd m c v
def writtenL (L : List Int) : Option (Nat × Int) → List Int
  | none => L
  | some (c, v) => L.set c v
def wkOf (mode : Int) : Option Nat → Wk
  | none => Wk.zero
  | some c => beginA mode c

theorem getDset {L : List Int} {i j : Nat} {v : Int} : (L.set i v).getD j 0 = if i = j ∧ i < L.length then v else L.getD j 0 := by
  simp only [List.getD_eq_getElem?_getD, List.getElem?_set]
  by_cases h : i = j
  · subst h
    by_cases h2 : i < L.length
    · simp [h2]
    · simp [h2]
  · simp [h]
theorem getDsetG {α : Type} {L : List α} {i j : Nat} {v d : α} (hi : i < L.length) : (L.set i v).getD j d = if i = j then v else L.getD j d := by
  simp only [List.getD_eq_getElem?_getD, List.getElem?_set]
  by_cases h : i = j
  · subst h
    simp [hi]
  · simp [h]
theorem getDset_ne {α : Type} {L : List α} {i j : Nat} {v d : α} (h : i ≠ j) : (L.set i v).getD j d = L.getD j d := by
  simp [List.getD_eq_getElem?_getD, List.getElem?_set, h]
theorem main_set {n : Nat} {L : List Int} {c : Nat} {v : Int} (hl : L.length = 8 + 4 * n) (hc : c < 8 + 2 * n) : mainOf n (L.set c v) = upd (mainOf n L) c v := by
  funext j
  unfold mainOf upd
  rw [getDset]
  by_cases h : j = c
  · subst h
    rw [if_pos hc, if_pos ⟨rfl, by omega⟩, if_pos rfl]
  · rw [if_neg (fun h2 : c = j ∧ c < L.length => h h2.1.symm), if_neg h]
theorem main_far {n : Nat} {L : List Int} {c : Nat} {v : Int} (hc : 8 + 2 * n ≤ c) : mainOf n (L.set c v) = mainOf n L := by
  funext j
  unfold mainOf
  by_cases h : j < 8 + 2 * n
  · rw [if_pos h, if_pos h, getDset, if_neg (by omega)]
  · rw [if_neg h, if_neg h]
theorem main_written {n : Nat} {L : List Int} (hl : L.length = 8 + 4 * n) {w : Option (Nat × Int)} (hc : ∀ c v, w = some (c, v) → c < 8 + 2 * n) : mainOf n (writtenL L w) = written (mainOf n L) w := by
  cases w with
  | none => rfl
  | some x => obtain ⟨c, v⟩ := x; exact main_set hl (hc c v rfl)
theorem writtenL_len (L : List Int) (w : Option (Nat × Int)) : (writtenL L w).length = L.length := by
  cases w with
  | none => rfl
  | some x => obtain ⟨c, v⟩ := x; simp [writtenL]
theorem writtenL_far {n j : Nat} {L : List Int} {w : Option (Nat × Int)} (hc : ∀ c v, w = some (c, v) → c < 8 + 2 * n) (hj : 8 + 2 * n ≤ j) : (writtenL L w).getD j 0 = L.getD j 0 := by
  cases w with
  | none => rfl
  | some x =>
    obtain ⟨c, v⟩ := x
    have := hc c v rfl
    exact getDset_ne (by omega)

/-- A lock, as its tasks stand: where one is, what it waits for, what a step does to the words. -/
structure LockM (P : Type) where
  g : Rn → Rn
  conc : P → Fr × Int
  keep : P → Int → Int
  wait : Nat → P → Option (Nat × (Int → Bool))
  post : P → Int → P
  act : Nat → P → (Nat → Int) → P × Option (Nat × Int) × Option Nat
  idle : Int → P
  start : Int → Int → P
  ok : P → Prop

/-- A frame, when its operation may be over. -/
def normF (f : Fr) (h : Int) : Fr × Int := if f.ret ≠ 0 then (Fr.zero, behindA f.op f.ret h) else ({ f with wk := Wk.zero }, h)

variable {P : Type}
/-- What a step from a place that does not wait does. -/
structure ActIs (K : LockM P) (n : Nat) (p : P) (R : P × Option (Nat × Int) × Option Nat) (s s' : Rn) : Prop where
  L : s'.L = writtenL s.L R.2.1
  f : normF s'.f (K.conc p).2 = K.conc R.1
  st : s'.f.st = 0
  wk : s'.f.wk = wkOf s.mode R.2.2
  op : s'.f.op ≠ 0
  lt : ∀ c v, R.2.1 = some (c, v) → c < 8 + 2 * n

/-- The lock's lines are what is said of it. -/
structure LockM.Good (K : LockM P) (n : Nat) (mode : Int) : Prop where
  plain : ∀ p, (K.conc p).1.st = 0 ∧ (K.conc p).1.wk = Wk.zero ∧ (K.conc p).1.ret = 0
  idle_conc : ∀ h, K.conc (K.idle h) = (Fr.zero, h)
  idle_only : ∀ p, (K.conc p).1.op = 0 → p = K.idle (K.conc p).2
  two : ∀ p, (K.conc p).2 = 2 → p = K.idle 2
  wait_op : ∀ t p c pr, K.wait t p = some (c, pr) → (K.conc p).1.op ≠ 0
  start_conc : ∀ op h, mayB op h = true → K.conc (K.start op h) = (frOp op, fromA op h)
  start_wait : ∀ t op h, mayB op h = true → K.wait t (K.start op h) = none
  wait_lt : ∀ t p c pr, K.ok p → t < n → K.wait t p = some (c, pr) → c < 8 + 2 * n
  post_hold : ∀ t p c pr v, K.wait t p = some (c, pr) → (K.conc p).2 ≠ 0 → (K.conc (K.post p v)).2 ≠ 0
  act : ∀ p t s, K.ok p → t < n → K.wait t p = none → (K.conc p).1.op ≠ 0 → s.n = (n : Int) → s.mode = mode → s.task = (t : Int) → s.f = (K.conc p).1 → s.L.length = 8 + 4 * n → ActIs K n p (K.act t p (mainOf n s.L)) s (K.g s)
  wait_step : ∀ p t c pr st s, K.ok p → t < n → K.wait t p = some (c, pr) → 0 ≤ st → st ≤ 3 → s.n = (n : Int) → s.mode = mode → s.task = (t : Int) → s.f = { (K.conc p).1 with st := st } → s.L.length = 8 + 4 * n →
    (K.g s).L = (waitA s.L n mode t st c pr).words ∧
    ((waitA s.L n mode t st c pr).done = true → normF (K.g s).f (K.conc p).2 = K.conc (K.post p (waitA s.L n mode t st c pr).acc.old) ∧ (K.g s).f.st = 0 ∧ (K.g s).f.wk = Wk.zero ∧ (K.g s).f.op ≠ 0) ∧
    ((waitA s.L n mode t st c pr).done = false → (K.g s).f = if (waitA s.L n mode t st c pr).seen then { (K.conc p).1 with a := K.keep p (waitA s.L n mode t st c pr).acc.old, st := (waitA s.L n mode t st c pr).stage } else { (K.conc p).1 with st := (waitA s.L n mode t st c pr).stage })
  wait_last : ∀ p t c pr v s, K.ok p → t < n → mode = 2 → K.wait t p = some (c, pr) → pr v = true → s.n = (n : Int) → s.mode = mode → s.task = (t : Int) → s.f = { (K.conc p).1 with a := K.keep p v, st := 4 } → s.L.length = 8 + 4 * n →
    (K.g s).L = (waitA s.L n mode t 4 c pr).words ∧ normF (K.g s).f (K.conc p).2 = K.conc (K.post p v) ∧ (K.g s).f.st = 0 ∧ (K.g s).f.wk = Wk.zero ∧ (K.g s).f.op ≠ 0

/-- How a task's frame, and what it holds, stand for its place. -/
inductive AbsF (K : LockM P) (n : Nat) (mode : Int) (t : Nat) : Fr → Int → P → Prop
  | plain (p : P) : AbsF K n mode t (K.conc p).1 (K.conc p).2 p
  | waking (p : P) (k : Wk) : mode = 2 → k.on = true → 0 ≤ k.i → k.i < n → 0 ≤ k.cell → (K.conc p).1.op ≠ 0 → AbsF K n mode t { (K.conc p).1 with wk := k } (K.conc p).2 p
  | staged (p : P) (c : Nat) (pr : Int → Bool) (st : Int) : mode = 2 → K.ok p → K.wait t p = some (c, pr) → st = 1 ∨ st = 2 ∨ st = 3 → AbsF K n mode t { (K.conc p).1 with st := st } (K.conc p).2 p
  | seen (q : P) (c : Nat) (pr : Int → Bool) (v : Int) : mode = 2 → K.ok q → K.wait t q = some (c, pr) → pr v = true → AbsF K n mode t { (K.conc q).1 with a := K.keep q v, st := 4 } (K.conc q).2 (K.post q v)
  | over (f : Fr) (h : Int) : mode = 2 → f.wk.on = true → 0 ≤ f.wk.i → f.wk.i < n → 0 ≤ f.wk.cell → f.op ≠ 0 → f.ret ≠ 0 → f.st = 0 → h ≠ 2 → AbsF K n mode t f h (K.idle (behindA f.op f.ret h))

/-- Tasks over a lock, and where each is. -/
structure MI (K : LockM P) (I : Nat → List P → (Nat → Int) → Prop) (n b : Nat) (M : Mt) (ps : List P) : Prop where
  num : M.n = (n : Int)
  fsl : M.fs.length = n
  hol : M.hold.length = n
  psl : ps.length = n
  len : M.L.length = 8 + 4 * n
  abs : ∀ i, i < n → AbsF K n M.mode i (M.fs.getD i Fr.zero) (M.hold.getD i 0) (ps.getD i (K.idle 0))
  inv : I b ps (mainOf n M.L)
  watch : ∀ i c pr, i < n → K.wait i (ps.getD i (K.idle 0)) = some (c, pr) → ((M.fs.getD i Fr.zero).st = 2 ∨ (M.fs.getD i Fr.zero).st = 3) → M.L.getD (8 + 2 * n + i) 0 = ((c : Int) + 1) % 4294967296
  woken : ∀ i c pr, i < n → K.wait i (ps.getD i (K.idle 0)) = some (c, pr) → (M.fs.getD i Fr.zero).st = 3 → pr (mainOf n M.L c) = true →
    M.L.getD (8 + 3 * n + i) 0 ≠ 0 ∨ ∃ j, j < n ∧ (M.fs.getD j Fr.zero).wk.on = true ∧ (M.fs.getD j Fr.zero).wk.cell = c ∧ (M.fs.getD j Fr.zero).wk.i ≤ i

/-- What holds of the places and the words, and stays so. -/
structure LockM.Keeps (K : LockM P) (n : Nat) (I : Nat → List P → (Nat → Int) → Prop) : Prop where
  weak : ∀ b ps m, I (b + 1) ps m → I b ps m
  ok : ∀ b ps m i, I b ps m → i < n → ps.length = n → K.ok (ps.getD i (K.idle 0))
  begins : ∀ b ps m i op h, I (b + 1) ps m → i < n → ps.length = n → ps.getD i (K.idle 0) = K.idle h → mayB op h = true → I b (ps.set i (K.start op h)) m
  acts : ∀ b ps m i, I (b + 1) ps m → i < n → ps.length = n → K.wait i (ps.getD i (K.idle 0)) = none → (K.conc (ps.getD i (K.idle 0))).1.op ≠ 0 →
    I b (ps.set i (K.act i (ps.getD i (K.idle 0)) m).1) (written m (K.act i (ps.getD i (K.idle 0)) m).2.1)
  sees : ∀ b ps m i c pr, I (b + 1) ps m → i < n → ps.length = n → K.wait i (ps.getD i (K.idle 0)) = some (c, pr) → pr (m c) = true → I b (ps.set i (K.post (ps.getD i (K.idle 0)) (m c))) m
  wakes : ∀ b ps m i j c pr, I (b + 1) ps m → i < n → j < n → i ≠ j → ps.length = n → K.wait i (ps.getD i (K.idle 0)) = none → (K.conc (ps.getD i (K.idle 0))).1.op ≠ 0 → K.wait j (ps.getD j (K.idle 0)) = some (c, pr) →
    pr (written m (K.act i (ps.getD i (K.idle 0)) m).2.1 c) = true → pr (m c) = true ∨ (K.act i (ps.getD i (K.idle 0)) m).2.2 = some c

theorem step_off {g : Rn → Rn} {s : Rn} (h : s.f.wk.on = false) (ha : s.acc = Acc.zero) (hn : s.notes = []) : stepR g s = g s := by
  unfold stepR
  rw [h]
  obtain ⟨n, mode, task, f, acc, notes, L⟩ := s
  simp only at ha hn
  subst ha hn
  rfl
theorem goes_wake {g : Rn → Rn} {M : Mt} {i : Nat} {f : Fr} {h : Int} (hw : f.wk.on = true) :
    M.goes g i f h = if f.ret ≠ 0 ∧ (wakeA M.L M.n f.wk).1.on = false then M.put i Fr.zero (behindA f.op f.ret h) (wakeA M.L M.n f.wk).2.2 else M.put i { f with wk := (wakeA M.L M.n f.wk).1 } h (wakeA M.L M.n f.wk).2.2 := by
  have hs : stepR g (M.run i f) = (M.run i f).woke := by
    unfold stepR
    rw [show (M.run i f).f.wk.on = true from hw]
    rfl
  rw [goes_of hs, hw]
  simp only [Bool.not_true, Bool.false_and, Bool.false_eq_true, if_false]
  have e1 : (M.run i f).woke.over = (f.ret != 0 && !(wakeA M.L M.n f.wk).1.on) := rfl
  rw [e1]
  by_cases h1 : f.ret = 0
  · rw [if_neg (by simp [h1]), if_neg (by simp [h1])]
    rfl
  · by_cases h2 : (wakeA M.L M.n f.wk).1.on = false
    · rw [if_pos (by simp [h1, h2]), if_pos ⟨h1, h2⟩]
      rfl
    · rw [if_neg (by simp [h1, h2]), if_neg (by simp [h2])]
      rfl
theorem goes_step {g : Rn → Rn} {M : Mt} {i : Nat} {f : Fr} {h : Int} (hw : f.wk.on = false) (hs : stuckA M.L M.n M.mode i f.st = false) :
    M.goes g i f h = if (g (M.run i f)).over = true then M.put i Fr.zero (behindA (g (M.run i f)).f.op (g (M.run i f)).f.ret h) (g (M.run i f)).L else M.put i (g (M.run i f)).f h (g (M.run i f)).L := by
  rw [goes_of (step_off (g := g) (s := M.run i f) hw rfl rfl), hw, hs]
  simp
theorem goes_stuck {g : Rn → Rn} {M : Mt} {i : Nat} {f : Fr} {h : Int} (hw : f.wk.on = false) (hs : stuckA M.L M.n M.mode i f.st = true) : M.goes g i f h = M.put i f h M.L := by
  unfold Mt.goes
  rw [hw, hs]
  simp
theorem put_same {M : Mt} {i : Nat} (h1 : i < M.fs.length) (h2 : i < M.hold.length) : M.put i (M.fs.getD i Fr.zero) (M.hold.getD i 0) M.L = M := by
  unfold Mt.put
  have e1 : M.fs.set i (M.fs.getD i Fr.zero) = M.fs := by simp [List.getD, h1]
  have e2 : M.hold.set i (M.hold.getD i 0) = M.hold := by simp [List.getD, h2]
  rw [e1, e2]

theorem cell_row {n : Nat} {row i : Int} (h1 : 1 ≤ n) (h2 : n ≤ 64) (h0 : 0 ≤ i) (hi : i < n) : cellP n row i = 8 + row * n + i := by
  unfold cellP
  rw [if_pos (by omega)]
theorem doA_at {L : List Int} {kind c x y : Int} (hc : 0 ≤ c ∧ c < L.length) :
    doA L ⟨kind, c, x, y, 0⟩ = (if kind = 1 then (⟨kind, c, x, y, L.getD c.toNat 0⟩, true, L) else if kind = 3 then (⟨kind, c, x, y, L.getD c.toNat 0⟩, true, L.set c.toNat ((L.getD c.toNat 0 + x) % 4294967296))
      else if kind = 5 then (⟨kind, c, x, y, L.getD c.toNat 0⟩, true, if L.getD c.toNat 0 = x then L.set c.toNat y else L)
      else if kind = 2 ∨ kind = 4 then (⟨kind, c, x, y, L.getD c.toNat 0⟩, true, L.set c.toNat x) else (Acc.zero, false, L)) := by
  unfold doA
  rw [if_pos hc]

/-- A wake-up's step. -/
theorem wake_is {n : Nat} {L : List Int} {k : Wk} (h1 : 1 ≤ n) (h2 : n ≤ 64) (hl : L.length = 8 + 4 * n) (hk : k.on = true) (h0 : 0 ≤ k.i) (hi : k.i < n) :
    wakeA L n k = if k.hit then (nextA n k, (giveA L n k.i).1, L.set (8 + 3 * n + k.i.toNat) 1)
      else (if L.getD (8 + 2 * n + k.i.toNat) 0 = (k.cell + 1) % 4294967296 then ⟨true, k.cell, k.i, true⟩ else nextA n k, (doA L ⟨1, cellP n 2 k.i, 0, 0, 0⟩).1, L) := by
  have e2 : (cellP n 2 k.i).toNat = 8 + 2 * n + k.i.toNat := by rw [cell_row h1 h2 h0 hi]; omega
  have e3 : (cellP n 3 k.i).toNat = 8 + 3 * n + k.i.toNat := by rw [cell_row h1 h2 h0 hi]; omega
  have b2 : 0 ≤ cellP n 2 k.i ∧ cellP n 2 k.i < L.length := by rw [cell_row h1 h2 h0 hi]; omega
  have b3 : 0 ≤ cellP n 3 k.i ∧ cellP n 3 k.i < L.length := by rw [cell_row h1 h2 h0 hi]; omega
  unfold wakeA
  rw [if_pos hk]
  have g3 := doA_at (L := L) (kind := 2) (c := cellP n 3 k.i) (x := 1) (y := 0) b3
  have g2 := doA_at (L := L) (kind := 1) (c := cellP n 2 k.i) (x := 0) (y := 0) b2
  simp at g3 g2
  rw [e3] at g3
  rw [e2] at g2
  have gg : giveA L n k.i = doA L ⟨2, cellP n 3 k.i, 1, 0, 0⟩ := rfl
  rw [gg, g3, g2]
  simp [hk]

/-- What is left of a wake-up. -/
def leftF (n : Nat) (f : Fr) : Nat := if f.wk.on then 2 * (n - f.wk.i.toNat) - (if f.wk.hit then 1 else 0) else 0
theorem left_next {n : Nat} {k : Wk} {f : Fr} (hk : k.on = true) (h0 : 0 ≤ k.i) (hi : k.i < n) : leftF n { f with wk := nextA n k } + 1 ≤ leftF n { f with wk := k } := by
  unfold leftF nextA
  simp only [hk, if_true]
  split <;> split <;> simp [Wk.zero] at * <;> (try split) <;> omega

end Go.Proofs.Ytlndihdlodempaa.Z
