/- 6 texts of this claim, joined: what each shows stands at its own head. -/
import Derived.Test.YtlndihdlodempaaZM02FqSteps
import Derived.Test.YtlndihdlodempaaZM03FqSteps
import Derived.Test.YtlndihdlodempaaZBase
import Derived.Deep.MidRow
/- Package mutex: what a line keeps. Written by genmxfine.py. -/
set_option linter.unusedVariables false
set_option linter.unusedSimpArgs false
namespace Go.Proofs.Ytlndihdlodempaa.Z
open Go.RowKit

theorem keep_fine {s : Rn} (hw : Words s.L) {n mode task st c : Int} {p : Int → Bool} (h2 : 0 ≤ s.f.a ∧ s.f.a < 4294967296) : 0 ≤ (s.keep (waitA s.L n mode task st c p)).f.a ∧ (s.keep (waitA s.L n mode task st c p)).f.a < 4294967296 := by
  unfold Rn.keep
  split
  · rcases stageA_is mode st with e | e | e | e | e
    · rw [waitA0 e]; exact doA_old s.L hw _
    · rw [waitA1 e]; exact doA_old s.L hw _
    · rw [waitA2 e]; exact doA_old s.L hw _
    · rename_i h; rw [waitA3 e] at h; cases h
    · rw [waitA4 e]; exact doA_old s.L hw _
  · exact h2
theorem keep_rest (s : Rn) (R : WaitR) : (s.keep R).n = s.n ∧ (s.keep R).f.b = s.f.b ∧ (s.keep R).notes = s.notes := by
  unfold Rn.keep
  split <;> exact ⟨rfl, rfl, rfl⟩

/-- Whose run it is stays; what is kept is words; so many notes more at most. -/
def FK (k : Nat) (s s' : Rn) : Prop := (s'.n = s.n ∧ s'.mode = s.mode ∧ s'.task = s.task) ∧ ((0 ≤ s'.f.a ∧ s'.f.a < 4294967296) ∧ (0 ≤ s'.f.b ∧ s'.f.b < 4294967296)) ∧ s'.notes.length ≤ s.notes.length + k
section
variable {k : Nat} {s s' : Rn}
theorem FK.refl (h : (0 ≤ s.f.a ∧ s.f.a < 4294967296) ∧ (0 ≤ s.f.b ∧ s.f.b < 4294967296)) : FK 0 s s := ⟨⟨rfl, rfl, rfl⟩, h, Nat.le_refl _⟩
theorem FK.goto (h : FK k s s') (l : Int) : FK k s (s'.goto l) := h
theorem FK.fin (h : FK k s s') (b : Bool) : FK k s (s'.fin b) := h
theorem FK.wake (h : FK k s s') (c : Int) : FK k s (s'.wake c) := h
theorem FK.did (h : FK k s s') (R : Acc × Bool × List Int) : FK k s (s'.did R) := h
theorem FK.waited (h : FK k s s') (R : WaitR) : FK k s (s'.waited R) := h
theorem FK.setA (h : FK k s s') {v : Int} (hv : 0 ≤ v ∧ v < 4294967296) : FK k s (s'.setA v) := ⟨h.1, ⟨hv, h.2.1.2⟩, h.2.2⟩
theorem FK.setB (h : FK k s s') {v : Int} (hv : 0 ≤ v ∧ v < 4294967296) : FK k s (s'.setB v) := ⟨h.1, ⟨h.2.1.1, hv⟩, h.2.2⟩
theorem FK.note (h : FK k s s') (x y : Int) : FK (k + 1) s (s'.note x y) := ⟨h.1, h.2.1, by have := h.2.2; simp [Rn.note]; omega⟩
theorem FK.more (h : FK k s s') {j : Nat} (hj : k ≤ j) : FK j s s' := ⟨h.1, h.2.1, Nat.le_trans h.2.2 (Nat.add_le_add_left hj _)⟩
theorem FK.noted (h : FK k s s') (l : List Int) : FK (k + l.length) s (s'.noted l) := by
  induction l generalizing s' k with
  | nil => exact h
  | cons x l ih => exact (ih (h.note x 0)).more (by simp; omega)
theorem FK.keep (h : FK k s s') (hw : Words s'.L) (n mode task st c : Int) (p : Int → Bool) : FK k s (s'.keep (waitA s'.L n mode task st c p)) := by
  have h1 := keep_fine (s := s') hw (n := n) (mode := mode) (task := task) (st := st) (c := c) (p := p) h.2.1.1
  have h2 := keep_rest s' (waitA s'.L n mode task st c p)
  unfold Rn.keep at h1 h2 ⊢
  split
  · rename_i hs
    rw [if_pos hs] at h1
    exact h.setA h1
  · exact h
end
variable {s : Rn}
theorem mxEnter_fk (tail cls : Int) (hw : Words s.L) (h : (0 ≤ s.f.a ∧ s.f.a < 4294967296) ∧ (0 ≤ s.f.b ∧ s.f.b < 4294967296)) : FK 1 s (mxEnter tail cls s).2 := by
  have R := FK.refl h
  have hold := fun b => doA_old s.L hw b
  unfold mxEnter
  split
  · exact ((R.did _).goto _).more (by decide)
  split
  · exact ((R.did _).goto _).more (by decide)
  split
  · unfold mxE2
    dsimp only
    split
    · exact ((R.did _).setA (hold _)).note _ _
    · exact (((R.did _).setA (hold _)).note _ _).goto _
  split
  · exact (((R.did _).wake _).goto _).more (by decide)
  split
  · exact (R.waited _).more (by decide)
  · exact R.more (by decide)
theorem mxTry_fk (tail : Int) (h : (0 ≤ s.f.a ∧ s.f.a < 4294967296) ∧ (0 ≤ s.f.b ∧ s.f.b < 4294967296)) : FK 0 s (mxTry tail s).2.2 := by
  have R := FK.refl h
  unfold mxTry
  split
  · exact (R.did _).goto _
  split
  · exact R.did _
  · exact R
theorem mxGive_fk (tail q : Int) (nl : List Int) (hw : Words s.L) (h : (0 ≤ s.f.a ∧ s.f.a < 4294967296) ∧ (0 ≤ s.f.b ∧ s.f.b < 4294967296)) : FK nl.length s (mxGive tail q nl s).2 := by
  have R := FK.refl h
  have hold := fun b => doA_old s.L hw b
  unfold mxGive
  split
  · unfold mxG0
    dsimp only
    split
    · exact (((R.did _).setA (hold _)).goto _).more (Nat.zero_le _)
    · exact (((R.did _).setA (hold _)).goto _).more (Nat.zero_le _)
  split
  · unfold mxG1
    split
    · exact ((R.did _).noted nl).more (by omega)
    · exact ((R.did _).goto _).more (Nat.zero_le _)
  split
  · unfold mxG2
    dsimp only
    split
    · exact (((R.keep hw _ _ _ _ _ _).waited _).goto _).more (Nat.zero_le _)
    · exact ((R.keep hw _ _ _ _ _ _).waited _).more (Nat.zero_le _)
  split
  · exact (((R.did _).noted nl).wake _).more (by omega)
  · exact R.more (Nat.zero_le _)
end Go.Proofs.Ytlndihdlodempaa.Z

/- What may be begun, and what one holds: no lock in sight. -/
set_option linter.unusedVariables false
namespace Go.Proofs.Ytlndihdlodempaa.Z
/-- May this be begun by one that holds this? -/
def mayB (op hold : Int) : Bool := if hold = 0 then op == 1 || op == 3 || op == 5 || op == 6 else if hold = 1 then op == 2 || op == 7 else op == 4 || op == 8
def fromA (op hold : Int) : Int := if op = 2 ∨ op = 4 then 0 else if op = 8 then 1 else hold
def behindA (op ret hold : Int) : Int := if ret ≠ 2 then hold else if op = 1 ∨ op = 5 then 1 else if op = 3 ∨ op = 6 ∨ op = 7 then 2 else hold
end Go.Proofs.Ytlndihdlodempaa.Z

/- Tasks over a lock: what a pick does; and how they lie in a world. No lock in sight. -/
set_option linter.unusedVariables false
set_option linter.unusedSimpArgs false
namespace Go.Proofs.Ytlndihdlodempaa.Z
open Go.RowKit

/-- Tasks over a lock: how many, in which mode; the words; how far each is; what each holds. -/
structure Mt where
  n : Int
  mode : Int
  L : List Int
  fs : List Fr
  hold : List Int

/-- An operation that begins. -/
def frOp (op : Int) : Fr := ⟨op, 0, 0, 0, 0, Wk.zero, 0⟩
def Mt.run (M : Mt) (i : Nat) (f : Fr) : Rn := ⟨M.n, M.mode, i, f, Acc.zero, [], M.L⟩
/-- A task's frame, and what it holds. -/
def Mt.put (M : Mt) (i : Nat) (f : Fr) (h : Int) (L : List Int) : Mt := { M with L := L, fs := M.fs.set i f, hold := M.hold.set i h }
def Mt.goes (g : Rn → Rn) (M : Mt) (i : Nat) (f : Fr) (h : Int) : Mt :=
  if (!f.wk.on && stuckA M.L M.n M.mode i f.st) = true then M.put i f h M.L
  else if (stepR g (M.run i f)).over = true then M.put i Fr.zero (behindA (stepR g (M.run i f)).f.op (stepR g (M.run i f)).f.ret h) (stepR g (M.run i f)).L
  else M.put i (stepR g (M.run i f)).f h (stepR g (M.run i f)).L
/-- A pick. -/
def Mt.play (g : Rn → Rn) (M : Mt) (i : Nat) (op : Int) : Mt :=
  if (M.fs.getD i Fr.zero).op = 0 then if mayB op (M.hold.getD i 0) = true then M.goes g i (frOp op) (fromA op (M.hold.getD i 0)) else M
  else M.goes g i (M.fs.getD i Fr.zero) (M.hold.getD i 0)
/-- How many hold this. -/
def Mt.many (M : Mt) (what : Int) : Nat := M.hold.countP (· == what)

theorem stepR_fresh (g : Rn → Rn) (s : Rn) : stepR g s = stepR g s.fresh := rfl
theorem step_run (g : Rn → Rn) (M : Mt) (i : Nat) (f : Fr) (acc : Acc) (notes : List Nt) {s2 : Rn} (h : stepR g ⟨M.n, M.mode, i, f, acc, notes, M.L⟩ = s2) : stepR g (M.run i f) = s2 := by
  rw [← h, stepR_fresh g (M.run i f), stepR_fresh g ⟨M.n, M.mode, i, f, acc, notes, M.L⟩]
  rfl
theorem goes_of {g : Rn → Rn} {M : Mt} {i : Nat} {f : Fr} {h : Int} {s2 : Rn} (hs : stepR g (M.run i f) = s2) :
    M.goes g i f h = if (!f.wk.on && stuckA M.L M.n M.mode i f.st) = true then M.put i f h M.L else if s2.over = true then M.put i Fr.zero (behindA s2.f.op s2.f.ret h) s2.L else M.put i s2.f h s2.L := by
  subst hs
  rfl

/-- A block's cells, as a range. -/
theorem rangeAt_list {w : World} {b : Nat} {cs : List Value} (h : ∀ i, w.cell? ⟨b, i, none⟩ = (cs.toArray)[i]?) : w.rangeAt b 0 cs := fun j v hv => by
  rw [Nat.zero_add, h]
  simpa using hv

/-- A task as it lies in a world. -/
structure Tk where
  r : Nat
  s : Rn
  nv : Value
def Tk.res (m : Nat) (t : Tk) : List Res := [.blk t.r (rcells m t.s t.nv), .own 98 4 t.nv t.s.notes.length (nts t.s.notes)]
def Tk.ptr (t : Tk) : Value := .pointer (some ⟨t.r, 0, none⟩)
def tksRes (m : Nat) (ts : List Tk) : List Res := ts.flatMap (Tk.res m)

structure Fit (M : Mt) (ts : List Tk) : Prop where
  len : ts.length = M.fs.length
  hlen : M.hold.length = M.fs.length
  each : ∀ (i : Nat) (t : Tk), ts[i]? = some t → M.fs[i]? = some t.s.f ∧ t.s.n = M.n ∧ t.s.mode = M.mode ∧ t.s.task = i
  ok : ∀ f, f ∈ M.fs → FrOk f
  n64 : I64 M.n
  few : M.fs.length ≤ 64

def MatchHas (S0 : List Nat) (w0 : World) (m a x hb : Nat) (rs : List Res) (M : Mt) (w : World) : Prop :=
  ∃ (lv : Value) (ts : List Tk), Fit M ts ∧ Has S0 w0 w (.mem m a M.L :: .blk x #[lv, .slice (some ⟨hb, 0, none⟩) M.fs.length M.fs.length] :: .own 36 1 lv M.fs.length (ts.map Tk.ptr) :: .blk hb (i64s M.hold).toArray :: (tksRes m ts ++ rs))

/-- A task's run in front: the match's block and what is held lie behind it. -/
def Opn (S0 : List Nat) (w0 : World) (m a x hb r : Nat) (lv : Value) (k : Nat) (hold : List Int) (rest : List Res) (s : Rn) (w : World) : Prop :=
  RunHas S0 w0 m a r (.blk x #[lv, .slice (some ⟨hb, 0, none⟩) k k] :: .blk hb (i64s hold).toArray :: rest) s w

theorem perm_opn {α : Type} (a b c d e f : α) (P Q : List α) : (a :: b :: c :: d :: (P ++ e :: f :: Q)).Perm (a :: e :: f :: b :: d :: c :: (P ++ Q)) := by
  have h1 : (P ++ e :: f :: Q).Perm (e :: f :: (P ++ Q)) := (List.perm_middle).trans (List.Perm.cons _ List.perm_middle)
  have h2 : (a :: b :: c :: d :: e :: f :: (P ++ Q)).Perm (a :: e :: f :: b :: d :: c :: (P ++ Q)) :=
    (((((perm_front (a :: b :: c :: d :: e :: f :: (P ++ Q)) 2 (by simp)).trans (perm_front (c :: a :: b :: d :: e :: f :: (P ++ Q)) 3 (by simp))).trans (perm_front (d :: c :: a :: b :: e :: f :: (P ++ Q)) 3 (by simp))).trans
      (perm_front (b :: d :: c :: a :: e :: f :: (P ++ Q)) 5 (by simp))).trans (perm_front (f :: b :: d :: c :: a :: e :: (P ++ Q)) 5 (by simp))).trans (perm_front (e :: f :: b :: d :: c :: a :: (P ++ Q)) 5 (by simp))
  exact ((((h1.cons d).cons c).cons b).cons a).trans h2

theorem split_at {α : Type} : ∀ (l : List α) (i : Nat), i < l.length → ∃ p t q, l = p ++ t :: q ∧ p.length = i
  | [], i, h => by simp at h
  | x :: l, 0, _ => ⟨[], x, l, rfl, rfl⟩
  | x :: l, i + 1, h => by
    obtain ⟨p, t, q, rfl, rfl⟩ := split_at l i (by simpa using h)
    exact ⟨x :: p, t, q, rfl, rfl⟩

theorem ptrs_at {w : World} {e n i : Nat} {v : Value} {ts : List Tk} (h : w.ownsRow 0 e 1 v n (ts.map Tk.ptr)) {t : Tk} (hi : ts[i]? = some t) :
    ∃ b off cap, v = .slice (some ⟨b, off, none⟩) n cap ∧ b < w.heap.size ∧ w.cell? ⟨b, off + i, none⟩ = some (.pointer (some ⟨t.r, 0, none⟩)) := by
  obtain ⟨p, cap, rfl⟩ := owns_slice h
  have hr := Rd.own h
  have hl : i < ts.length := by
    rcases Nat.lt_or_ge i ts.length with h1 | h1
    · exact h1
    · rw [List.getElem?_eq_none h1] at hi; cases hi
  have hn : 0 < n := by have := hr.1; rw [List.length_map] at this; omega
  obtain ⟨b, off, rfl, hb, hc⟩ := hr.lit hn (by omega)
  exact ⟨b, off, cap, rfl, hb, hc i _ (by rw [List.getElem?_map, hi]; rfl)⟩

/-- A task's run is taken in front, and laid back. -/
theorem MatchHas.opened {S0 : List Nat} {w0 w : World} {m a x hb : Nat} {rs : List Res} {M : Mt} (H : MatchHas S0 w0 m a x hb rs M w) {i : Nat} (hi : i < M.fs.length) :
    ∃ (r b off cap : Nat) (rest : List Res) (s : Rn), s.f = M.fs.getD i Fr.zero ∧ s.n = M.n ∧ s.mode = M.mode ∧ s.task = i ∧ s.L = M.L ∧
      Opn S0 w0 m a x hb r (.slice (some ⟨b, off, none⟩) M.fs.length cap) M.fs.length M.hold rest s w ∧
      (∀ W s' hold', Opn S0 w0 m a x hb r (.slice (some ⟨b, off, none⟩) M.fs.length cap) M.fs.length hold' rest s' W → b < W.heap.size ∧ W.cell? ⟨b, off + i, none⟩ = some (.pointer (some ⟨r, 0, none⟩))) ∧
      (∀ W s' h', Opn S0 w0 m a x hb r (.slice (some ⟨b, off, none⟩) M.fs.length cap) M.fs.length (M.hold.set i h') rest s' W → FrOk s'.f → s'.n = M.n → s'.mode = M.mode → s'.task = i → MatchHas S0 w0 m a x hb rs (M.put i s'.f h' s'.L) W) := by
  obtain ⟨lv, ts, F, H⟩ := H
  obtain ⟨p, t, q, rfl, hp⟩ := split_at ts i (by rw [F.len]; exact hi)
  have hti : (p ++ t :: q)[i]? = some t := by rw [List.getElem?_append_right (by omega), hp, Nat.sub_self]; rfl
  obtain ⟨b, off, cap, rfl, hbl, hc⟩ := ptrs_at (H.all (.own 36 1 lv M.fs.length ((p ++ t :: q).map Tk.ptr)) (by simp)) hti
  obtain ⟨e1, e2, e3, e4⟩ := F.each i t hti
  obtain ⟨r, s, nv⟩ := t
  have hsplit : ∀ (t' : Tk), tksRes m (p ++ t' :: q) ++ rs = tksRes m p ++ .blk t'.r (rcells m t'.s t'.nv) :: .own 98 4 t'.nv t'.s.notes.length (nts t'.s.notes) :: (tksRes m q ++ rs) := by
    intro t'
    simp [tksRes, Tk.res]
  rw [hsplit] at H
  have H1 := H.perm (perm_opn _ _ _ _ _ _ _ _)
  refine ⟨r, b, off, cap, .own 36 1 (.slice (some ⟨b, off, none⟩) M.fs.length cap) M.fs.length ((p ++ (⟨r, s, nv⟩ : Tk) :: q).map Tk.ptr) :: (tksRes m p ++ (tksRes m q ++ rs)), { s with L := M.L }, ?_, e2, e3, e4, rfl, ⟨nv, H1⟩, ?_, ?_⟩
  · simp only [List.getD, e1]; rfl
  · rintro W s' hold' ⟨nv', H2⟩
    have hown := H2.all (.own 36 1 (.slice (some ⟨b, off, none⟩) M.fs.length cap) M.fs.length ((p ++ (⟨r, s, nv⟩ : Tk) :: q).map Tk.ptr)) (by simp)
    obtain ⟨b', off', cap', hv, hb', hc'⟩ := ptrs_at hown hti
    simp only [Value.slice.injEq, Option.some.injEq, Addr.mk.injEq] at hv
    obtain ⟨⟨rfl, rfl, _⟩, _, rfl⟩ := hv
    exact ⟨hb', hc'⟩
  · rintro W s' h' ⟨nv', H2⟩ hok hn hm ht
    refine ⟨.slice (some ⟨b, off, none⟩) M.fs.length cap, p ++ (⟨r, s', nv'⟩ : Tk) :: q, ⟨?_, ?_, ?_, ?_, F.n64, ?_⟩, ?_⟩
    · have := F.len
      simp only [List.length_append, List.length_cons, Mt.put, List.length_set] at this ⊢
      exact this
    · simp only [Mt.put, List.length_set]; exact F.hlen
    · intro j t' hj
      by_cases hji : j = i
      · subst hji
        rw [List.getElem?_append_right (by omega), hp, Nat.sub_self] at hj
        simp only [List.getElem?_cons_zero, Option.some.injEq] at hj
        subst hj
        refine ⟨?_, hn, hm, ht⟩
        simp only [Mt.put]
        rw [List.getElem?_set_self hi]
      · have hj' : (p ++ (⟨r, s, nv⟩ : Tk) :: q)[j]? = some t' := by
          rcases Nat.lt_or_ge j p.length with h1 | h1
          · rw [List.getElem?_append_left h1] at hj ⊢
            exact hj
          · rw [List.getElem?_append_right h1] at hj ⊢
            obtain ⟨d, hd⟩ : ∃ d, j - p.length = d + 1 := ⟨j - p.length - 1, by omega⟩
            rw [hd] at hj ⊢
            exact hj
        have := F.each j t' hj'
        refine ⟨?_, this.2⟩
        simp only [Mt.put]
        rw [List.getElem?_set_ne (fun e => hji e.symm)]
        exact this.1
    · intro f hf
      rcases List.mem_or_eq_of_mem_set hf with h1 | rfl
      · exact F.ok f h1
      · exact hok
    · simp only [Mt.put, List.length_set]; exact F.few
    · have H3 := H2.perm (perm_opn (.mem m a s'.L) (.blk x #[.slice (some ⟨b, off, none⟩) M.fs.length cap, .slice (some ⟨hb, 0, none⟩) M.fs.length M.fs.length]) (.own 36 1 (.slice (some ⟨b, off, none⟩) M.fs.length cap) M.fs.length ((p ++ (⟨r, s, nv⟩ : Tk) :: q).map Tk.ptr)) (.blk hb (i64s (M.hold.set i h')).toArray) (.blk r (rcells m s' nv')) (.own 98 4 nv' s'.notes.length (nts s'.notes)) (tksRes m p) (tksRes m q ++ rs)).symm
      rw [hsplit ⟨r, s', nv'⟩]
      simp only [Mt.put, List.length_set]
      have he : (p ++ (⟨r, s', nv'⟩ : Tk) :: q).map Tk.ptr = (p ++ (⟨r, s, nv⟩ : Tk) :: q).map Tk.ptr := by simp [Tk.ptr]
      rw [he]
      exact H3

theorem MatchHas.fit {S0 : List Nat} {w0 w : World} {m a x hb : Nat} {rs : List Res} {M : Mt} (H : MatchHas S0 w0 m a x hb rs M w) : M.hold.length = M.fs.length ∧ (∀ f, f ∈ M.fs → FrOk f) ∧ I64 M.n ∧ M.fs.length ≤ 64 := by
  obtain ⟨lv, ts, F, H⟩ := H
  exact ⟨F.hlen, F.ok, F.n64, F.few⟩
theorem MatchHas.words {S0 : List Nat} {w0 w : World} {m a x hb : Nat} {rs : List Res} {M : Mt} (H : MatchHas S0 w0 m a x hb rs M w) : Words M.L := by
  obtain ⟨lv, ts, F, H⟩ := H
  exact H.mem.words
theorem MatchHas.touch {S0 : List Nat} {w0 w : World} {m a x hb : Nat} {rs : List Res} {M : Mt} (H : MatchHas S0 w0 m a x hb rs M w) : Touch S0 w0 w := by
  obtain ⟨lv, ts, F, H⟩ := H
  exact H.touch
theorem MatchHas.grow {w' : World} {S0 : List Nat} {w0 w : World} {m a x hb : Nat} {rs : List Res} {M : Mt} (H : MatchHas S0 w0 m a x hb rs M w) (t : Touch [] w w') : MatchHas S0 w0 m a x hb rs M w' := by
  obtain ⟨lv, ts, F, H⟩ := H
  exact ⟨lv, ts, F, H.grow t⟩
theorem MatchHas.drew {S0 : List Nat} {w0 w : World} {m a x hb : Nat} {rs : List Res} {M : Mt} (H : MatchHas S0 w0 m a x hb rs M w) : MatchHas S0 w0 m a x hb rs M w.drew := by
  obtain ⟨lv, ts, F, H⟩ := H
  exact ⟨lv, ts, F, H.drew⟩
/-- What is held, as a walk reads it. -/
theorem MatchHas.held {S0 : List Nat} {w0 w : World} {m a x hb : Nat} {rs : List Res} {M : Mt} (H : MatchHas S0 w0 m a x hb rs M w) :
    x < w.heap.size ∧ w.cell? ⟨x, 1, none⟩ = some (.slice (some ⟨hb, 0, none⟩) M.fs.length M.fs.length) ∧ hb < w.heap.size ∧ ∀ i, i < M.fs.length → w.cell? ⟨hb, i, none⟩ = some (.int .i64 (M.hold.getD i 0)) := by
  obtain ⟨lv, ts, F, H⟩ := H
  have h1 := H.at_ 1 rfl
  have h3 := H.at_ 3 rfl
  refine ⟨h1.lt, h1.cell 1, h3.lt, fun i hi => ?_⟩
  rw [h3.cell]
  have : i < M.hold.length := by rw [F.hlen]; exact hi
  simp [i64s, List.getD, this]
/-- A block among the rest. -/
theorem MatchHas.behind {S0 : List Nat} {w0 w : World} {m a x hb : Nat} {rs : List Res} {M : Mt} (H : MatchHas S0 w0 m a x hb rs M w) (j : Nat) {b : Nat} {cs : Array Value} (hj : rs[j]? = some (.blk b cs)) : Blk w b cs := by
  obtain ⟨lv, ts, F, H⟩ := H
  have hm := List.mem_of_getElem? hj
  exact H.all _ (by simp only [List.mem_cons, List.mem_append]; exact Or.inr (Or.inr (Or.inr (Or.inr (Or.inr hm)))))
/-- A box more among the rest. -/
theorem MatchHas.box {S0 : List Nat} {w0 w : World} {m a x hb : Nat} {rs : List Res} {M : Mt} (H : MatchHas S0 w0 m a x hb rs M w) {b : Nat} (hb' : w.heap.size = b) (cs : Array Value) (T : TypeId) : MatchHas S0 w0 m a x hb (.blk b cs :: rs) M (w.alloc (.cells cs T)) := by
  obtain ⟨lv, ts, F, H⟩ := H
  refine ⟨lv, ts, F, ?_⟩
  have H1 := (H.new hb' cs T)
  refine H1.perm ?_
  refine List.Perm.trans ?_ (List.Perm.append_left [_, _, _, _] (List.perm_middle (l₁ := tksRes m ts) (l₂ := rs) (a := .blk b cs)).symm)
  exact (perm_past4 _ _ _ _ [.blk b cs] (tksRes m ts ++ rs))

end Go.Proofs.Ytlndihdlodempaa.Z

/- Tasks over a lock: how they begin; operations that are let go on alone; rounds. No lock in sight. -/
set_option linter.unusedVariables false
set_option linter.unusedSimpArgs false
namespace Go.Proofs.Ytlndihdlodempaa.Z
open Go.RowKit

def Mt.start (k : Nat) (mode : Int) (Z : List Int) : Mt := ⟨k, mode, Z, List.replicate k Fr.zero, List.replicate k 0⟩

/-- A task is let go on alone. -/
def whileA (g : Rn → Rn) (t : Nat) : Nat → Mt → Mt
  | 0, M => M
  | n + 1, M => if (M.fs.getD t Fr.zero).op = 0 then M else whileA g t n (M.play g t 0)
def wholeA (g : Rn → Rn) (M : Mt) (t : Nat) (op : Int) : Mt := whileA g t 200 (M.play g t op)
def readsA (g : Rn → Rn) (op : Int) (M : Mt) : Nat → Mt
  | 0 => M
  | j + 1 => wholeA g (readsA g op M j) j op
def givesA (g : Rn → Rn) (k : Nat) (M : Mt) : Nat → Mt
  | 0 => M
  | j + 1 => wholeA g (wholeA g (givesA g k M j) (k - 1) 6) j 2
/-- One after the other reads; a writer is refused until all have given back. -/
structure TogetherOk (g : Rn → Rn) (k : Nat) (op : Int) (M : Mt) : Prop where
  reads : ∀ j, j < k - 1 → (readsA g op M (j + 1)).many 1 = j + 1
  tried : ∀ j, j < k - 1 → (wholeA g (givesA g k (readsA g op M (k - 1)) j) (k - 1) 6).hold.getD (k - 1) 0 = 0
  last : (wholeA g (givesA g k (readsA g op M (k - 1)) (k - 1)) (k - 1) 6).hold.getD (k - 1) 0 = 2 ∧ (wholeA g (givesA g k (readsA g op M (k - 1)) (k - 1)) (k - 1) 6).many 1 = 0

def playsA (g : Rn → Rn) (k : Nat) (M : Mt) (l : List (Int × Int)) : Mt := l.foldl (fun M x => M.play g ((x.1 % (k : Int)).toNat) (x.2 % 9)) M
def backA (g : Rn → Rn) (M : Mt) : Nat → Mt
  | 0 => M
  | t + 1 => (backA g M t).play g t (2 * (backA g M t).hold.getD t 0)
def roundsA (g : Rn → Rn) (k : Nat) (M : Mt) : Nat → Mt
  | 0 => M
  | r + 1 => backA g (roundsA g k M r) k
/-- One writes, or many read; let go on, all come to rest. -/
structure ExcludesOk (g : Rn → Rn) (k : Nat) (M : Mt) (l : List (Int × Int)) : Prop where
  safe : ∀ j, j ≤ l.length → ¬ ((playsA g k M (l.take j)).many 2 > 1 ∨ (playsA g k M (l.take j)).many 2 = 1 ∧ (playsA g k M (l.take j)).many 1 > 0)
  rest : ∀ t, t < k → ((roundsA g k (playsA g k M l) (2 * k * (8 * k + 40))).fs.getD t Fr.zero).op = 0 ∧ (roundsA g k (playsA g k M l) (2 * k * (8 * k + 40))).hold.getD t 0 = 0

theorem goes_same (g : Rn → Rn) (M : Mt) (i : Nat) (f : Fr) (h : Int) : (M.goes g i f h).n = M.n ∧ (M.goes g i f h).mode = M.mode ∧ (M.goes g i f h).fs.length = M.fs.length ∧ (M.goes g i f h).hold.length = M.hold.length := by
  unfold Mt.goes Mt.put
  split
  · simp
  · split <;> simp
theorem play_same (g : Rn → Rn) (M : Mt) (i : Nat) (op : Int) : (M.play g i op).n = M.n ∧ (M.play g i op).mode = M.mode ∧ (M.play g i op).fs.length = M.fs.length ∧ (M.play g i op).hold.length = M.hold.length := by
  unfold Mt.play
  split
  · split
    · exact goes_same _ _ _ _ _
    · simp
  · exact goes_same _ _ _ _ _
theorem while_len (g : Rn → Rn) (t n : Nat) : ∀ M : Mt, (whileA g t n M).fs.length = M.fs.length := by
  induction n with
  | zero => intro M; rfl
  | succ n ih =>
    intro M
    unfold whileA
    split
    · rfl
    · rw [ih]; exact (play_same _ _ _ _).2.2.1
theorem whole_len (g : Rn → Rn) (M : Mt) (t : Nat) (op : Int) : (wholeA g M t op).fs.length = M.fs.length := (while_len _ _ _ _).trans (play_same _ _ _ _).2.2.1
theorem reads_len (g : Rn → Rn) (op : Int) (M : Mt) (j : Nat) : (readsA g op M j).fs.length = M.fs.length := by
  induction j with
  | zero => rfl
  | succ j ih => exact (whole_len _ _ _ _).trans ih
theorem gives_len (g : Rn → Rn) (k : Nat) (M : Mt) (j : Nat) : (givesA g k M j).fs.length = M.fs.length := by
  induction j with
  | zero => rfl
  | succ j ih => exact (whole_len _ _ _ _).trans ((whole_len _ _ _ _).trans ih)
theorem plays_len (g : Rn → Rn) (k : Nat) (l : List (Int × Int)) : ∀ M : Mt, (playsA g k M l).fs.length = M.fs.length := by
  induction l with
  | nil => intro M; rfl
  | cons x l ih => intro M; exact (ih _).trans (play_same _ _ _ _).2.2.1
theorem back_len (g : Rn → Rn) (M : Mt) (t : Nat) : (backA g M t).fs.length = M.fs.length := by
  induction t with
  | zero => rfl
  | succ t ih => exact (play_same _ _ _ _).2.2.1.trans ih
theorem rounds_len (g : Rn → Rn) (k : Nat) (M : Mt) (r : Nat) : (roundsA g k M r).fs.length = M.fs.length := by
  induction r with
  | zero => rfl
  | succ r ih => exact (back_len _ _ _).trans ih
theorem plays_snoc (g : Rn → Rn) (k : Nat) (M : Mt) (l : List (Int × Int)) (j : Nat) (h : j < l.length) : playsA g k M (l.take (j + 1)) = (playsA g k M (l.take j)).play g (((l.getD j (0, 0)).1 % (k : Int)).toNat) ((l.getD j (0, 0)).2 % 9) := by
  rw [List.take_succ_eq_append_getElem h]
  unfold playsA
  rw [List.foldl_append]
  simp [List.getD, h]
theorem count_snoc (l : List Int) (what : Int) (j : Nat) (h : j < l.length) : (l.take (j + 1)).countP (· == what) = (l.take j).countP (· == what) + if l.getD j 0 = what then 1 else 0 := by
  rw [List.take_succ_eq_append_getElem h, List.countP_append]
  simp [List.getD, h, List.countP_cons]

/-- What a walk reads of a task: how far it is. -/
theorem MatchHas.look {S0 : List Nat} {w0 w : World} {m a x hb : Nat} {rs : List Res} {M : Mt} (H : MatchHas S0 w0 m a x hb rs M w) {i : Nat} (hi : i < M.fs.length) :
    ∃ r b off cap : Nat, x < w.heap.size ∧ w.cell? ⟨x, 0, none⟩ = some (.slice (some ⟨b, off, none⟩) M.fs.length cap) ∧ b < w.heap.size ∧ w.cell? ⟨b, off + i, none⟩ = some (.pointer (some ⟨r, 0, none⟩)) ∧ r < w.heap.size ∧ w.cell? ⟨r, 4, none⟩ = some (.int .i64 (M.fs.getD i Fr.zero).op) := by
  obtain ⟨r, b, off, cap, rest, s, e1, e2, e3, e4, e5, hO, hptr, hback⟩ := H.opened hi
  obtain ⟨p0, p1⟩ := hptr _ _ _ hO
  obtain ⟨nv, hO⟩ := hO
  have h1 := hO.blk1
  have h3 := hO.at_ 3 rfl
  rw [← e1]
  exact ⟨r, b, off, cap, h3.lt, h3.cell 0, p0, p1, h1.lt, h1.cell 4⟩

/-- A store into a box. -/
theorem MatchHas.setBox {S0 : List Nat} {w0 w : World} {m a x hb bx : Nat} {cs : Array Value} {rs : List Res} {M : Mt} (H : MatchHas S0 w0 m a x hb (.blk bx cs :: rs) M w) (i : Nat) (v : Value) : MatchHas S0 w0 m a x hb (.blk bx (cs.setIfInBounds i v) :: rs) M (w.setCell ⟨bx, i, none⟩ v) := by
  obtain ⟨lv, ts, F, H⟩ := H
  refine ⟨lv, ts, F, ?_⟩
  have e : ∀ cs : Array Value, (.mem m a M.L :: .blk x #[lv, .slice (some ⟨hb, 0, none⟩) M.fs.length M.fs.length] :: .own 36 1 lv M.fs.length (ts.map Tk.ptr) :: .blk hb (i64s M.hold).toArray :: (tksRes m ts ++ .blk bx cs :: rs)).Perm (.blk bx cs :: .mem m a M.L :: .blk x #[lv, .slice (some ⟨hb, 0, none⟩) M.fs.length M.fs.length] :: .own 36 1 lv M.fs.length (ts.map Tk.ptr) :: .blk hb (i64s M.hold).toArray :: (tksRes m ts ++ rs)) := fun cs =>
    (((((List.perm_middle (a := Res.blk bx cs)).cons _).cons _).cons _).cons _).trans (perm_past4 _ _ _ _ [Res.blk bx cs] (tksRes m ts ++ rs)).symm
  exact ((H.perm (e cs)).set i v).perm (e _).symm

/-- How tasks begin. -/
def Tk.idle (m : Nat) (n mode : Int) (Z : List Int) (i : Nat) (r : Nat) : Tk := ⟨r, ⟨n, mode, i, Fr.zero, Acc.zero, [], Z⟩, .slice none 0 0⟩
def BegunHas (S0 : List Nat) (w0 : World) (m a x hb : Nat) (k : Nat) (n mode : Int) (Z : List Int) (rs : List Res) (j : Nat) (w : World) : Prop :=
  ∃ (lv : Value) (ts : List Tk), ts.length = j ∧ (∀ i t, ts[i]? = some t → ∃ r, t = Tk.idle m n mode Z i r) ∧
    Has S0 w0 w (.mem m a Z :: .blk x #[lv, .slice (some ⟨hb, 0, none⟩) k k] :: .own 36 1 lv j (ts.map Tk.ptr) :: .blk hb (i64s (List.replicate k 0)).toArray :: (tksRes m ts ++ rs))

theorem begun_done {S0 : List Nat} {w0 w : World} {m a x hb k : Nat} {mode : Int} {Z : List Int} {rs : List Res} (h64 : k ≤ 64) (H : BegunHas S0 w0 m a x hb k k mode Z rs k w) : MatchHas S0 w0 m a x hb rs (Mt.start k mode Z) w := by
  obtain ⟨lv, ts, hl, hi, H⟩ := H
  refine ⟨lv, ts, ⟨by simp [Mt.start, hl], by simp [Mt.start], fun i t ht => ?_, fun f hf => ?_, ?_, by simpa [Mt.start] using h64⟩, ?_⟩
  · obtain ⟨r, rfl⟩ := hi i t ht
    have hlt : i < k := by
      rcases Nat.lt_or_ge i ts.length with h1 | h1
      · omega
      · rw [List.getElem?_eq_none h1] at ht; cases ht
    refine ⟨?_, rfl, rfl, rfl⟩
    simp [Mt.start, Tk.idle, hlt]
  · obtain rfl := (List.mem_replicate.1 hf).2
    exact ⟨by simp [Fr.zero], by simp [Fr.zero]⟩
  · show I64 (k : Int)
    unfold I64
    omega
  · have e : (Mt.start k mode Z).fs.length = k := by simp [Mt.start]
    rw [e]
    exact H

/-- A whole row of cells that was made. -/
theorem own_full {w : World} {base : Nat} {e : TypeId} {b n : Nat} {xs : List Value} (h : w.ownsRow base e 1 (.slice (some ⟨b, 0, none⟩) n n) n xs) : Blk w b xs.toArray := by
  rcases h.2 with ⟨hv, _⟩ | ⟨g, cap, cur, hv, _, hg, _, _, hs, ht⟩
  · cases hv
  · simp only [Value.slice.injEq, Option.some.injEq, Addr.mk.injEq] at hv
    obtain ⟨⟨rfl, _, _⟩, _, rfl⟩ := hv
    refine ⟨e, ?_⟩
    rw [hg]
    have : cur.toList = xs := by rw [← ht, List.take_of_length_le]; simp [hs]
    rw [← this]
theorem rd_cells {w : World} {b : Nat} {l : List Value} (h : Blk w b l.toArray) : Rd w 1 (some ⟨b, 0, none⟩) l.length l :=
  ⟨by simp, fun _ => ⟨_, rfl, h.lt, fun j u hu => by
    rw [Addr.add_lit, Nat.zero_add, h.cell, ← hu]
    simp⟩⟩

theorem Has.grown1 {S0 : List Nat} {w0 w w' : World} {e size n m : Nat} {v v' : Value} {xs ys : List Value} {rs : List Res} (i : Nat) (hi : i < rs.length) (h : Has S0 w0 w rs) (he : rs[i] = .own e size v n xs) (hown : w'.ownsRow 0 e size v' m ys) (hg : w.grownBy w' v.ownBlock)
    (hat : v'.ownBlock = v.ownBlock ∨ v'.ownBlock = some w.heap.size) : Has S0 w0 w' (.own e size v' m ys :: rs.eraseIdx i) := by
  have h1 := h.front i hi
  rw [he] at h1
  exact h1.grown hown hg hat

theorem begun_more {S0 : List Nat} {w0 w w' : World} {m a x hb k j : Nat} {n mode : Int} {Z : List Int} {rs : List Res} {lv v' : Value} {ts : List Tk} {r lit : Nat} (hl : ts.length = j) (hi : ∀ i t, ts[i]? = some t → ∃ r, t = Tk.idle m n mode Z i r)
    (H : Has S0 w0 w (.blk lit #[.pointer (some ⟨r, 0, none⟩)] :: .blk r (rcells m ⟨n, mode, j, Fr.zero, Acc.zero, [], Z⟩ (.slice none 0 0)) :: .mem m a Z :: .blk x #[lv, .slice (some ⟨hb, 0, none⟩) k k] :: .own 36 1 lv j (ts.map Tk.ptr) :: .blk hb (i64s (List.replicate k 0)).toArray :: (tksRes m ts ++ rs)))
    (hown : w'.ownsRow 0 36 1 v' (j + 1) (ts.map Tk.ptr ++ [.pointer (some ⟨r, 0, none⟩)])) (hg : w.grownBy w' lv.ownBlock) (hat : v'.ownBlock = lv.ownBlock ∨ v'.ownBlock = some w.heap.size) :
    BegunHas S0 w0 m a x hb k n mode Z rs (j + 1) (w'.setCell ⟨x, 0, none⟩ v') := by
  have H1 := Has.grown1 4 (by simp) H rfl hown hg hat
  have H2 : Has S0 w0 w' (.blk x #[lv, .slice (some ⟨hb, 0, none⟩) k k] :: .own 36 1 v' (j + 1) (ts.map Tk.ptr ++ [.pointer (some ⟨r, 0, none⟩)]) :: .blk lit #[.pointer (some ⟨r, 0, none⟩)] :: .blk r (rcells m ⟨n, mode, j, Fr.zero, Acc.zero, [], Z⟩ (.slice none 0 0)) :: .mem m a Z :: .blk hb (i64s (List.replicate k 0)).toArray :: (tksRes m ts ++ rs)) := H1.front 4 (by simp)
  have H3 := (H2.set 0 v').ownNil 98 4
  -- own0, x, own, lit, run, mem, hb, rest
  have H4 := (H3.front 3 (by simp)).tail
  -- own0, x, own, run, mem, hb, rest
  refine ⟨v', ts ++ [Tk.idle m n mode Z j r], by simp [hl], fun i t ht => ?_, ?_⟩
  · rcases Nat.lt_or_ge i ts.length with h1 | h1
    · rw [List.getElem?_append_left h1] at ht
      exact hi i t ht
    · rw [List.getElem?_append_right h1] at ht
      have : i = ts.length := by
        rcases Nat.lt_or_ge (i - ts.length) 1 with h2 | h2
        · omega
        · rw [List.getElem?_eq_none (by simpa using h2)] at ht; cases ht
      subst this
      rw [Nat.sub_self] at ht
      simp only [List.getElem?_cons_zero, Option.some.injEq] at ht
      subst ht
      exact ⟨r, by rw [hl]⟩
  · have e1 : (ts ++ [Tk.idle m n mode Z j r]).map Tk.ptr = ts.map Tk.ptr ++ [.pointer (some ⟨r, 0, none⟩)] := by simp [Tk.ptr, Tk.idle]
    have e2 : tksRes m (ts ++ [Tk.idle m n mode Z j r]) ++ rs = tksRes m ts ++ .blk r (rcells m ⟨n, mode, j, Fr.zero, Acc.zero, [], Z⟩ (.slice none 0 0)) :: .own 98 4 (.slice none 0 0) 0 [] :: rs := by simp [tksRes, Tk.res, Tk.idle, nts]
    rw [e1, e2]
    refine H4.perm (List.Perm.trans ?_ (perm_opn _ _ _ _ _ _ _ _).symm)
    -- own0, x, own, run, mem, hb, Z  ~  mem, run, own0, x, hb, own, Z
    exact ((((((perm_front (.own 98 4 (.slice none 0 0) 0 [] :: .blk x #[v', .slice (some ⟨hb, 0, none⟩) k k] :: .own 36 1 v' (j + 1) (ts.map Tk.ptr ++ [.pointer (some ⟨r, 0, none⟩)]) :: .blk r (rcells m ⟨n, mode, j, Fr.zero, Acc.zero, [], Z⟩ (.slice none 0 0)) :: .mem m a Z :: .blk hb (i64s (List.replicate k 0)).toArray :: (tksRes m ts ++ rs)) 2 (by simp)).trans
      (perm_front (.own 36 1 v' (j + 1) (ts.map Tk.ptr ++ [.pointer (some ⟨r, 0, none⟩)]) :: .own 98 4 (.slice none 0 0) 0 [] :: .blk x #[v', .slice (some ⟨hb, 0, none⟩) k k] :: .blk r (rcells m ⟨n, mode, j, Fr.zero, Acc.zero, [], Z⟩ (.slice none 0 0)) :: .mem m a Z :: .blk hb (i64s (List.replicate k 0)).toArray :: (tksRes m ts ++ rs)) 5 (by simp))).trans
      (perm_front (.blk hb (i64s (List.replicate k 0)).toArray :: .own 36 1 v' (j + 1) (ts.map Tk.ptr ++ [.pointer (some ⟨r, 0, none⟩)]) :: .own 98 4 (.slice none 0 0) 0 [] :: .blk x #[v', .slice (some ⟨hb, 0, none⟩) k k] :: .blk r (rcells m ⟨n, mode, j, Fr.zero, Acc.zero, [], Z⟩ (.slice none 0 0)) :: .mem m a Z :: (tksRes m ts ++ rs)) 3 (by simp))).trans
      (perm_front (.blk x #[v', .slice (some ⟨hb, 0, none⟩) k k] :: .blk hb (i64s (List.replicate k 0)).toArray :: .own 36 1 v' (j + 1) (ts.map Tk.ptr ++ [.pointer (some ⟨r, 0, none⟩)]) :: .own 98 4 (.slice none 0 0) 0 [] :: .blk r (rcells m ⟨n, mode, j, Fr.zero, Acc.zero, [], Z⟩ (.slice none 0 0)) :: .mem m a Z :: (tksRes m ts ++ rs)) 3 (by simp))).trans
      (perm_front (.own 98 4 (.slice none 0 0) 0 [] :: .blk x #[v', .slice (some ⟨hb, 0, none⟩) k k] :: .blk hb (i64s (List.replicate k 0)).toArray :: .own 36 1 v' (j + 1) (ts.map Tk.ptr ++ [.pointer (some ⟨r, 0, none⟩)]) :: .blk r (rcells m ⟨n, mode, j, Fr.zero, Acc.zero, [], Z⟩ (.slice none 0 0)) :: .mem m a Z :: (tksRes m ts ++ rs)) 4 (by simp))).trans
      (perm_front (.blk r (rcells m ⟨n, mode, j, Fr.zero, Acc.zero, [], Z⟩ (.slice none 0 0)) :: .own 98 4 (.slice none 0 0) 0 [] :: .blk x #[v', .slice (some ⟨hb, 0, none⟩) k k] :: .blk hb (i64s (List.replicate k 0)).toArray :: .own 36 1 v' (j + 1) (ts.map Tk.ptr ++ [.pointer (some ⟨r, 0, none⟩)]) :: .mem m a Z :: (tksRes m ts ++ rs)) 5 (by simp)))

end Go.Proofs.Ytlndihdlodempaa.Z

/- A lock's operation by itself, line by line. No program is in sight but the model's words. -/
set_option linter.unusedVariables false
set_option linter.unusedSimpArgs false
namespace Go.Proofs.Ytlndihdlodempaa.Z
open Go.RowKit

/-- A run at a line, afresh. -/
def RnF (n mode op line a b : Int) (L : List Int) : Rn := ⟨n, mode, 0, ⟨op, line, a, b, 0, Wk.zero, 0⟩, Acc.zero, [], L⟩
def At (n mode : Int) (s : Rn) (op line a b : Int) (L : List Int) : Prop := s.fresh = RnF n mode op line a b L

section
variable {n mode : Int} {s s1 : Rn} {op line a b line' a' b' : Int} {L L' : List Int} {g : Rn → Rn}
theorem At.wk (h : At n mode s op line a b L) : s.f.wk = Wk.zero := congrArg (fun x => x.f.wk) h
theorem At.ret (h : At n mode s op line a b L) : s.f.ret = 0 := congrArg (fun x => x.f.ret) h
theorem At.over (h : At n mode s op line a b L) : s.over = false := by unfold Rn.over; rw [h.ret]; rfl
theorem At.step (h : At n mode s op line a b L) : stepR g s = g (RnF n mode op line a b L) := by
  unfold stepR
  rw [h.wk]
  show g s.fresh = _
  rw [show s.fresh = _ from h]
theorem start_at : At n mode (start n mode op L) op 0 0 0 L := rfl

/-- A line, and on. -/
theorem At.go (h : At n mode s op line a b L) (hg : g (RnF n mode op line a b L) = s1) (h1 : At n mode s1 op line' a' b' L') (q : Nat) : aloneA g (q + 1) s = aloneA g q s1 := by
  show (if (stepR g s).over then ((stepR g s).f.ret, stepR g s) else aloneA g q (stepR g s)) = _
  rw [h.step, hg, h1.over]
  rfl
/-- A line that ends the operation. -/
theorem At.fin (h : At n mode s op line a b L) (hg : g (RnF n mode op line a b L) = s1) (hr : s1.f.ret ≠ 0) (hk : s1.f.wk = Wk.zero) (q : Nat) : aloneA g (q + 1) s = (s1.f.ret, s1) := by
  show (if (stepR g s).over then ((stepR g s).f.ret, stepR g s) else aloneA g q (stepR g s)) = _
  rw [h.step, hg, if_pos (by unfold Rn.over; rw [hk]; simpa [Wk.zero] using hr)]
theorem At.fin2 (h : At n mode s op line a b L) (hg : g (RnF n mode op line a b L) = s1) (hr : s1.f.ret ≠ 0) (hk : s1.f.wk = Wk.zero) (q : Nat) : ∃ s', aloneA g (q + 1) s = (s1.f.ret, s') ∧ s'.L = s1.L := ⟨s1, h.fin hg hr hk q, rfl⟩
/-- A line that ends the operation, and begins a wake-up. -/
theorem At.ends (h : At n mode s op line a b L) (c : Int) (hg : g (RnF n mode op line a b L) = s1) (hr : s1.f.ret ≠ 0) (hk : s1.f.wk = beginA mode c) (hn : s1.n = n) (h1 : 1 ≤ n) (hc : NoWatch n c s1.L) (q : Nat) :
    ∃ s', aloneA g (q + n.toNat + 1) s = (s1.f.ret, s') ∧ s'.L = s1.L := by
  have hgo : aloneA g (q + n.toNat + 1) s = if s1.over then (s1.f.ret, s1) else aloneA g (q + n.toNat) s1 := by
    show (if (stepR g s).over then ((stepR g s).f.ret, stepR g s) else aloneA g (q + n.toNat) (stepR g s)) = _
    rw [h.step, hg]
  by_cases h2 : mode = 2
  · have hk2 : s1.f.wk = ⟨true, c, 0, false⟩ := by rw [hk]; unfold beginA; rw [if_pos h2]
    obtain ⟨s', _, _, k3, _, k5, _⟩ := alone_wakes g c n.toNat s1 0 (q + n.toNat) hk2 (Int.le_refl _) (by omega) (by omega) (by rw [hn]; exact hc) (by omega)
    refine ⟨s', ?_, k3⟩
    rw [hgo, if_neg (by unfold Rn.over; rw [hk2]; simp), k5 hr]
  · have hk2 : s1.f.wk = Wk.zero := by rw [hk]; unfold beginA; rw [if_neg h2]
    refine ⟨s1, ?_, rfl⟩
    rw [hgo, if_pos (by unfold Rn.over; rw [hk2]; simpa [Wk.zero] using hr)]
/-- A line that begins a wake-up, behind which the operation goes on. -/
theorem At.wakes (h : At n mode s op line a b L) (c : Int) (hg : g (RnF n mode op line a b L) = s1) (hr : s1.rests = RnF n mode op line' a' b' L') (hk : s1.f.wk = beginA mode c) (h1 : 1 ≤ n) (hc : NoWatch n c L') (q : Nat) :
    ∃ s' q', At n mode s' op line' a' b' L' ∧ q ≤ q' ∧ aloneA g (q + n.toNat + 1) s = aloneA g q' s' := by
  have hL : s1.L = L' := congrArg (fun x => x.L) hr
  have hn : s1.n = n := congrArg (fun x => x.n) hr
  have hret : s1.f.ret = 0 := congrArg (fun x => x.f.ret) hr
  have hgo : aloneA g (q + n.toNat + 1) s = if s1.over then (s1.f.ret, s1) else aloneA g (q + n.toNat) s1 := by
    show (if (stepR g s).over then ((stepR g s).f.ret, stepR g s) else aloneA g (q + n.toNat) (stepR g s)) = _
    rw [h.step, hg]
  have hov : s1.over = false := by unfold Rn.over; rw [hret]; rfl
  rw [hov] at hgo
  by_cases h2 : mode = 2
  · have hk2 : s1.f.wk = ⟨true, c, 0, false⟩ := by rw [hk]; unfold beginA; rw [if_pos h2]
    obtain ⟨s', k1, _, _, _, _, k6⟩ := alone_wakes g c n.toNat s1 0 (q + n.toNat) hk2 (Int.le_refl _) (by omega) (by omega) (by rw [hn, hL]; exact hc) (by omega)
    refine ⟨s', q, k1.trans hr, Nat.le_refl _, ?_⟩
    rw [hgo]
    have := k6 hret
    rw [Nat.add_sub_cancel] at this
    exact this
  · have hk2 : s1.f.wk = Wk.zero := by rw [hk]; unfold beginA; rw [if_neg h2]
    refine ⟨s1, q + n.toNat, ?_, by omega, hgo⟩
    unfold At
    rw [← hr]
    unfold Rn.fresh Rn.rests
    rw [← hk2]
end

theorem stageA_0 (mode : Int) : stageA mode 0 = 0 := by unfold stageA; split <;> rfl
/-- What is waited for holds. -/
theorem wait_hit {L : List Int} {n mode task c : Int} {p : Int → Bool} (h : p (doA L ⟨1, c, 0, 0, 0⟩).1.old = true) : waitA L n mode task 0 c p = ⟨0, (doA L ⟨1, c, 0, 0, 0⟩).1, true, true, L⟩ := by
  rw [waitA0 (stageA_0 mode), h]
  rfl

end Go.Proofs.Ytlndihdlodempaa.Z

/- A task that is let go on alone, from its operation's beginning to its end; many that read. No lock in sight. -/
set_option linter.unusedVariables false
set_option linter.unusedSimpArgs false
namespace Go.Proofs.Ytlndihdlodempaa.Z
open Go.RowKit

/-- A run that waits for no permit here. -/
def Free (s : Rn) : Prop := s.f.wk.on = true ∨ s.f.st = 0
theorem free_stuck {s : Rn} (h : Free s) (L : List Int) (n mode task : Int) : (!s.f.wk.on && stuckA L n mode task s.f.st) = false := by
  rcases h with h | h
  · rw [h]; rfl
  · rw [h]
    unfold stuckA
    rw [stageA_0]
    simp

/-- In so many steps an operation ends. -/
inductive Does (g : Rn → Rn) : Nat → Rn → Rn → Prop
  | last {s s' : Rn} : Free s → stepR g s = s' → s'.over = true → Does g 1 s s'
  | more {n : Nat} {s s1 s' : Rn} : Free s → stepR g s = s1 → s1.over = false → s1.f.op ≠ 0 → Does g n s1 s' → Does g (n + 1) s s'

def Same (g : Rn → Rn) : Prop := ∀ s, (stepR g s).n = s.n ∧ (stepR g s).mode = s.mode ∧ (stepR g s).task = s.task

theorem run_fresh {s : Rn} {M : Mt} {i : Nat} {f : Fr} (h1 : s.n = M.n) (h2 : s.mode = M.mode) (h3 : s.task = i) (h4 : s.f = f) (h5 : s.L = M.L) : s.fresh = M.run i f := by
  obtain ⟨n, mode, task, f', acc, notes, L⟩ := s
  simp only at h1 h2 h3 h4 h5
  subst h1 h2 h3 h4 h5
  rfl
theorem step_of_fresh {g : Rn → Rn} {s : Rn} {M : Mt} {i : Nat} {f : Fr} (h : s.fresh = M.run i f) {s1 : Rn} (hs : stepR g s = s1) : stepR g (M.run i f) = s1 := by
  rw [← h, ← stepR_fresh, hs]

theorem put_put (M : Mt) (i : Nat) (f f' : Fr) (h h' : Int) (L L' : List Int) : (M.put i f h L).put i f' h' L' = M.put i f' h' L' := by
  unfold Mt.put
  simp [List.set_set]

theorem getD_set_self {α : Type} {l : List α} {i : Nat} {v d : α} (h : i < l.length) : (l.set i v).getD i d = v := by
  simp [List.getD, h]

/-- Of a task that is with an operation: let go on, it ends it. -/
theorem while_does {g : Rn → Rn} (hg : Same g) : ∀ {n : Nat} {s s' : Rn}, Does g n s s' → ∀ {M : Mt} {i m : Nat}, i < M.fs.length → M.hold.length = M.fs.length → s.fresh = M.run i s.f → M.fs.getD i Fr.zero = s.f → s.f.op ≠ 0 → n ≤ m →
    whileA g i m M = M.put i Fr.zero (behindA s'.f.op s'.f.ret (M.hold.getD i 0)) s'.L := by
  intro n s s' h
  induction h with
  | @last s s' hf hs ho =>
    intro M i m hi hh hr hM hop hm
    obtain ⟨m, rfl⟩ : ∃ j, m = j + 1 := ⟨m - 1, by omega⟩
    have hst := goes_of (h := M.hold.getD i 0) (step_of_fresh hr hs)
    rw [if_neg (by rw [free_stuck hf]; decide), if_pos ho] at hst
    unfold whileA
    rw [hM, if_neg hop]
    have hp : M.play g i 0 = M.put i Fr.zero (behindA s'.f.op s'.f.ret (M.hold.getD i 0)) s'.L := by
      unfold Mt.play
      rw [hM, if_neg hop, hst]
    rw [hp]
    cases m with
    | zero => rfl
    | succ m =>
      unfold whileA
      rw [if_pos]
      show ((M.fs.set i Fr.zero).getD i Fr.zero).op = 0
      rw [getD_set_self hi]
      rfl
  | @more n s s1 s' hf hs ho hop1 hd ih =>
    intro M i m hi hh hr hM hop hm
    obtain ⟨m, rfl⟩ : ∃ j, m = j + 1 := ⟨m - 1, by omega⟩
    have hst := goes_of (h := M.hold.getD i 0) (step_of_fresh hr hs)
    rw [if_neg (by rw [free_stuck hf]; decide), if_neg (by rw [ho]; decide)] at hst
    unfold whileA
    rw [hM, if_neg hop]
    have hp : M.play g i 0 = M.put i s1.f (M.hold.getD i 0) s1.L := by
      unfold Mt.play
      rw [hM, if_neg hop, hst]
    rw [hp]
    have hsm := hg s
    rw [hs] at hsm
    have hn : s.n = M.n ∧ s.mode = M.mode ∧ s.task = i := ⟨congrArg Rn.n hr, congrArg Rn.mode hr, congrArg Rn.task hr⟩
    have := ih (M := M.put i s1.f (M.hold.getD i 0) s1.L) (i := i) (m := m) (by simp [Mt.put]; exact hi) (by simp [Mt.put]; exact hh)
      (run_fresh (hsm.1.trans hn.1) (hsm.2.1.trans hn.2.1) (hsm.2.2.trans hn.2.2) rfl rfl) (getD_set_self hi) hop1 (by omega)
    rw [this, put_put]
    congr 2
    exact getD_set_self (by rw [hh]; exact hi)

/-- AN OPERATION, WHOLE. -/
theorem whole_does {g : Rn → Rn} (hg : Same g) {n : Nat} {s s' : Rn} (hd : Does g n s s') {M : Mt} {i : Nat} {op : Int} (hi : i < M.fs.length) (hh : M.hold.length = M.fs.length) (hM : M.fs.getD i Fr.zero = Fr.zero) (hmay : mayB op (M.hold.getD i 0) = true)
    (hr : s.fresh = M.run i (frOp op)) (hn : n ≤ 201) : wholeA g M i op = M.put i Fr.zero (behindA s'.f.op s'.f.ret (fromA op (M.hold.getD i 0))) s'.L := by
  have hsf : s.f = frOp op := congrArg Rn.f hr
  have hplay : M.play g i op = M.goes g i (frOp op) (fromA op (M.hold.getD i 0)) := by
    unfold Mt.play
    rw [hM, if_pos (show Fr.zero.op = 0 from rfl), if_pos hmay]
  unfold wholeA
  rw [hplay]
  cases hd with
  | last hf hs ho =>
    have hst := goes_of (h := fromA op (M.hold.getD i 0)) (step_of_fresh hr hs)
    rw [← hsf, if_neg (by rw [free_stuck hf]; decide), if_pos ho, hsf] at hst
    rw [hst]
    show whileA g i (199 + 1) _ = _
    unfold whileA
    rw [if_pos]
    show ((M.fs.set i Fr.zero).getD i Fr.zero).op = 0
    rw [getD_set_self hi]
    rfl
  | @more n _ s1 _ hf hs ho hop1 hd2 =>
    have hst := goes_of (h := fromA op (M.hold.getD i 0)) (step_of_fresh hr hs)
    rw [← hsf, if_neg (by rw [free_stuck hf]; decide), if_neg (by rw [ho]; decide), hsf] at hst
    rw [hst]
    have hsm := hg s
    rw [hs] at hsm
    have hn1 : s.n = M.n ∧ s.mode = M.mode ∧ s.task = i := ⟨congrArg Rn.n hr, congrArg Rn.mode hr, congrArg Rn.task hr⟩
    have := while_does hg hd2 (M := M.put i s1.f (fromA op (M.hold.getD i 0)) s1.L) (i := i) (m := 200) (by simp [Mt.put]; exact hi) (by simp [Mt.put]; exact hh)
      (run_fresh (hsm.1.trans hn1.1) (hsm.2.1.trans hn1.2.1) (hsm.2.2.trans hn1.2.2) rfl rfl) (getD_set_self hi) hop1 (by omega)
    rw [this, put_put]
    congr 2
    exact getD_set_self (by rw [hh]; exact hi)

/-- An operation of a task, from its beginning. -/
def startT (n mode : Int) (t : Nat) (op : Int) (L : List Int) : Rn := ⟨n, mode, t, frOp op, Acc.zero, [], L⟩

/-- Tasks that are idle. -/
structure Idle (M : Mt) (k : Nat) (d : Int) (f : Nat → Int) (L : List Int) : Prop where
  n : M.n = k
  mode : M.mode = d
  fs : M.fs = List.replicate k Fr.zero
  hold : M.hold = (List.range k).map f
  words : M.L = L

theorem range_set (k : Nat) (f : Nat → Int) (i : Nat) (v : Int) : ((List.range k).map f).set i v = (List.range k).map (fun x => if x = i then v else f x) := by
  refine List.ext_getElem? fun j => ?_
  rw [List.getElem?_set]
  by_cases hj : j < k
  · by_cases hij : i = j
    · subst hij
      simp [hj]
    · simp [hj, hij, Ne.symm hij]
  · by_cases hij : i = j
    · subst hij
      simp [hj]
    · simp [hj, hij]
theorem range_get {k : Nat} {f : Nat → Int} {i : Nat} (h : i < k) : ((List.range k).map f).getD i 0 = f i := by
  simp [List.getD, h]
theorem range_count (f : Nat → Int) (what : Int) (j : Nat) : ∀ k, (∀ i, i < k → (f i = what ↔ i < j)) → ((List.range k).map f).countP (· == what) = min j k := by
  intro k
  induction k with
  | zero => intro _; simp
  | succ k ih =>
    intro h
    rw [List.range_succ, List.map_append, List.countP_append, ih (fun i hi => h i (by omega))]
    have hk := h k (by omega)
    by_cases h1 : k < j
    · simp [hk.2 h1]; omega
    · have : ¬ f k = what := fun e => h1 (hk.1 e)
      simp [this]; omega

theorem Idle.whole {g : Rn → Rn} (hg : Same g) {M : Mt} {k : Nat} {d : Int} {f : Nat → Int} {L : List Int} (h : Idle M k d f L) {i : Nat} (hi : i < k) {op : Int} (hmay : mayB op (f i) = true) {n : Nat} {s' : Rn} (hn : n ≤ 201) (hd : Does g n (startT k d i op L) s') :
    Idle (wholeA g M i op) k d (fun x => if x = i then behindA s'.f.op s'.f.ret (fromA op (f i)) else f x) s'.L := by
  have hlen : M.fs.length = k := by rw [h.fs]; simp
  have hhl : M.hold.length = M.fs.length := by rw [h.hold, h.fs]; simp
  have hget : M.hold.getD i 0 = f i := by rw [h.hold]; exact range_get hi
  have hz : M.fs.getD i Fr.zero = Fr.zero := by rw [h.fs]; simp [List.getD, hi]
  have := whole_does hg hd (M := M) (i := i) (op := op) (by omega) hhl hz (by rw [hget]; exact hmay) (run_fresh h.n.symm h.mode.symm rfl rfl h.words.symm) hn
  rw [this, hget]
  refine ⟨h.n, h.mode, ?_, ?_, rfl⟩
  · show M.fs.set i Fr.zero = _
    rw [h.fs]
    refine List.ext_getElem? fun j => ?_
    rw [List.getElem?_set]
    split
    · rename_i hij
      subst hij
      simp [hi]
    · rfl
  · show M.hold.set i _ = _
    rw [h.hold, range_set]

/-- What is asked of a lock: of words at which so many read. -/
structure Together (g : Rn → Rn) (k : Nat) (d op : Int) (P : Nat → List Int → Prop) : Prop where
  same : Same g
  read : ∀ i j L, i < k → j + 1 < k → P j L → ∃ n s', n ≤ 201 ∧ Does g n (startT k d i op L) s' ∧ s'.f.ret = 2 ∧ (s'.f.op = 1 ∨ s'.f.op = 5) ∧ P (j + 1) s'.L
  refused : ∀ i j L, i < k → j + 1 < k → P (j + 1) L → ∃ n s', n ≤ 201 ∧ Does g n (startT k d i 6 L) s' ∧ s'.f.ret ≠ 2 ∧ P (j + 1) s'.L
  give : ∀ i j L, i < k → j + 1 < k → P (j + 1) L → ∃ n s', n ≤ 201 ∧ Does g n (startT k d i 2 L) s' ∧ s'.f.op = 2 ∧ P j s'.L
  take : ∀ i L, i < k → P 0 L → ∃ n s', n ≤ 201 ∧ Does g n (startT k d i 6 L) s' ∧ s'.f.ret = 2 ∧ s'.f.op = 6

theorem together_ok {g : Rn → Rn} {k : Nat} {d op : Int} {P : Nat → List Int → Prop} (hop : op = 1 ∨ op = 5) (T : Together g k d op P) {Z : List Int} (hZ : P 0 Z) (hk : 2 ≤ k) : TogetherOk g k op (Mt.start k d Z) := by
  have h0 : Idle (Mt.start k d Z) k d (fun _ => 0) Z := ⟨rfl, rfl, rfl, by simp [Mt.start, List.map_const'], rfl⟩
  have hmay : mayB op 0 = true := by rcases hop with rfl | rfl <;> decide
  have hR : ∀ j, j ≤ k - 1 → ∃ L, P j L ∧ Idle (readsA g op (Mt.start k d Z) j) k d (fun i => if i < j then 1 else 0) L := by
    intro j
    induction j with
    | zero => intro _; exact ⟨Z, hZ, by show Idle (Mt.start k d Z) _ _ _ _; simpa using h0⟩
    | succ j ih =>
      intro hj
      obtain ⟨L, hP, hI⟩ := ih (by omega)
      obtain ⟨n, s', hn, hd, hr, ho, hP'⟩ := T.read j j L (by omega) (by omega) hP
      refine ⟨s'.L, hP', ?_⟩
      have := hI.whole T.same (i := j) (by omega) (op := op) (by simpa using hmay) hn hd
      have e : (fun x => if x = j then behindA s'.f.op s'.f.ret (fromA op (if j < j then 1 else 0)) else if x < j then (1 : Int) else 0) = fun i => if i < j + 1 then 1 else 0 := by
        funext x
        by_cases h1 : x = j
        · subst h1
          have : behindA s'.f.op 2 (fromA op (if x < x then 1 else 0)) = 1 := by
            unfold behindA
            rcases ho with ho | ho <;> simp [ho]
          rw [if_pos rfl, hr, this, if_pos (Nat.lt_succ_self _)]
        · by_cases h2 : x < j
          · simp [h1, h2, Nat.lt_succ_of_lt h2]
          · have : ¬ x < j + 1 := by omega
            simp [h1, h2, this]
      rw [e] at this
      exact this
  have hG : ∀ j, j ≤ k - 1 → ∃ L, P (k - 1 - j) L ∧ Idle (givesA g k (readsA g op (Mt.start k d Z) (k - 1)) j) k d (fun i => if i < k - 1 then (if i < j then 0 else 1) else 0) L ∧
      (j < k - 1 → (wholeA g (givesA g k (readsA g op (Mt.start k d Z) (k - 1)) j) (k - 1) 6).hold.getD (k - 1) 0 = 0) := by
    have hno : ∀ j M L, j < k - 1 → P (k - 1 - j) L → Idle M k d (fun i => if i < k - 1 then (if i < j then 0 else 1) else 0) L →
        ∃ L', P (k - 1 - j) L' ∧ Idle (wholeA g M (k - 1) 6) k d (fun i => if i < k - 1 then (if i < j then 0 else 1) else 0) L' := by
      intro j M L hj hP hI
      obtain ⟨c, hc⟩ : ∃ c, k - 1 - j = c + 1 := ⟨k - 1 - j - 1, by omega⟩
      rw [hc] at hP ⊢
      obtain ⟨n, s', hn, hd, hr, hP'⟩ := T.refused (k - 1) c L (by omega) (by omega) hP
      refine ⟨s'.L, hP', ?_⟩
      have := hI.whole T.same (i := k - 1) (by omega) (op := 6) (by simp; decide) hn hd
      have e : (fun x => if x = k - 1 then behindA s'.f.op s'.f.ret (fromA 6 (if k - 1 < k - 1 then (if k - 1 < j then 0 else 1) else 0)) else if x < k - 1 then (if x < j then (0 : Int) else 1) else 0) = fun i => if i < k - 1 then (if i < j then 0 else 1) else 0 := by
        funext x
        by_cases h1 : x = k - 1
        · subst h1
          have : ∀ h, behindA s'.f.op s'.f.ret (fromA 6 h) = h := by
            intro h
            unfold behindA
            rw [if_pos hr]
            rfl
          rw [if_pos rfl, this]
        · simp [h1]
      rw [e] at this
      exact this
    intro j
    induction j with
    | zero =>
      intro _
      obtain ⟨L, hP, hI⟩ := hR (k - 1) (by omega)
      have hI' : Idle (givesA g k (readsA g op (Mt.start k d Z) (k - 1)) 0) k d (fun i => if i < k - 1 then (if i < 0 then 0 else 1) else 0) L := by
        have e : (fun i : Nat => if i < k - 1 then (if i < 0 then (0 : Int) else 1) else 0) = fun i => if i < k - 1 then 1 else 0 := by funext i; simp
        rw [e]
        exact hI
      refine ⟨L, hP, hI', fun hj => ?_⟩
      obtain ⟨L', _, h2⟩ := hno 0 _ L hj (by simpa using hP) hI'
      rw [h2.hold, range_get (by omega)]
      simp
    | succ j ih =>
      intro hj
      obtain ⟨L, hP, hI, _⟩ := ih (by omega)
      obtain ⟨L1, hP1, hI1⟩ := hno j _ L (by omega) hP hI
      obtain ⟨c, hc⟩ : ∃ c, k - 1 - j = c + 1 := ⟨k - 1 - j - 1, by omega⟩
      rw [hc] at hP1
      obtain ⟨n, s', hn, hd, ho, hP'⟩ := T.give j c L1 (by omega) (by omega) hP1
      have h3 := hI1.whole T.same (i := j) (by omega) (op := 2) (by rw [if_pos (by omega)]; simp; decide) hn hd
      have e : (fun x => if x = j then behindA s'.f.op s'.f.ret (fromA 2 (if j < k - 1 then (if j < j then 0 else 1) else 0)) else if x < k - 1 then (if x < j then (0 : Int) else 1) else 0) = fun i => if i < k - 1 then (if i < j + 1 then 0 else 1) else 0 := by
        funext x
        by_cases h1 : x = j
        · subst h1
          have : ∀ h, behindA s'.f.op s'.f.ret (fromA 2 h) = 0 := by
            intro h
            unfold behindA fromA
            rw [ho]
            split <;> simp
          rw [if_pos rfl, this, if_pos (by omega), if_pos (by omega)]
        · by_cases h2 : x < k - 1
          · by_cases h4 : x < j
            · simp [h1, h2, h4, Nat.lt_succ_of_lt h4]
            · have : ¬ x < j + 1 := by omega
              simp [h1, h2, h4, this]
          · simp [h1, h2]
      rw [e] at h3
      refine ⟨s'.L, by rw [show k - 1 - (j + 1) = c from by omega]; exact hP', h3, fun hj2 => ?_⟩
      obtain ⟨L', _, h2⟩ := hno (j + 1) _ s'.L hj2 (by rw [show k - 1 - (j + 1) = c from by omega]; exact hP') h3
      rw [show givesA g k (readsA g op (Mt.start k d Z) (k - 1)) (j + 1) = wholeA g (wholeA g (givesA g k (readsA g op (Mt.start k d Z) (k - 1)) j) (k - 1) 6) j 2 from rfl, h2.hold, range_get (by omega)]
      simp
  refine ⟨fun j hj => ?_, fun j hj => (hG j (by omega)).choose_spec.2.2 hj, ?_⟩
  · obtain ⟨L, _, hI⟩ := hR (j + 1) (by omega)
    unfold Mt.many
    rw [hI.hold, range_count _ 1 (j + 1) k (fun i hi => by by_cases h : i < j + 1 <;> simp [h])]
    omega
  · obtain ⟨L, hP, hI, _⟩ := hG (k - 1) (Nat.le_refl _)
    rw [Nat.sub_self] at hP
    obtain ⟨n, s', hn, hd, hr, ho⟩ := T.take (k - 1) L (by omega) hP
    have h3 := hI.whole T.same (i := k - 1) (by omega) (op := 6) (by simp; decide) hn hd
    have hb : ∀ h, behindA s'.f.op s'.f.ret h = 2 := by
      intro h
      unfold behindA
      rw [ho, hr]
      simp
    refine ⟨?_, ?_⟩
    · rw [h3.hold, range_get (by omega), if_pos rfl, hb]
    · unfold Mt.many
      rw [h3.hold, range_count _ 1 0 k (fun i hi => ?_)]
      · omega
      · by_cases h1 : i = k - 1
        · simp [h1, hb]
        · simp [h1]
          intro h2
          omega

/-- A wake-up that finds nobody, at an operation's end. -/
theorem does_wakes (g : Rn → Rn) (c : Int) : ∀ (d : Nat) (s : Rn) (i : Int), s.f.wk = ⟨true, c, i, false⟩ → 0 ≤ i → i + d = s.n → 1 ≤ d → NoWatch s.n c s.L → s.f.ret ≠ 0 → s.f.op ≠ 0 →
    ∃ s', Does g d s s' ∧ s'.L = s.L ∧ s'.f.ret = s.f.ret ∧ s'.f.op = s.f.op := by
  intro d
  induction d with
  | zero => intro s i hw h0 h1 h2; omega
  | succ d ih =>
    intro s i hw h0 h1 _ hc hr ho
    obtain ⟨e1, e2, e3, e4, e5, e6⟩ := woke_calm hw h0 (by omega) hc
    have hst : stepR g s = s.woke := by unfold stepR; rw [hw]; rfl
    have hf : Free s := Or.inl (by rw [hw])
    by_cases hd : d = 0
    · subst hd
      rw [if_pos (by omega)] at e2
      exact ⟨s.woke, Does.last hf hst (by unfold Rn.over; rw [e2]; simpa [Wk.zero] using hr), e1, by rw [e2], by rw [e2]⟩
    · rw [if_neg (by omega)] at e2
      obtain ⟨s', k1, k2, k3, k4⟩ := ih s.woke (i + 1) (by rw [e2]) (by omega) (by rw [e4]; omega) (by omega) (by rw [e4, e1]; exact hc) (by rw [e2]; exact hr) (by rw [e2]; exact ho)
      exact ⟨s', Does.more hf hst (by unfold Rn.over; rw [e2]; simp) (by rw [e2]; exact ho) k1, k2.trans e1, by rw [k3, e2], by rw [k4, e2]⟩

theorem does_ends {g : Rn → Rn} {s s1 : Rn} (c : Int) (hf : Free s) (hs : stepR g s = s1) (hk : s1.f.wk = beginA s1.mode c) (hr : s1.f.ret ≠ 0) (ho : s1.f.op ≠ 0) (h1 : 1 ≤ s1.n) (hc : NoWatch s1.n c s1.L) :
    ∃ n s', n ≤ s1.n.toNat + 1 ∧ Does g n s s' ∧ s'.L = s1.L ∧ s'.f.ret = s1.f.ret ∧ s'.f.op = s1.f.op := by
  unfold beginA at hk
  split at hk
  · obtain ⟨s', k1, k2, k3, k4⟩ := does_wakes g c s1.n.toNat s1 0 hk (Int.le_refl _) (by omega) (by omega) hc hr ho
    exact ⟨_, s', Nat.le_refl _, Does.more hf hs (by unfold Rn.over; rw [hk]; simp) ho k1, k2, k3, k4⟩
  · exact ⟨1, s1, by omega, Does.last hf hs (by unfold Rn.over; rw [hk]; simpa [Wk.zero] using hr), rfl, rfl, rfl⟩

/-- A task's run at a line, afresh. -/
def RnT (n mode : Int) (t : Nat) (op line a b : Int) (L : List Int) : Rn := ⟨n, mode, t, ⟨op, line, a, b, 0, Wk.zero, 0⟩, Acc.zero, [], L⟩
def AtT (n mode : Int) (t : Nat) (s : Rn) (op line a b : Int) (L : List Int) : Prop := s.fresh = RnT n mode t op line a b L
theorem startT_at (n mode : Int) (t : Nat) (op : Int) (L : List Int) : AtT n mode t (startT n mode t op L) op 0 0 0 L := rfl
section
variable {n mode : Int} {t : Nat} {s : Rn} {op line a b line' a' b' : Int} {L L' : List Int} {g : Rn → Rn}
theorem AtT.wk (h : AtT n mode t s op line a b L) : s.f.wk = Wk.zero := congrArg (fun x => x.f.wk) h
theorem AtT.free (h : AtT n mode t s op line a b L) : Free s := Or.inr (congrArg (fun x => x.f.st) h)
theorem AtT.step (h : AtT n mode t s op line a b L) : stepR g s = g (RnT n mode t op line a b L) := by
  unfold stepR
  rw [h.wk]
  show g s.fresh = _
  rw [show s.fresh = _ from h]
theorem AtT.over (h : AtT n mode t s op line a b L) : s.over = false := by unfold Rn.over; rw [show s.f.ret = 0 from congrArg (fun x => x.f.ret) h]; rfl
theorem AtT.op_ (h : AtT n mode t s op line a b L) : s.f.op = op := congrArg (fun x => x.f.op) h
/-- A line, and on. -/
theorem AtT.go {q : Nat} {s' : Rn} (h : AtT n mode t s op line a b L) (h1 : AtT n mode t (g (RnT n mode t op line a b L)) op line' a' b' L') (ho : op ≠ 0) (hd : Does g q (g (RnT n mode t op line a b L)) s') : Does g (q + 1) s s' :=
  Does.more h.free h.step h1.over (by rw [h1.op_]; exact ho) hd
/-- A line that ends the operation. -/
theorem AtT.fin (h : AtT n mode t s op line a b L) (hr : (g (RnT n mode t op line a b L)).f.ret ≠ 0) (hk : (g (RnT n mode t op line a b L)).f.wk = Wk.zero) : Does g 1 s (g (RnT n mode t op line a b L)) :=
  Does.last h.free h.step (by unfold Rn.over; rw [hk]; simpa [Wk.zero] using hr)
/-- A line that ends the operation, and begins a wake-up that finds nobody. -/
theorem AtT.ends {s1 : Rn} (h : AtT n mode t s op line a b L) (c : Int) (hg : g (RnT n mode t op line a b L) = s1) (hr : s1.f.ret ≠ 0) (ho : s1.f.op ≠ 0) (hk : s1.f.wk = beginA s1.mode c) (h1 : 1 ≤ s1.n) (hc : NoWatch s1.n c s1.L) :
    ∃ q s', q ≤ s1.n.toNat + 1 ∧ Does g q s s' ∧ s'.L = s1.L ∧ s'.f.ret = s1.f.ret ∧ s'.f.op = s1.f.op := does_ends c h.free (h.step.trans hg) hk hr ho h1 hc
end

end Go.Proofs.Ytlndihdlodempaa.Z
