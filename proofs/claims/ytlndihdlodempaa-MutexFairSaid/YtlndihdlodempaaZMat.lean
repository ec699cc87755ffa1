/- Tasks over a lock: what a pick does; and how they lie in a world. No lock in sight. -/
import Derived.Test.YtlndihdlodempaaZAlone
import Derived.Test.YtlndihdlodempaaZMatch
import Derived.Deep.MidRow
set_option linter.unusedVariables false
set_option linter.unusedSimpArgs false
namespace Go.Proofs.Ytlndihdlodempaa.Z
open Go.RowKit

/-- Tasks over a lock: how many, in which mode; the words; how far each is; what each holds. -/
structure Mt where
  n : Int
  mode : Int
  L : List Int
  fs : List Fr
  hold : List Int

/-- An operation that begins. -/
def frOp (op : Int) : Fr := ⟨op, 0, 0, 0, 0, Wk.zero, 0⟩
def Mt.run (M : Mt) (i : Nat) (f : Fr) : Rn := ⟨M.n, M.mode, i, f, Acc.zero, [], M.L⟩
/-- A task's frame, and what it holds. -/
def Mt.put (M : Mt) (i : Nat) (f : Fr) (h : Int) (L : List Int) : Mt := { M with L := L, fs := M.fs.set i f, hold := M.hold.set i h }
def Mt.goes (g : Rn → Rn) (M : Mt) (i : Nat) (f : Fr) (h : Int) : Mt :=
  if (!f.wk.on && stuckA M.L M.n M.mode i f.st) = true then M.put i f h M.L
  else if (stepR g (M.run i f)).over = true then M.put i Fr.zero (behindA (stepR g (M.run i f)).f.op (stepR g (M.run i f)).f.ret h) (stepR g (M.run i f)).L
  else M.put i (stepR g (M.run i f)).f h (stepR g (M.run i f)).L
/-- A pick. -/
def Mt.play (g : Rn → Rn) (M : Mt) (i : Nat) (op : Int) : Mt :=
  if (M.fs.getD i Fr.zero).op = 0 then if mayB op (M.hold.getD i 0) = true then M.goes g i (frOp op) (fromA op (M.hold.getD i 0)) else M
  else M.goes g i (M.fs.getD i Fr.zero) (M.hold.getD i 0)
/-- How many hold this. -/
def Mt.many (M : Mt) (what : Int) : Nat := M.hold.countP (· == what)

theorem stepR_fresh (g : Rn → Rn) (s : Rn) : stepR g s = stepR g s.fresh := rfl
theorem step_run (g : Rn → Rn) (M : Mt) (i : Nat) (f : Fr) (acc : Acc) (notes : List Nt) {s2 : Rn} (h : stepR g ⟨M.n, M.mode, i, f, acc, notes, M.L⟩ = s2) : stepR g (M.run i f) = s2 := by
  rw [← h, stepR_fresh g (M.run i f), stepR_fresh g ⟨M.n, M.mode, i, f, acc, notes, M.L⟩]
  rfl
theorem goes_of {g : Rn → Rn} {M : Mt} {i : Nat} {f : Fr} {h : Int} {s2 : Rn} (hs : stepR g (M.run i f) = s2) :
    M.goes g i f h = if (!f.wk.on && stuckA M.L M.n M.mode i f.st) = true then M.put i f h M.L else if s2.over = true then M.put i Fr.zero (behindA s2.f.op s2.f.ret h) s2.L else M.put i s2.f h s2.L := by
  subst hs
  rfl

/-- A block's cells, as a range. -/
theorem rangeAt_list {w : World} {b : Nat} {cs : List Value} (h : ∀ i, w.cell? ⟨b, i, none⟩ = (cs.toArray)[i]?) : w.rangeAt b 0 cs := fun j v hv => by
  rw [Nat.zero_add, h]
  simpa using hv

/-- A task as it lies in a world. -/
structure Tk where
  r : Nat
  s : Rn
  nv : Value
def Tk.res (m : Nat) (t : Tk) : List Res := [.blk t.r (rcells m t.s t.nv), .own 98 4 t.nv t.s.notes.length (nts t.s.notes)]
def Tk.ptr (t : Tk) : Value := .pointer (some ⟨t.r, 0, none⟩)
def tksRes (m : Nat) (ts : List Tk) : List Res := ts.flatMap (Tk.res m)

structure Fit (M : Mt) (ts : List Tk) : Prop where
  len : ts.length = M.fs.length
  hlen : M.hold.length = M.fs.length
  each : ∀ (i : Nat) (t : Tk), ts[i]? = some t → M.fs[i]? = some t.s.f ∧ t.s.n = M.n ∧ t.s.mode = M.mode ∧ t.s.task = i
  ok : ∀ f, f ∈ M.fs → FrOk f
  n64 : I64 M.n
  few : M.fs.length ≤ 64

def MatchHas (S0 : List Nat) (w0 : World) (m a x hb : Nat) (rs : List Res) (M : Mt) (w : World) : Prop :=
  ∃ (lv : Value) (ts : List Tk), Fit M ts ∧ Has S0 w0 w (.mem m a M.L :: .blk x #[lv, .slice (some ⟨hb, 0, none⟩) M.fs.length M.fs.length] :: .own 36 1 lv M.fs.length (ts.map Tk.ptr) :: .blk hb (i64s M.hold).toArray :: (tksRes m ts ++ rs))

/-- A task's run in front: the match's block and what is held lie behind it. -/
def Opn (S0 : List Nat) (w0 : World) (m a x hb r : Nat) (lv : Value) (k : Nat) (hold : List Int) (rest : List Res) (s : Rn) (w : World) : Prop :=
  RunHas S0 w0 m a r (.blk x #[lv, .slice (some ⟨hb, 0, none⟩) k k] :: .blk hb (i64s hold).toArray :: rest) s w

theorem perm_opn {α : Type} (a b c d e f : α) (P Q : List α) : (a :: b :: c :: d :: (P ++ e :: f :: Q)).Perm (a :: e :: f :: b :: d :: c :: (P ++ Q)) := by
  have h1 : (P ++ e :: f :: Q).Perm (e :: f :: (P ++ Q)) := (List.perm_middle).trans (List.Perm.cons _ List.perm_middle)
  have h2 : (a :: b :: c :: d :: e :: f :: (P ++ Q)).Perm (a :: e :: f :: b :: d :: c :: (P ++ Q)) :=
    (((((perm_front (a :: b :: c :: d :: e :: f :: (P ++ Q)) 2 (by simp)).trans (perm_front (c :: a :: b :: d :: e :: f :: (P ++ Q)) 3 (by simp))).trans (perm_front (d :: c :: a :: b :: e :: f :: (P ++ Q)) 3 (by simp))).trans
      (perm_front (b :: d :: c :: a :: e :: f :: (P ++ Q)) 5 (by simp))).trans (perm_front (f :: b :: d :: c :: a :: e :: (P ++ Q)) 5 (by simp))).trans (perm_front (e :: f :: b :: d :: c :: a :: (P ++ Q)) 5 (by simp))
  exact ((((h1.cons d).cons c).cons b).cons a).trans h2

theorem split_at {α : Type} : ∀ (l : List α) (i : Nat), i < l.length → ∃ p t q, l = p ++ t :: q ∧ p.length = i
  | [], i, h => by simp at h
  | x :: l, 0, _ => ⟨[], x, l, rfl, rfl⟩
  | x :: l, i + 1, h => by
    obtain ⟨p, t, q, rfl, rfl⟩ := split_at l i (by simpa using h)
    exact ⟨x :: p, t, q, rfl, rfl⟩

theorem ptrs_at {w : World} {e n i : Nat} {v : Value} {ts : List Tk} (h : w.ownsRow 0 e 1 v n (ts.map Tk.ptr)) {t : Tk} (hi : ts[i]? = some t) :
    ∃ b off cap, v = .slice (some ⟨b, off, none⟩) n cap ∧ b < w.heap.size ∧ w.cell? ⟨b, off + i, none⟩ = some (.pointer (some ⟨t.r, 0, none⟩)) := by
  obtain ⟨p, cap, rfl⟩ := owns_slice h
  have hr := Rd.own h
  have hl : i < ts.length := by
    rcases Nat.lt_or_ge i ts.length with h1 | h1
    · exact h1
    · rw [List.getElem?_eq_none h1] at hi; cases hi
  have hn : 0 < n := by have := hr.1; rw [List.length_map] at this; omega
  obtain ⟨b, off, rfl, hb, hc⟩ := hr.lit hn (by omega)
  exact ⟨b, off, cap, rfl, hb, hc i _ (by rw [List.getElem?_map, hi]; rfl)⟩

/-- A task's run is taken in front, and laid back. -/
theorem MatchHas.opened {S0 : List Nat} {w0 w : World} {m a x hb : Nat} {rs : List Res} {M : Mt} (H : MatchHas S0 w0 m a x hb rs M w) {i : Nat} (hi : i < M.fs.length) :
    ∃ (r b off cap : Nat) (rest : List Res) (s : Rn), s.f = M.fs.getD i Fr.zero ∧ s.n = M.n ∧ s.mode = M.mode ∧ s.task = i ∧ s.L = M.L ∧
      Opn S0 w0 m a x hb r (.slice (some ⟨b, off, none⟩) M.fs.length cap) M.fs.length M.hold rest s w ∧
      (∀ W s' hold', Opn S0 w0 m a x hb r (.slice (some ⟨b, off, none⟩) M.fs.length cap) M.fs.length hold' rest s' W → b < W.heap.size ∧ W.cell? ⟨b, off + i, none⟩ = some (.pointer (some ⟨r, 0, none⟩))) ∧
      (∀ W s' h', Opn S0 w0 m a x hb r (.slice (some ⟨b, off, none⟩) M.fs.length cap) M.fs.length (M.hold.set i h') rest s' W → FrOk s'.f → s'.n = M.n → s'.mode = M.mode → s'.task = i → MatchHas S0 w0 m a x hb rs (M.put i s'.f h' s'.L) W) := by
  obtain ⟨lv, ts, F, H⟩ := H
  obtain ⟨p, t, q, rfl, hp⟩ := split_at ts i (by rw [F.len]; exact hi)
  have hti : (p ++ t :: q)[i]? = some t := by rw [List.getElem?_append_right (by omega), hp, Nat.sub_self]; rfl
  obtain ⟨b, off, cap, rfl, hbl, hc⟩ := ptrs_at (H.all (.own 36 1 lv M.fs.length ((p ++ t :: q).map Tk.ptr)) (by simp)) hti
  obtain ⟨e1, e2, e3, e4⟩ := F.each i t hti
  obtain ⟨r, s, nv⟩ := t
  have hsplit : ∀ (t' : Tk), tksRes m (p ++ t' :: q) ++ rs = tksRes m p ++ .blk t'.r (rcells m t'.s t'.nv) :: .own 98 4 t'.nv t'.s.notes.length (nts t'.s.notes) :: (tksRes m q ++ rs) := by
    intro t'
    simp [tksRes, Tk.res]
  rw [hsplit] at H
  have H1 := H.perm (perm_opn _ _ _ _ _ _ _ _)
  refine ⟨r, b, off, cap, .own 36 1 (.slice (some ⟨b, off, none⟩) M.fs.length cap) M.fs.length ((p ++ (⟨r, s, nv⟩ : Tk) :: q).map Tk.ptr) :: (tksRes m p ++ (tksRes m q ++ rs)), { s with L := M.L }, ?_, e2, e3, e4, rfl, ⟨nv, H1⟩, ?_, ?_⟩
  · simp only [List.getD, e1]; rfl
  · rintro W s' hold' ⟨nv', H2⟩
    have hown := H2.all (.own 36 1 (.slice (some ⟨b, off, none⟩) M.fs.length cap) M.fs.length ((p ++ (⟨r, s, nv⟩ : Tk) :: q).map Tk.ptr)) (by simp)
    obtain ⟨b', off', cap', hv, hb', hc'⟩ := ptrs_at hown hti
    simp only [Value.slice.injEq, Option.some.injEq, Addr.mk.injEq] at hv
    obtain ⟨⟨rfl, rfl, _⟩, _, rfl⟩ := hv
    exact ⟨hb', hc'⟩
  · rintro W s' h' ⟨nv', H2⟩ hok hn hm ht
    refine ⟨.slice (some ⟨b, off, none⟩) M.fs.length cap, p ++ (⟨r, s', nv'⟩ : Tk) :: q, ⟨?_, ?_, ?_, ?_, F.n64, ?_⟩, ?_⟩
    · have := F.len
      simp only [List.length_append, List.length_cons, Mt.put, List.length_set] at this ⊢
      exact this
    · simp only [Mt.put, List.length_set]; exact F.hlen
    · intro j t' hj
      by_cases hji : j = i
      · subst hji
        rw [List.getElem?_append_right (by omega), hp, Nat.sub_self] at hj
        simp only [List.getElem?_cons_zero, Option.some.injEq] at hj
        subst hj
        refine ⟨?_, hn, hm, ht⟩
        simp only [Mt.put]
        rw [List.getElem?_set_self hi]
      · have hj' : (p ++ (⟨r, s, nv⟩ : Tk) :: q)[j]? = some t' := by
          rcases Nat.lt_or_ge j p.length with h1 | h1
          · rw [List.getElem?_append_left h1] at hj ⊢
            exact hj
          · rw [List.getElem?_append_right h1] at hj ⊢
            obtain ⟨d, hd⟩ : ∃ d, j - p.length = d + 1 := ⟨j - p.length - 1, by omega⟩
            rw [hd] at hj ⊢
            exact hj
        have := F.each j t' hj'
        refine ⟨?_, this.2⟩
        simp only [Mt.put]
        rw [List.getElem?_set_ne (fun e => hji e.symm)]
        exact this.1
    · intro f hf
      rcases List.mem_or_eq_of_mem_set hf with h1 | rfl
      · exact F.ok f h1
      · exact hok
    · simp only [Mt.put, List.length_set]; exact F.few
    · have H3 := H2.perm (perm_opn (.mem m a s'.L) (.blk x #[.slice (some ⟨b, off, none⟩) M.fs.length cap, .slice (some ⟨hb, 0, none⟩) M.fs.length M.fs.length]) (.own 36 1 (.slice (some ⟨b, off, none⟩) M.fs.length cap) M.fs.length ((p ++ (⟨r, s, nv⟩ : Tk) :: q).map Tk.ptr)) (.blk hb (i64s (M.hold.set i h')).toArray) (.blk r (rcells m s' nv')) (.own 98 4 nv' s'.notes.length (nts s'.notes)) (tksRes m p) (tksRes m q ++ rs)).symm
      rw [hsplit ⟨r, s', nv'⟩]
      simp only [Mt.put, List.length_set]
      have he : (p ++ (⟨r, s', nv'⟩ : Tk) :: q).map Tk.ptr = (p ++ (⟨r, s, nv⟩ : Tk) :: q).map Tk.ptr := by simp [Tk.ptr]
      rw [he]
      exact H3

theorem MatchHas.fit {S0 : List Nat} {w0 w : World} {m a x hb : Nat} {rs : List Res} {M : Mt} (H : MatchHas S0 w0 m a x hb rs M w) : M.hold.length = M.fs.length ∧ (∀ f, f ∈ M.fs → FrOk f) ∧ I64 M.n ∧ M.fs.length ≤ 64 := by
  obtain ⟨lv, ts, F, H⟩ := H
  exact ⟨F.hlen, F.ok, F.n64, F.few⟩
theorem MatchHas.words {S0 : List Nat} {w0 w : World} {m a x hb : Nat} {rs : List Res} {M : Mt} (H : MatchHas S0 w0 m a x hb rs M w) : Words M.L := by
  obtain ⟨lv, ts, F, H⟩ := H
  exact H.mem.words
theorem MatchHas.touch {S0 : List Nat} {w0 w : World} {m a x hb : Nat} {rs : List Res} {M : Mt} (H : MatchHas S0 w0 m a x hb rs M w) : Touch S0 w0 w := by
  obtain ⟨lv, ts, F, H⟩ := H
  exact H.touch
theorem MatchHas.grow {w' : World} {S0 : List Nat} {w0 w : World} {m a x hb : Nat} {rs : List Res} {M : Mt} (H : MatchHas S0 w0 m a x hb rs M w) (t : Touch [] w w') : MatchHas S0 w0 m a x hb rs M w' := by
  obtain ⟨lv, ts, F, H⟩ := H
  exact ⟨lv, ts, F, H.grow t⟩
theorem MatchHas.drew {S0 : List Nat} {w0 w : World} {m a x hb : Nat} {rs : List Res} {M : Mt} (H : MatchHas S0 w0 m a x hb rs M w) : MatchHas S0 w0 m a x hb rs M w.drew := by
  obtain ⟨lv, ts, F, H⟩ := H
  exact ⟨lv, ts, F, H.drew⟩
/-- What is held, as a walk reads it. -/
theorem MatchHas.held {S0 : List Nat} {w0 w : World} {m a x hb : Nat} {rs : List Res} {M : Mt} (H : MatchHas S0 w0 m a x hb rs M w) :
    x < w.heap.size ∧ w.cell? ⟨x, 1, none⟩ = some (.slice (some ⟨hb, 0, none⟩) M.fs.length M.fs.length) ∧ hb < w.heap.size ∧ ∀ i, i < M.fs.length → w.cell? ⟨hb, i, none⟩ = some (.int .i64 (M.hold.getD i 0)) := by
  obtain ⟨lv, ts, F, H⟩ := H
  have h1 := H.at_ 1 rfl
  have h3 := H.at_ 3 rfl
  refine ⟨h1.lt, h1.cell 1, h3.lt, fun i hi => ?_⟩
  rw [h3.cell]
  have : i < M.hold.length := by rw [F.hlen]; exact hi
  simp [i64s, List.getD, this]
/-- A block among the rest. -/
theorem MatchHas.behind {S0 : List Nat} {w0 w : World} {m a x hb : Nat} {rs : List Res} {M : Mt} (H : MatchHas S0 w0 m a x hb rs M w) (j : Nat) {b : Nat} {cs : Array Value} (hj : rs[j]? = some (.blk b cs)) : Blk w b cs := by
  obtain ⟨lv, ts, F, H⟩ := H
  have hm := List.mem_of_getElem? hj
  exact H.all _ (by simp only [List.mem_cons, List.mem_append]; exact Or.inr (Or.inr (Or.inr (Or.inr (Or.inr hm)))))
/-- A box more among the rest. -/
theorem MatchHas.box {S0 : List Nat} {w0 w : World} {m a x hb : Nat} {rs : List Res} {M : Mt} (H : MatchHas S0 w0 m a x hb rs M w) {b : Nat} (hb' : w.heap.size = b) (cs : Array Value) (T : TypeId) : MatchHas S0 w0 m a x hb (.blk b cs :: rs) M (w.alloc (.cells cs T)) := by
  obtain ⟨lv, ts, F, H⟩ := H
  refine ⟨lv, ts, F, ?_⟩
  have H1 := (H.new hb' cs T)
  refine H1.perm ?_
  refine List.Perm.trans ?_ (List.Perm.append_left [_, _, _, _] (List.perm_middle (l₁ := tksRes m ts) (l₂ := rs) (a := .blk b cs)).symm)
  exact (perm_past4 _ _ _ _ [.blk b cs] (tksRes m ts ++ rs))

end Go.Proofs.Ytlndihdlodempaa.Z
