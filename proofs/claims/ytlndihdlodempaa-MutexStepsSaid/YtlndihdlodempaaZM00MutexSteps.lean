/- 6 texts of this claim, joined: what each shows stands at its own head. -/
import Derived.Test.YtlndihdlodempaaZHas2
import Derived.Test.YtlndihdlodempaaZRead
import Derived.Deep.AppendLies
import Derived.Deep.RegionLaw
import Derived.Test.YtlndihdlodempaaZRun7
import Derived.Test.YtlndihdlodempaaZMxEnter
import Derived.Test.YtlndihdlodempaaZMxGive
import Derived.Test.YtlndihdlodempaaZMgGive
import Derived.Test.YtlndihdlodempaaZHas3
import Derived.Test.YtlndihdlodempaaZFirst2
import Derived.Test.YtlndihdlodempaaZWake
import Derived.Test.YtlndihdlodempaaZRef06
/- A function's end, where boxes were made in whatever order; append at a step of a region that draws its order. No program is in sight. -/
set_option linter.unusedVariables false
set_option linter.unusedSimpArgs false
namespace Go.Proofs.Ytlndihdlodempaa.Z
open Go Go.RowKit

/-- The second thing is a block that has turned; the boxes behind it are left. -/
theorem Has.fin {S0 : List Nat} {w0 w w' : World} {y : Res} {x : Nat} {cs cs' : Array Value} (ys : List Res) {rs : List Res} (h : Has S0 w0 w (y :: .blk x cs :: (ys ++ rs))) (t : Touch (x :: foots ys) w w') (hb : Blk w' x cs') :
    Has S0 w0 w' (y :: .blk x cs' :: rs) := by
  have h1 : Has S0 w0 w ((.blk x cs :: ys) ++ (y :: rs)) := h.perm ((List.Perm.swap _ _ _).trans (List.Perm.cons _ List.perm_middle.symm))
  have h2 := Has.upd (xs := .blk x cs :: ys) (rs := y :: rs) [.blk x cs'] (S := x :: foots ys) h1 t (fun k hk => Or.inl (by simpa [foots, Res.foot] using hk)) (by intro r hr; simp only [List.mem_singleton] at hr; subst hr; exact hb) (by simp) (by simp [foots, Res.foot])
  exact h2.swap

/-- A new empty slice that is owned, first. -/
theorem Has.ownNew {S0 : List Nat} {w0 w : World} {rs : List Res} (h : Has S0 w0 w rs) {b : Nat} (hb : w.heap.size = b) (e size : Nat) : Has S0 w0 (w.alloc (.cells #[] e)) (.own e size (.slice (some ⟨b, 0, none⟩) 0 0) 0 [] :: rs) := by
  subst hb
  refine Has.upd (xs := []) (rs := rs) [.own e size (.slice (some ⟨w.heap.size, 0, none⟩) 0 0) 0 []] (S := []) h ((Touch.refl [] w).alloc _) (by simp) ?_ (by simp) ?_
  · intro r hr
    simp only [List.mem_singleton] at hr
    subst hr
    refine ⟨by simp, .inr ⟨w.heap.size, 0, #[], rfl, Nat.zero_le _, ?_, Nat.le_refl _, by decide, by simp, by simp⟩⟩
    show (w.heap.push _)[w.heap.size]? = _
    simp
  · intro r hr k hk
    simp only [List.mem_singleton] at hr
    subst hr
    simp only [Res.foot, Value.ownBlock, Option.toList, List.mem_singleton] at hk
    exact Or.inr (by omega)

theorem Blk.setNe2 {w : World} {b : Nat} {cs : Array Value} {p : Addr} {v : Value} (hne : b ≠ p.block) (h : Blk w b cs) : Blk (w.setCell p v) b cs := h.setNe hne v

/-- A note was appended: the run's block tells of the new slice. -/
theorem Has.noteEnd {S0 : List Nat} {w0 w : World} {o n r d : Res} {x : Nat} {cs : Array Value} {rs : List Res} (h : Has S0 w0 w (o :: n :: r :: .blk x cs :: d :: rs)) (i : Nat) (v : Value) :
    Has S0 w0 (w.setCell ⟨x, i, none⟩ v) (r :: .blk x (cs.setIfInBounds i v) :: o :: rs) := by
  have h1 := h.set3 i v
  have h2 : Has S0 w0 (w.setCell ⟨x, i, none⟩ v) (o :: n :: r :: .blk x (cs.setIfInBounds i v) :: rs) := (h1.perm (perm_front _ 4 (by simp))).tail
  have h3 : Has S0 w0 (w.setCell ⟨x, i, none⟩ v) (o :: r :: .blk x (cs.setIfInBounds i v) :: rs) := h2.drop1
  exact h3.swap.perm (List.Perm.cons _ (List.Perm.swap _ _ _))

theorem Has.own0 {S0 : List Nat} {w0 w : World} {e size n : Nat} {v : Value} {xs : List Value} {rs : List Res} (h : Has S0 w0 w (.own e size v n xs :: rs)) : w.ownsRow 0 e size v n xs := h.all (.own e size v n xs) (by simp)
theorem Has.ownAt {S0 : List Nat} {w0 w : World} {e size n : Nat} {v : Value} {xs : List Value} {rs : List Res} (h : Has S0 w0 w rs) (i : Nat) (hi : rs[i]? = some (.own e size v n xs)) : w.ownsRow 0 e size v n xs := h.all _ (List.mem_of_getElem? hi)

section
variable {P : Program} {w : World}
theorem wp_append_rd {o : Oper} {a : Act} {K : Act → World → Prop} {Q : Exit → Act → World → Prop} (s x : Operand) (t : TypeId)
    (ho : o.op = .call { callee := .builtin .append, args := #[s, x], argTypes := #[t, t] })
    (base : Nat) (e : TypeId) (i : TypeInfo) (z : Value) (size bytes : Nat) (ht : P.underlying t = some (.slice e)) (hi : P.info? e = some i) (hz : i.zero = some z)
    (hsize : i.size = size) (hby : i.bytes = bytes) (hzs : z.cells.size = size) (hsz : 0 < size)
    (v : Value) (n : Nat) (xs : List Value) (hs : a.eval s = v) (hown : w.ownsRow base e size v n xs)
    (A : Option Addr) (m c : Nat) (news : List Value) (hx : a.eval x = .slice A m c) (hr : Rd w size A m news) (h1 : ∀ u ∈ news, u.oneCell' = true)
    (h63 : n + m ≤ maxLen) (hbytes : (n + m) * bytes ≤ 140737488355328) (hbase : base ≤ w.heap.size)
    (h : ∀ v' w', w'.ownsRow base e size v' (n + m) (xs ++ news) → w.grownBy w' v.ownBlock → (v'.ownBlock = v.ownBlock ∨ v'.ownBlock = some w.heap.size) → K (a.put o.dst v') w') : Oper.wp P o a w K Q := by
  obtain ⟨v', w', hrun, h2, h3, h4⟩ := run_append_rd (P := P) w base t o.type e i z size bytes ht hi hz hsize hby hzs hsz v n xs hown A m c news hr h1 h63 hbytes hbase
  unfold Oper.wp execOp
  simp only [ho, resolve, invoke, builtin, Sem.run_bind, Sem.run_pure, Result.andThen_ok, List.map_toArray, List.map_cons, List.map_nil, hs, hx, hrun]
  exact h v' w' h2 h3 h4

theorem step_append_rd {ops : Array Oper} {o : Oper} {a : Act} {K : Act → World → Prop} {Q : Exit → Act → World → Prop} {E : Prop} (hgd : o.guard = none) (s x : Operand) (t : TypeId)
    (ho : o.op = .call { callee := .builtin .append, args := #[s, x], argTypes := #[t, t] })
    (base : Nat) (e : TypeId) (i : TypeInfo) (z : Value) (size bytes : Nat) (ht : P.underlying t = some (.slice e)) (hi : P.info? e = some i) (hz : i.zero = some z)
    (hsize : i.size = size) (hby : i.bytes = bytes) (hzs : z.cells.size = size) (hsz : 0 < size)
    (v : Value) (n : Nat) (xs : List Value) (hs : a.eval s = v) (hown : w.ownsRow base e size v n xs)
    (A : Option Addr) (m c : Nat) (news : List Value) (hx : a.eval x = .slice A m c) (hr : Rd w size A m news) (h1 : ∀ u ∈ news, u.oneCell' = true)
    (h63 : n + m ≤ maxLen) (hbytes : (n + m) * bytes ≤ 140737488355328) (hbase : base ≤ w.heap.size)
    (h : ∀ v' w', w'.ownsRow base e size v' (n + m) (xs ++ news) → w.grownBy w' v.ownBlock → (v'.ownBlock = v.ownBlock ∨ v'.ownBlock = some w.heap.size) → K (a.put o.dst v') w') :
    if Region.wanted o (yielded ops a.tmps) = true then Oper.wp P o a w K Q else E := by
  have hw : Region.wanted o (yielded ops a.tmps) = true := by simp [Region.wanted, hgd]
  rw [if_pos hw]
  exact wp_append_rd s x t ho base e i z size bytes ht hi hz hsize hby hzs hsz v n xs hs hown A m c news hx hr h1 h63 hbytes hbase h
end

end Go.Proofs.Ytlndihdlodempaa.Z

/- A lock's operation by itself: steps of a run, counted. No program is in sight but the model's words. -/
set_option linter.unusedVariables false
set_option linter.unusedSimpArgs false
namespace Go.Proofs.Ytlndihdlodempaa.Z
open Go.RowKit

/-- A step under these lines. -/
def stepR (g : Rn → Rn) (s : Rn) : Rn := if s.f.wk.on then s.woke else g s.fresh
/-- So many steps at most: the result, and the run then. -/
def aloneA (g : Rn → Rn) : Nat → Rn → Int × Rn
  | 0, s => (0, s)
  | k + 1, s => if (stepR g s).over then ((stepR g s).f.ret, stepR g s) else aloneA g k (stepR g s)
def start (n mode op : Int) (L : List Int) : Rn := ⟨n, mode, 0, ⟨op, 0, 0, 0, 0, Wk.zero, 0⟩, Acc.zero, [], L⟩

/-- A frame whose kept words are words. -/
def Rn.ok (s : Rn) : Prop := I64 s.n ∧ (0 ≤ s.f.a ∧ s.f.a < 4294967296) ∧ (0 ≤ s.f.b ∧ s.f.b < 4294967296)
theorem start_ok {n : Int} (hn : I64 n) (mode op : Int) (L : List Int) : (start n mode op L).ok := ⟨hn, by simp [start], by simp [start]⟩
theorem woke_ok {s : Rn} (h : s.ok) : s.woke.ok := h
theorem fresh_ok {s : Rn} (h : s.ok) : s.fresh.ok := h

/-- Words in which nobody watches the cell c. -/
def NoWatch (n : Int) (c : Int) (L : List Int) : Prop := ∀ i, 0 ≤ i → i < n → (doA L ⟨1, cellP n 2 i, 0, 0, 0⟩).2.1 = true ∧ (doA L ⟨1, cellP n 2 i, 0, 0, 0⟩).1.old ≠ (c + 1) % 4294967296

theorem woke_calm {s : Rn} {c i : Int} (hw : s.f.wk = ⟨true, c, i, false⟩) (h0 : 0 ≤ i) (h1 : i < s.n) (hc : NoWatch s.n c s.L) :
    s.woke.L = s.L ∧ s.woke.f = { s.f with wk := if s.n ≤ i + 1 then Wk.zero else ⟨true, c, i + 1, false⟩ } ∧ s.woke.notes = [] ∧ s.woke.n = s.n ∧ s.woke.mode = s.mode ∧ s.woke.task = s.task := by
  obtain ⟨h2, h3⟩ := hc i h0 h1
  have e : wakeA s.L s.n s.f.wk = (nextA s.n ⟨true, c, i, false⟩, (doA s.L ⟨1, cellP s.n 2 i, 0, 0, 0⟩).1, s.L) := by
    rw [hw]
    unfold wakeA
    simp only [if_true, Bool.false_eq_true, if_false]
    rw [if_pos h2, if_neg h3]
  unfold Rn.woke
  rw [e]
  refine ⟨rfl, ?_, rfl, rfl, rfl, rfl⟩
  show { s.f with wk := nextA s.n ⟨true, c, i, false⟩ } = _
  unfold nextA
  rfl

/-- The run behind a wake-up that finds nobody: only its access and its notes may differ. -/
def Rn.rests (s : Rn) : Rn := { s with f := { s.f with wk := Wk.zero }, acc := Acc.zero, notes := [] }

/-- A wake-up that finds nobody, within an operation: behind it the steps go on. -/
theorem alone_wakes (g : Rn → Rn) (c : Int) : ∀ (d : Nat) (s : Rn) (i : Int) (most : Nat), s.f.wk = ⟨true, c, i, false⟩ → 0 ≤ i → i + d = s.n → 1 ≤ d → NoWatch s.n c s.L → d ≤ most →
    ∃ s', s'.fresh = s.rests ∧ s'.f.wk.on = false ∧ s'.L = s.L ∧ s'.f.ret = s.f.ret ∧ ((s.f.ret ≠ 0 → aloneA g most s = (s.f.ret, s')) ∧ (s.f.ret = 0 → aloneA g most s = aloneA g (most - d) s')) := by
  intro d
  induction d with
  | zero => intro s i most hw h0 h1 h2; omega
  | succ d ih =>
    intro s i most hw h0 h1 _ hc hm
    obtain ⟨e1, e2, e3, e4, e5, e6⟩ := woke_calm hw h0 (by omega) hc
    have hst : stepR g s = s.woke := by unfold stepR; rw [hw]; rfl
    obtain ⟨most, rfl⟩ : ∃ j, most = j + 1 := ⟨most - 1, by omega⟩
    by_cases hd : d = 0
    · subst hd
      rw [if_pos (by omega)] at e2
      refine ⟨s.woke, ?_, by rw [e2]; rfl, e1, by rw [e2], fun hr => ?_, fun hr => ?_⟩
      · unfold Rn.fresh Rn.rests
        rw [e1, e2, e4, e5, e6]
      · show (if (stepR g s).over then ((stepR g s).f.ret, stepR g s) else aloneA g most (stepR g s)) = _
        rw [hst, if_pos (by unfold Rn.over; rw [e2]; simpa [Wk.zero] using hr), e2]
      · show (if (stepR g s).over then ((stepR g s).f.ret, stepR g s) else aloneA g most (stepR g s)) = _
        rw [hst, if_neg (by unfold Rn.over; rw [e2]; simp [hr])]
        rfl
    · rw [if_neg (by omega)] at e2
      obtain ⟨s', k1, k2, k3, k4, k5, k6⟩ := ih s.woke (i + 1) most (by rw [e2]) (by omega) (by rw [e4]; omega) (by omega) (by rw [e4, e1]; exact hc) (by omega)
      have er : s.woke.f.ret = s.f.ret := by rw [e2]
      have hgo : aloneA g (most + 1) s = aloneA g most s.woke := by
        show (if (stepR g s).over then ((stepR g s).f.ret, stepR g s) else aloneA g most (stepR g s)) = _
        rw [hst, if_neg (by unfold Rn.over; rw [e2]; simp)]
      refine ⟨s', ?_, k2, k3.trans e1, k4.trans er, fun hr => ?_, fun hr => ?_⟩
      · rw [k1]
        unfold Rn.rests
        rw [e1, e2, e4, e5, e6]
      · rw [hgo, k5 (by rw [er]; exact hr), er]
      · rw [hgo, k6 (by rw [er]; exact hr)]
        congr 1
        omega

/-- Operations one after the other, each by itself: all end with true. -/
def Runs (g : Rn → Rn) (n mode : Int) (most : Nat) : List Int → List Int → List Int → Prop
  | [], L, L' => L = L'
  | o :: os, L, L' => ∃ s, aloneA g most (start n mode o L) = (2, s) ∧ Runs g n mode most os s.L L'

/-- What is kept is words; ten notes more at most. -/
def Fine (s0 s' : Rn) : Prop := (I64 s'.n ∧ (0 ≤ s'.f.a ∧ s'.f.a < 4294967296) ∧ (0 ≤ s'.f.b ∧ s'.f.b < 4294967296)) ∧ s'.notes.length ≤ s0.notes.length + 10
theorem fine_mk {s0 s' : Rn} (h : (I64 s'.n ∧ (0 ≤ s'.f.a ∧ s'.f.a < 4294967296) ∧ (0 ≤ s'.f.b ∧ s'.f.b < 4294967296)) ∧ s'.notes.length ≤ s0.notes.length + 10) : Fine s0 s' := h

theorem Has.ownNil {S0 : List Nat} {w0 w : World} {rs : List Res} (h : Has S0 w0 w rs) (e size : Nat) : Has S0 w0 w (.own e size (.slice none 0 0) 0 [] :: rs) :=
  Has.upd (xs := []) (rs := rs) [.own e size (.slice none 0 0) 0 []] (S := []) h (Touch.refl _ _) (by simp) (by simp [Res.holds]; exact ⟨by simp, .inl ⟨rfl, rfl⟩⟩) (by simp) (by simp [Res.foot, Value.ownBlock])

/-- A new run. -/
theorem RunHas.fresh_ {S0 : List Nat} {w0 w : World} {m a : Nat} {rs : List Res} (s : Rn) (H : Has S0 w0 w (.mem m a s.L :: rs)) (hn : s.notes = []) (T : TypeId) :
    RunHas S0 w0 m a w.heap.size rs s (w.alloc (.cells (rcells m s (.slice none 0 0)) T)) := by
  refine ⟨.slice none 0 0, ?_⟩
  rw [hn]
  exact (H.al1).own_nil _ _

/-- More is appended to what is owned, fourth in the list. -/
theorem Has.grown4 {S0 : List Nat} {w0 w w' : World} {x y z : Res} {e size n m : Nat} {v v' : Value} {xs ys : List Value} {rs : List Res} (h : Has S0 w0 w (x :: y :: z :: .own e size v n xs :: rs)) (hown : w'.ownsRow 0 e size v' m ys) (hg : w.grownBy w' v.ownBlock)
    (hat : v'.ownBlock = v.ownBlock ∨ v'.ownBlock = some w.heap.size) : Has S0 w0 w' (x :: y :: z :: .own e size v' m ys :: rs) :=
  ((h.perm (perm_past3 x y z [_] rs).symm).grown hown hg hat).perm (perm_past3 x y z [_] rs)

/-- What an operation by itself tells. -/
def AloneEnd (S0 : List Nat) (w0 : World) (m a : Nat) (rs : List Res) (R : Int × Rn) (e : Ending) (w' : World) : Prop :=
  ∃ v, e = .returned (.tuple #[.int .i64 R.1, v]) ∧ Has S0 w0 w' (.mem m a R.2.L :: rs)

end Go.Proofs.Ytlndihdlodempaa.Z

/- Package mutex: what a line keeps. Written by genmxfine.py. -/
set_option linter.unusedVariables false
set_option linter.unusedSimpArgs false
namespace Go.Proofs.Ytlndihdlodempaa.Z
open Go.RowKit

theorem keep_fine {s : Rn} (hw : Words s.L) {n mode task st c : Int} {p : Int → Bool} (h2 : 0 ≤ s.f.a ∧ s.f.a < 4294967296) : 0 ≤ (s.keep (waitA s.L n mode task st c p)).f.a ∧ (s.keep (waitA s.L n mode task st c p)).f.a < 4294967296 := by
  unfold Rn.keep
  split
  · rcases stageA_is mode st with e | e | e | e | e
    · rw [waitA0 e]; exact doA_old s.L hw _
    · rw [waitA1 e]; exact doA_old s.L hw _
    · rw [waitA2 e]; exact doA_old s.L hw _
    · rename_i h; rw [waitA3 e] at h; cases h
    · rw [waitA4 e]; exact doA_old s.L hw _
  · exact h2
theorem keep_rest (s : Rn) (R : WaitR) : (s.keep R).n = s.n ∧ (s.keep R).f.b = s.f.b ∧ (s.keep R).notes = s.notes := by
  unfold Rn.keep
  split <;> exact ⟨rfl, rfl, rfl⟩

/-- Whose run it is stays; what is kept is words; so many notes more at most. -/
def FK (k : Nat) (s s' : Rn) : Prop := (s'.n = s.n ∧ s'.mode = s.mode ∧ s'.task = s.task) ∧ ((0 ≤ s'.f.a ∧ s'.f.a < 4294967296) ∧ (0 ≤ s'.f.b ∧ s'.f.b < 4294967296)) ∧ s'.notes.length ≤ s.notes.length + k
section
variable {k : Nat} {s s' : Rn}
theorem FK.refl (h : (0 ≤ s.f.a ∧ s.f.a < 4294967296) ∧ (0 ≤ s.f.b ∧ s.f.b < 4294967296)) : FK 0 s s := ⟨⟨rfl, rfl, rfl⟩, h, Nat.le_refl _⟩
theorem FK.goto (h : FK k s s') (l : Int) : FK k s (s'.goto l) := h
theorem FK.fin (h : FK k s s') (b : Bool) : FK k s (s'.fin b) := h
theorem FK.wake (h : FK k s s') (c : Int) : FK k s (s'.wake c) := h
theorem FK.did (h : FK k s s') (R : Acc × Bool × List Int) : FK k s (s'.did R) := h
theorem FK.waited (h : FK k s s') (R : WaitR) : FK k s (s'.waited R) := h
theorem FK.setA (h : FK k s s') {v : Int} (hv : 0 ≤ v ∧ v < 4294967296) : FK k s (s'.setA v) := ⟨h.1, ⟨hv, h.2.1.2⟩, h.2.2⟩
theorem FK.setB (h : FK k s s') {v : Int} (hv : 0 ≤ v ∧ v < 4294967296) : FK k s (s'.setB v) := ⟨h.1, ⟨h.2.1.1, hv⟩, h.2.2⟩
theorem FK.note (h : FK k s s') (x y : Int) : FK (k + 1) s (s'.note x y) := ⟨h.1, h.2.1, by have := h.2.2; simp [Rn.note]; omega⟩
theorem FK.more (h : FK k s s') {j : Nat} (hj : k ≤ j) : FK j s s' := ⟨h.1, h.2.1, Nat.le_trans h.2.2 (Nat.add_le_add_left hj _)⟩
theorem FK.noted (h : FK k s s') (l : List Int) : FK (k + l.length) s (s'.noted l) := by
  induction l generalizing s' k with
  | nil => exact h
  | cons x l ih => exact (ih (h.note x 0)).more (by simp; omega)
theorem FK.keep (h : FK k s s') (hw : Words s'.L) (n mode task st c : Int) (p : Int → Bool) : FK k s (s'.keep (waitA s'.L n mode task st c p)) := by
  have h1 := keep_fine (s := s') hw (n := n) (mode := mode) (task := task) (st := st) (c := c) (p := p) h.2.1.1
  have h2 := keep_rest s' (waitA s'.L n mode task st c p)
  unfold Rn.keep at h1 h2 ⊢
  split
  · rename_i hs
    rw [if_pos hs] at h1
    exact h.setA h1
  · exact h
end
variable {s : Rn}
theorem mxEnter_fk (tail cls : Int) (hw : Words s.L) (h : (0 ≤ s.f.a ∧ s.f.a < 4294967296) ∧ (0 ≤ s.f.b ∧ s.f.b < 4294967296)) : FK 1 s (mxEnter tail cls s).2 := by
  have R := FK.refl h
  have hold := fun b => doA_old s.L hw b
  unfold mxEnter
  split
  · exact ((R.did _).goto _).more (by decide)
  split
  · exact ((R.did _).goto _).more (by decide)
  split
  · unfold mxE2
    dsimp only
    split
    · exact ((R.did _).setA (hold _)).note _ _
    · exact (((R.did _).setA (hold _)).note _ _).goto _
  split
  · exact (((R.did _).wake _).goto _).more (by decide)
  split
  · exact (R.waited _).more (by decide)
  · exact R.more (by decide)
theorem mxTry_fk (tail : Int) (h : (0 ≤ s.f.a ∧ s.f.a < 4294967296) ∧ (0 ≤ s.f.b ∧ s.f.b < 4294967296)) : FK 0 s (mxTry tail s).2.2 := by
  have R := FK.refl h
  unfold mxTry
  split
  · exact (R.did _).goto _
  split
  · exact R.did _
  · exact R
theorem mxGive_fk (tail q : Int) (nl : List Int) (hw : Words s.L) (h : (0 ≤ s.f.a ∧ s.f.a < 4294967296) ∧ (0 ≤ s.f.b ∧ s.f.b < 4294967296)) : FK nl.length s (mxGive tail q nl s).2 := by
  have R := FK.refl h
  have hold := fun b => doA_old s.L hw b
  unfold mxGive
  split
  · unfold mxG0
    dsimp only
    split
    · exact (((R.did _).setA (hold _)).goto _).more (Nat.zero_le _)
    · exact (((R.did _).setA (hold _)).goto _).more (Nat.zero_le _)
  split
  · unfold mxG1
    split
    · exact ((R.did _).noted nl).more (by omega)
    · exact ((R.did _).goto _).more (Nat.zero_le _)
  split
  · unfold mxG2
    dsimp only
    split
    · exact (((R.keep hw _ _ _ _ _ _).waited _).goto _).more (Nat.zero_le _)
    · exact ((R.keep hw _ _ _ _ _ _).waited _).more (Nat.zero_le _)
  split
  · exact (((R.did _).noted nl).wake _).more (by omega)
  · exact R.more (Nat.zero_le _)
end Go.Proofs.Ytlndihdlodempaa.Z

/- Law 12: the document's example. -/
set_option linter.unusedVariables false
set_option linter.unusedSimpArgs false
namespace Go.Proofs.Ytlndihdlodempaa.Z
open Go.RowKit
attribute [local go_sem ↓] Go.wp_at_zero Go.wp_at_succ

/-- So many lines of entering; of giving on. -/
def in12 (s : Rn) : Nat → Bool × Rn
  | 0 => (false, s)
  | k + 1 => mxEnter 0 1 (in12 s k).2
def out12 (s : Rn) : Nat → Bool × Rn
  | 0 => (false, s)
  | k + 1 => mxGive 0 6 [] (out12 s k).2
def ok12 (s : Rn) : Bool := decide (s.n = 1) && decide (0 ≤ s.f.a) && decide (s.f.a < 4294967296) && decide (s.notes.length ≤ 100)
theorem ok12_is {s : Rn} (h : ok12 s = true) : I64 s.n ∧ (0 ≤ s.f.a ∧ s.f.a < 4294967296) ∧ s.notes.length ≤ 100 := by
  unfold ok12 at h
  simp only [Bool.and_eq_true, decide_eq_true_eq] at h
  obtain ⟨⟨⟨h1, h2⟩, h3⟩, h4⟩ := h
  exact ⟨by unfold I64; omega, ⟨h2, h3⟩, h4⟩
def first12 : Rn := start 1 1 0 (own4 0 ++ List.replicate ((8 + 4 * (1 : Int)).toNat - 2) 0)
def second12 : Rn := (in12 first12 3).2.goto 6
theorem awake12_pure : ok12 (in12 first12 0).2 = true ∧ ok12 (in12 first12 1).2 = true ∧ ok12 (in12 first12 2).2 = true ∧ (in12 first12 3).1 = true ∧ ok12 (out12 second12 0).2 = true ∧ ok12 (out12 second12 1).2 = true ∧ (out12 second12 2).1 = true ∧ ldA (out12 second12 2).2.L 0 = 0 := by
  decide +kernel

theorem RunHas.line {S0 : List Nat} {w0 w : World} {m a r : Nat} {rs : List Res} {s : Rn} (H : RunHas S0 w0 m a r rs s w) (v : Int) : RunHas S0 w0 m a r rs (s.goto v) (w.setCell ⟨r, 5, none⟩ (.int .i64 v)) := by
  obtain ⟨nv, H⟩ := H
  exact ⟨nv, H.set1 5 (.int .i64 v)⟩

set_option maxHeartbeats 1600000 in
set_option maxRecDepth 100000 in
theorem mx_awake (w : World) : Calls Try.prog 25 #[] w fun e w' => e = .returned (.bool true) ∧ Touch [] w w' := by
  have hp := awake12_pure
  have hf := fun W => first4 1 0 W (by decide) (by decide)
  obtain ⟨s0, hs0⟩ : ∃ s0, first12 = s0 := ⟨_, rfl⟩
  have hL : own4 0 ++ List.replicate ((8 + 4 * (1 : Int)).toNat - 2) 0 = s0.L := by rw [← hs0]; rfl
  have hsn : s0.notes = [] := by rw [← hs0]; rfl
  have hsc : ∀ m nv, rcells m s0 nv = rcells m (start 1 1 0 []) nv := fun m nv => by rw [← hs0]; rfl
  obtain ⟨s6, hs6⟩ : ∃ s6, second12 = s6 := ⟨_, rfl⟩
  have h6 : s6 = (in12 s0 3).2.goto 6 := by rw [← hs6, ← hs0]; rfl
  rw [hs6, hs0] at hp
  rw [hL] at hf
  obtain ⟨p0, p1, p2, p3, q0, q1, q2, q3⟩ := hp
  have HF := Lib.hid hf
  have HP := Lib.hid (show ∀ k : Nat, k < 3 → ok12 (in12 s0 k).2 = true from fun k hk => by
    rcases (show k = 0 ∨ k = 1 ∨ k = 2 by omega) with rfl | rfl | rfl <;> assumption)
  have HQ := Lib.hid (show ∀ k : Nat, k < 2 → ok12 (out12 s6 k).2 = true from fun k hk => by
    rcases (show k = 0 ∨ k = 1 by omega) with rfl | rfl <;> assumption)
  have HP3 := Lib.hid p3
  have HQ2 := Lib.hid q2
  have HQ3 := Lib.hid q3
  have HS6 := Lib.hid h6
  have HSC := Lib.hid hsc
  clear hf hL hs0 hs6 p0 p1 p2 p3 q0 q1 q2 q3 h6 hsc
  go_enter Try.func25, Try.ntmps25
  go_wp2_with fail
  refine (HF.out _).mono ?_
  rintro e w1 h1
  obtain ⟨p, g, cap, rfl, H1⟩ := has_newwords (Has.start [] w) h1
  clear h1
  go_wp2_with fail
  refine (fromRow_has H1 rfl).mono ?_
  rintro e w2 ⟨m, a, rfl, H2⟩
  clear H1
  go_wp2_with fail
  have H3 := RunHas.fresh_ s0 H2 hsn 43
  rw [HSC.out] at H3
  refine wp_from (Facts := fun W => RunHas [] w m a w2.heap.size (.row p g cap s0.L :: []) s0 W) ?_ H3
  clear H3 H2
  intro W H3
  generalize w2.heap.size = r at H3 ⊢
  have HH := Lib.hid H3
  clear H3
  go_loopw [6, 8] (fun b i wr => ∃ k : Nat, k ≤ 3 ∧ i = .int .i64 k ∧ b = .bool (in12 s0 k).1 ∧ RunHas [] w m a r (.row p g cap s0.L :: []) (in12 s0 k).2 wr) (fun _ i _ => 3 - (intOf i).toNat)
  case atStart => exact ⟨0, Nat.zero_le _, rfl, rfl, HH.out⟩
  case round =>
    obtain ⟨k, hk, rfl, rfl, hH⟩ := hrel
    have HK := Lib.hid hH
    clear hH
    by_cases hlt : k < 3
    · obtain ⟨k1, k2, k3⟩ := ok12_is (HP.out k hlt)
      have HE := Lib.hid (mx_enter HK.out 0 1 k1 k2 (by omega))
      clear k1 k2 k3
      have hi : (k : Int) < 3 := by omega
      go_wp2_with fail
      refine (HE.out).mono ?_
      rintro e w3 ⟨rfl, H4⟩
      go_wp2_with fail
      exact ⟨⟨k + 1, by omega, by go_num, rfl, H4⟩, by simp [intOf]; omega⟩
    · have hkn : k = 3 := by omega
      have e3 : (in12 s0 k).1 = true := by rw [hkn]; exact HP3.out
      have e6 : (in12 s0 k).2.goto 6 = s6 := by rw [hkn]; exact HS6.out.symm
      rw [e3]
      have H5 := HK.out.line 6
      obtain ⟨z0, z2, z4, z5, z6, z7⟩ := HK.out.facts rfl rfl rfl rfl
      rw [e6] at H5
      have hi : (3 : Int) ≤ (k : Int) := by omega
      clear hlt hk hkn e3 e6
      go_wp2_with fail
      refine wp_from (Facts := fun W => RunHas [] w m a r (.row p g cap s0.L :: []) s6 W) ?_ H5
      clear H5 HK z0 z2 z4 z5 z6 z7
      intro W2 H6
      have HJ := Lib.hid H6
      clear H6
      go_loopw [7, 9] (fun b i wr => ∃ k : Nat, k ≤ 2 ∧ i = .int .i64 k ∧ b = .bool (out12 s6 k).1 ∧ RunHas [] w m a r (.row p g cap s0.L :: []) (out12 s6 k).2 wr) (fun _ i _ => 2 - (intOf i).toNat)
      case atStart => exact ⟨0, Nat.zero_le _, rfl, rfl, HJ.out⟩
      case round =>
        obtain ⟨k, hk, rfl, rfl, hH⟩ := hrel
        have HK := Lib.hid hH
        clear hH
        by_cases hlt : k < 2
        · obtain ⟨k1, k2, k3⟩ := ok12_is (HQ.out k hlt)
          have HE := Lib.hid (mg_give (A := none) (nn := 0) (c := 0) (nl := []) 0 6 rfl (by decide) (fun W s' xs _ => Rd.nil _ _ _) (by simp; omega) HK.out k1 k2)
          clear k1 k2 k3
          have hi : (k : Int) < 2 := by omega
          go_wp2_with fail
          refine (HE.out).mono ?_
          rintro e w3 ⟨rfl, H4⟩
          go_wp2_with fail
          exact ⟨⟨k + 1, by omega, by go_num, rfl, H4⟩, by simp [intOf]; omega⟩
        · have hkn : k = 2 := by omega
          have e2 : (out12 s6 k).1 = true := by rw [hkn]; exact HQ2.out
          rw [e2]
          obtain ⟨nv, H7⟩ := HK.out
          have hld := load_has H7 0
          rw [show ldA (out12 s6 k).2.L 0 = 0 by rw [hkn]; exact HQ3.out] at hld
          have HLD := Lib.hid hld
          have hi : (2 : Int) ≤ (k : Int) := by omega
          clear hlt hk hld hkn e2
          go_wp2_with fail
          refine (HLD.out).mono ?_
          rintro e w5 ⟨rfl, H8⟩
          go_wp2_with fail
          go_ret
          exact ⟨by simp, H8.touch⟩

end Go.Proofs.Ytlndihdlodempaa.Z

/- The document's answer for wake-ups: a step. -/
set_option linter.unusedVariables false
set_option linter.unusedSimpArgs false
namespace Go.Proofs.Ytlndihdlodempaa.Z
open Go.RowKit

theorem rgive_has {S0 : List Nat} {w0 w : World} {p : Option Addr} {g cap : Nat} {L : List Int} {rs : List Res} (H : Has S0 w0 w (.row p g cap L :: rs)) (n i : Int) :
    Calls Try.prog 130 #[.slice p L.length cap, .int .i64 n, .int .i64 i] w
      fun e w' => e = .returned (.tuple #[.agg (giveA L n i).1.cells, .bool (giveA L n i).2.1]) ∧ Has S0 w0 w' (.row p g cap (giveA L n i).2.2 :: rs) :=
  (rgive_any H.row H.cap.1 H.cap.2 n i).mono fun e w' ⟨he, hM, t⟩ => ⟨he, H.wordsRow hM (doA_length _ _) t⟩

theorem rdo_has {S0 : List Nat} {w0 w : World} {p : Option Addr} {g cap : Nat} {L : List Int} {rs : List Res} (H : Has S0 w0 w (.row p g cap L :: rs)) (b : Acc) (hx : 0 ≤ b.x ∧ b.x < 4294967296) (hy : 0 ≤ b.y ∧ b.y < 4294967296) :
    Calls Try.prog 131 #[.slice p L.length cap, .agg b.cells] w
      fun e w' => e = .returned (.tuple #[.agg (doA L b).1.cells, .bool (doA L b).2.1]) ∧ Has S0 w0 w' (.row p g cap (doA L b).2.2 :: rs) :=
  (rdo_any H.row H.cap.1 H.cap.2 b hx hy).mono fun e w' ⟨he, hM, t⟩ => ⟨he, H.wordsRow hM (doA_length _ _) t⟩

theorem rbegin_any (mode c : Int) (w : World) : Calls Try.prog 135 #[.int .i64 mode, .int .i64 c] w fun e w' => e = .returned (.agg (beginA mode c).cells) ∧ Touch [] w w' := by
  by_cases h : mode = 2
  · subst h
    simp only [beginA, if_true, Wk.cells]
    go_enter Try.func135, Try.ntmps135
    go_wp2
    refine bodyPost_ret (v := .agg #[.bool true, .int .i64 c, .int .i64 0, .bool false]) (by simp [results, Try.results135, go_sem]) rfl ⟨rfl, ?_⟩
    repeat (first | with_reducible exact Touch.refl _ _ | with_reducible apply Touch.alloc | with_reducible refine Touch.setNew ?_ (by simp) _)
  · rw [show beginA mode c = Wk.zero from if_neg h]
    have h' : (mode == 2) = false := by simpa using h
    clear h
    simp only [Wk.cells, Wk.zero]
    go_enter Try.func135, Try.ntmps135
    go_wp2
    refine bodyPost_ret (v := .agg #[.bool false, .int .i64 0, .int .i64 0, .bool false]) (by simp [results, Try.results135, go_sem]) rfl ⟨rfl, ?_⟩
    repeat (first | with_reducible exact Touch.refl _ _ | with_reducible apply Touch.alloc | with_reducible refine Touch.setNew ?_ (by simp) _)

set_option maxHeartbeats 1600000 in
theorem rwake_off {S0 : List Nat} {w0 w : World} {rs : List Res} (H : Has S0 w0 w rs) (sl : Value) (n cell i : Int) (hit : Bool) :
    Calls Try.prog 62 #[sl, .int .i64 n, .agg (Wk.mk false cell i hit).cells] w
      fun e w' => e = .returned (.tuple #[.agg Wk.zero.cells, .agg Acc.zero.cells]) ∧ Has S0 w0 w' rs := by
  simp only [Wk.cells, Wk.zero, Acc.zero, Acc.cells]
  go_enter Try.func62, Try.ntmps62
  go_wp2
  refine bodyPost_ret (v := .tuple #[.agg #[.bool false, .int .i64 0, .int .i64 0, .bool false], .agg #[.int .i64 0, .int .i64 0, .int .u32 0, .int .u32 0, .int .u32 0]]) (by simp [results, Try.results62, go_sem]) rfl ⟨rfl, ?_⟩
  exact H.grow (by repeat (first | with_reducible exact Touch.refl _ _ | with_reducible apply Touch.alloc | with_reducible refine Touch.setNew ?_ (by simp) _))

set_option maxHeartbeats 1600000 in
set_option maxRecDepth 100000 in
theorem rwake_neg {S0 : List Nat} {w0 w : World} {p : Option Addr} {g cap : Nat} {L : List Int} {rs : List Res} (H : Has S0 w0 w (.row p g cap L :: rs)) (n cell i : Int) (hit : Bool) (hc : cellP n 2 i < 0) :
    Calls Try.prog 62 #[.slice p L.length cap, .int .i64 n, .agg (Wk.mk true cell i hit).cells] w
      fun e w' => e = .returned (.tuple #[.agg Wk.zero.cells, .agg Acc.zero.cells]) ∧ Has S0 w0 w' (.row p g cap L :: rs) := by
  have hq := fun W => refCell_any n 2 i W (by decide)
  generalize cellP n 2 i = q at hq hc
  have HQ := Lib.hid hq
  clear hq
  simp only [Wk.cells, Wk.zero, Acc.zero, Acc.cells]
  go_enter Try.func62, Try.ntmps62
  go_wp2_with fail
  refine (HQ.out _).mono ?_
  rintro e w' ⟨rfl, rfl⟩
  go_wp2_with fail
  refine bodyPost_ret (v := .tuple #[.agg #[.bool false, .int .i64 0, .int .i64 0, .bool false], .agg #[.int .i64 0, .int .i64 0, .int .u32 0, .int .u32 0, .int .u32 0]]) (by simp [results, Try.results62, go_sem]) rfl ⟨rfl, ?_⟩
  exact H.grow (by repeat (first | with_reducible exact Touch.refl _ _ | with_reducible apply Touch.alloc | with_reducible refine Touch.setNew ?_ (by simp) _))

set_option maxHeartbeats 1600000 in
set_option maxRecDepth 100000 in
theorem rwake_hit_no {S0 : List Nat} {w0 w : World} {p : Option Addr} {g cap : Nat} {L : List Int} {rs : List Res} (H : Has S0 w0 w (.row p g cap L :: rs)) (n cell i : Int) (hc : 0 ≤ cellP n 2 i) (hb : (giveA L n i).2.1 = false) :
    Calls Try.prog 62 #[.slice p L.length cap, .int .i64 n, .agg (Wk.mk true cell i true).cells] w
      fun e w' => e = .returned (.tuple #[.agg Wk.zero.cells, .agg Acc.zero.cells]) ∧ Has S0 w0 w' (.row p g cap L :: rs) := by
  have hq := fun W => refCell_any n 2 i W (by decide)
  have hg := fun W rs (H : Has S0 w0 W (.row p g cap L :: rs)) => rgive_has H n i
  rw [show giveA L n i = (Acc.zero, false, L) from doA_no hb] at hg
  clear hb
  generalize cellP n 2 i = q at *
  simp only [Wk.cells, Wk.zero, Acc.cells, Acc.zero] at *
  have HG := Lib.hid hg
  have HH := Lib.hid H
  have HQ := Lib.hid hq
  clear hg H hq
  go_enter Try.func62, Try.ntmps62
  go_wp2_with fail
  refine (HQ.out _).mono ?_
  rintro e w' ⟨rfl, rfl⟩
  go_wp2_with fail
  refine (HG.out _ _ HH.out.al4).mono ?_
  rintro e w2 ⟨rfl, H2⟩
  obtain ⟨x0, x1, x2⟩ := (H2.at_ 1 rfl).own
  obtain ⟨k0, k1, k2⟩ := (H2.at_ 4 rfl).own
  obtain ⟨y0, y1, y2⟩ := (H2.at_ 2 rfl).own
  obtain ⟨z0, z1, z2⟩ := (H2.at_ 3 rfl).own
  go_wp2_with fail
  refine bodyPost_ret (v := .tuple #[.agg #[.bool false, .int .i64 0, .int .i64 0, .bool false], .agg #[.int .i64 0, .int .i64 0, .int .u32 0, .int .u32 0, .int .u32 0]]) (by simp [results, Try.results62, go_sem, x0, x1, x2, y0, y1, y2, z0, z1, z2]) rfl ⟨rfl, ?_⟩
  exact H2.done4 (by repeat (first | with_reducible exact Touch.refl _ _ | with_reducible apply Touch.drew | with_reducible apply Touch.alloc | with_reducible refine Touch.set ?_ (by simp) _))

set_option maxHeartbeats 1600000 in
set_option maxRecDepth 100000 in
theorem rwake_look_no {S0 : List Nat} {w0 w : World} {p : Option Addr} {g cap : Nat} {L : List Int} {rs : List Res} (H : Has S0 w0 w (.row p g cap L :: rs)) (n cell i : Int) (hc : 0 ≤ cellP n 2 i) (hb : (doA L ⟨1, cellP n 2 i, 0, 0, 0⟩).2.1 = false) :
    Calls Try.prog 62 #[.slice p L.length cap, .int .i64 n, .agg (Wk.mk true cell i false).cells] w
      fun e w' => e = .returned (.tuple #[.agg Wk.zero.cells, .agg Acc.zero.cells]) ∧ Has S0 w0 w' (.row p g cap L :: rs) := by
  have hq := fun W => refCell_any n 2 i W (by decide)
  have hg := fun W rs (H : Has S0 w0 W (.row p g cap L :: rs)) => rdo_has H ⟨1, cellP n 2 i, 0, 0, 0⟩ (by simp) (by simp)
  rw [doA_no hb] at hg
  clear hb
  generalize cellP n 2 i = q at *
  simp only [Wk.cells, Wk.zero, Acc.cells, Acc.zero] at *
  have HG := Lib.hid hg
  have HH := Lib.hid H
  have HQ := Lib.hid hq
  clear hg H hq
  go_enter Try.func62, Try.ntmps62
  go_wp2_with fail
  refine (HQ.out _).mono ?_
  rintro e w' ⟨rfl, rfl⟩
  go_wp2_with fail
  refine (HQ.out _).mono ?_
  rintro e w' ⟨rfl, rfl⟩
  go_wp2_with fail
  refine (HG.out _ _ HH.out.al4).mono ?_
  rintro e w2 ⟨rfl, H2⟩
  obtain ⟨x0, x1, x2⟩ := (H2.at_ 1 rfl).own
  obtain ⟨k0, k1, k2⟩ := (H2.at_ 4 rfl).own
  obtain ⟨y0, y1, y2⟩ := (H2.at_ 2 rfl).own
  obtain ⟨z0, z1, z2⟩ := (H2.at_ 3 rfl).own
  go_wp2_with fail
  refine bodyPost_ret (v := .tuple #[.agg #[.bool false, .int .i64 0, .int .i64 0, .bool false], .agg #[.int .i64 0, .int .i64 0, .int .u32 0, .int .u32 0, .int .u32 0]]) (by simp [results, Try.results62, go_sem, x0, x1, x2, y0, y1, y2, z0, z1, z2]) rfl ⟨rfl, ?_⟩
  exact H2.done4 (by repeat (first | with_reducible exact Touch.refl _ _ | with_reducible apply Touch.drew | with_reducible apply Touch.alloc | with_reducible refine Touch.set ?_ (by simp) _))

set_option maxHeartbeats 1600000 in
set_option maxRecDepth 100000 in
theorem rwake_hit_end {S0 : List Nat} {w0 w : World} {p : Option Addr} {g cap : Nat} {L : List Int} {rs : List Res} (H : Has S0 w0 w (.row p g cap L :: rs)) (n cell i : Int) (hc : 0 ≤ cellP n 2 i) (hi : 0 ≤ i ∧ i < 64) (hb : (giveA L n i).2.1 = true) (hend : n ≤ i + 1) :
    Calls Try.prog 62 #[.slice p L.length cap, .int .i64 n, .agg (Wk.mk true cell i true).cells] w
      fun e w' => e = .returned (.tuple #[.agg Wk.zero.cells, .agg (giveA L n i).1.cells]) ∧ Has S0 w0 w' (.row p g cap (giveA L n i).2.2 :: rs) := by
  obtain ⟨i0, i1⟩ := hi
  have hq := fun W => refCell_any n 2 i W (by decide)
  have hg := fun W rs (H : Has S0 w0 W (.row p g cap L :: rs)) => rgive_has H n i
  generalize giveA L n i = R at *
  generalize cellP n 2 i = q at *
  obtain ⟨⟨rk, rc, rx, ry, ro⟩, rok, L2⟩ := R
  simp only [Wk.cells, Wk.zero, Acc.cells, Acc.zero] at *
  subst hb
  try have hne2 := hne2 _ rfl
  try have he2 := he2 _ rfl
  have HG := Lib.hid hg
  have HH := Lib.hid H
  have HQ := Lib.hid hq
  clear hg H hq
  go_enter Try.func62, Try.ntmps62
  go_wp2_with fail
  refine (HQ.out _).mono ?_
  rintro e w' ⟨rfl, rfl⟩
  go_wp2_with fail
  refine (HG.out _ _ HH.out.al4).mono ?_
  rintro e w2 ⟨rfl, H2⟩
  obtain ⟨x0, x1, x2⟩ := (H2.at_ 1 rfl).own
  obtain ⟨k0, k1, k2⟩ := (H2.at_ 4 rfl).own
  obtain ⟨y0, y1, y2⟩ := (H2.at_ 2 rfl).own
  obtain ⟨z0, z1, z2⟩ := (H2.at_ 3 rfl).own
  go_wp2_with fail
  refine wp_from (Facts := fun W => Has S0 w0 W (.row p g cap L2 :: .blk (w.heap.size + 3) #[.int .i64 rk, .int .i64 rc, .int .u32 rx, .int .u32 ry, .int .u32 ro] :: .blk (w.heap.size + 2) #[.int .i64 0, .int .i64 0, .int .u32 0, .int .u32 0, .int .u32 0] :: .blk (w.heap.size + 1) #[.bool false, .int .i64 0, .int .i64 0, .bool false] :: .blk w.heap.size #[.bool true, .int .i64 cell, .int .i64 i, .bool true] :: rs)) ?_ ((((((H2.set1 0 _).set1 1 _).set1 2 _).set1 3 _).set1 4 _))
  clear x0 x1 x2 y0 y1 y2 z0 z1 z2 k0 k1 k2 H2
  intro W HW
  obtain ⟨x0, x1, x2⟩ := (HW.at_ 1 rfl).own
  obtain ⟨y0, y1, y2⟩ := (HW.at_ 2 rfl).own
  obtain ⟨z0, z1, z2⟩ := (HW.at_ 3 rfl).own
  obtain ⟨k0, k1, k2⟩ := (HW.at_ 4 rfl).own
  go_region
  all_goals go_wp2
  refine bodyPost_ret (v := .tuple #[.agg #[.bool false, .int .i64 0, .int .i64 0, .bool false], .agg #[.int .i64 rk, .int .i64 rc, .int .u32 rx, .int .u32 ry, .int .u32 ro]]) (by simp [results, Try.results62, go_sem, x0, x1, x2, y0, y1, y2, z0, z1, z2]) rfl ⟨rfl, ?_⟩
  exact HW.done4 (by repeat (first | with_reducible exact Touch.refl _ _ | with_reducible apply Touch.drew | with_reducible apply Touch.alloc | with_reducible refine Touch.set ?_ (by simp) _))

set_option maxHeartbeats 1600000 in
set_option maxRecDepth 100000 in
theorem rwake_hit_next {S0 : List Nat} {w0 w : World} {p : Option Addr} {g cap : Nat} {L : List Int} {rs : List Res} (H : Has S0 w0 w (.row p g cap L :: rs)) (n cell i : Int) (hc : 0 ≤ cellP n 2 i) (hi : 0 ≤ i ∧ i < 64) (hb : (giveA L n i).2.1 = true) (hend : ¬ n ≤ i + 1) :
    Calls Try.prog 62 #[.slice p L.length cap, .int .i64 n, .agg (Wk.mk true cell i true).cells] w
      fun e w' => e = .returned (.tuple #[.agg (Wk.mk true cell (i + 1) false).cells, .agg (giveA L n i).1.cells]) ∧ Has S0 w0 w' (.row p g cap (giveA L n i).2.2 :: rs) := by
  obtain ⟨i0, i1⟩ := hi
  have hq := fun W => refCell_any n 2 i W (by decide)
  have hg := fun W rs (H : Has S0 w0 W (.row p g cap L :: rs)) => rgive_has H n i
  generalize giveA L n i = R at *
  generalize cellP n 2 i = q at *
  obtain ⟨⟨rk, rc, rx, ry, ro⟩, rok, L2⟩ := R
  simp only [Wk.cells, Wk.zero, Acc.cells, Acc.zero] at *
  subst hb
  try have hne2 := hne2 _ rfl
  try have he2 := he2 _ rfl
  have HG := Lib.hid hg
  have HH := Lib.hid H
  have HQ := Lib.hid hq
  clear hg H hq
  go_enter Try.func62, Try.ntmps62
  go_wp2_with fail
  refine (HQ.out _).mono ?_
  rintro e w' ⟨rfl, rfl⟩
  go_wp2_with fail
  refine (HG.out _ _ HH.out.al4).mono ?_
  rintro e w2 ⟨rfl, H2⟩
  obtain ⟨x0, x1, x2⟩ := (H2.at_ 1 rfl).own
  obtain ⟨k0, k1, k2⟩ := (H2.at_ 4 rfl).own
  obtain ⟨y0, y1, y2⟩ := (H2.at_ 2 rfl).own
  obtain ⟨z0, z1, z2⟩ := (H2.at_ 3 rfl).own
  go_wp2_with fail
  refine wp_from (Facts := fun W => Has S0 w0 W (.row p g cap L2 :: .blk (w.heap.size + 3) #[.int .i64 rk, .int .i64 rc, .int .u32 rx, .int .u32 ry, .int .u32 ro] :: .blk (w.heap.size + 2) #[.int .i64 0, .int .i64 0, .int .u32 0, .int .u32 0, .int .u32 0] :: .blk (w.heap.size + 1) #[.bool false, .int .i64 0, .int .i64 0, .bool false] :: .blk w.heap.size #[.bool true, .int .i64 cell, .int .i64 i, .bool true] :: rs)) ?_ ((((((H2.set1 0 _).set1 1 _).set1 2 _).set1 3 _).set1 4 _))
  clear x0 x1 x2 y0 y1 y2 z0 z1 z2 k0 k1 k2 H2
  intro W HW
  obtain ⟨x0, x1, x2⟩ := (HW.at_ 1 rfl).own
  obtain ⟨y0, y1, y2⟩ := (HW.at_ 2 rfl).own
  obtain ⟨z0, z1, z2⟩ := (HW.at_ 3 rfl).own
  obtain ⟨k0, k1, k2⟩ := (HW.at_ 4 rfl).own
  go_region
  all_goals go_wp2
  refine bodyPost_ret (v := .tuple #[.agg #[.bool true, .int .i64 cell, .int .i64 (i + 1), .bool false], .agg #[.int .i64 rk, .int .i64 rc, .int .u32 rx, .int .u32 ry, .int .u32 ro]]) (by simp [results, Try.results62, go_sem, x0, x1, x2, y0, y1, y2, z0, z1, z2]) rfl ⟨rfl, ?_⟩
  exact HW.done4 (by repeat (first | with_reducible exact Touch.refl _ _ | with_reducible apply Touch.drew | with_reducible apply Touch.alloc | with_reducible refine Touch.set ?_ (by simp) _))

set_option maxHeartbeats 1600000 in
set_option maxRecDepth 100000 in
theorem rwake_look_end {S0 : List Nat} {w0 w : World} {p : Option Addr} {g cap : Nat} {L : List Int} {rs : List Res} (H : Has S0 w0 w (.row p g cap L :: rs)) (n cell i : Int) (hc : 0 ≤ cellP n 2 i) (hi : 0 ≤ i ∧ i < 64) (hb : (doA L ⟨1, cellP n 2 i, 0, 0, 0⟩).2.1 = true) (hne : (doA L ⟨1, cellP n 2 i, 0, 0, 0⟩).1.old ≠ (cell + 1) % 4294967296) (hend : n ≤ i + 1) :
    Calls Try.prog 62 #[.slice p L.length cap, .int .i64 n, .agg (Wk.mk true cell i false).cells] w
      fun e w' => e = .returned (.tuple #[.agg Wk.zero.cells, .agg (doA L ⟨1, cellP n 2 i, 0, 0, 0⟩).1.cells]) ∧ Has S0 w0 w' (.row p g cap (doA L ⟨1, cellP n 2 i, 0, 0, 0⟩).2.2 :: rs) := by
  have hne2 : ∀ x, (doA L ⟨1, cellP n 2 i, 0, 0, 0⟩).1.old = x → (x == (cell % 4294967296 + 1) % 4294967296) = false := fun x hx => by
    have : ¬ (x = (cell % 4294967296 + 1) % 4294967296) := fun h => hne (by rw [hx, h]; omega)
    simpa using this
  clear hne
  obtain ⟨i0, i1⟩ := hi
  have hq := fun W => refCell_any n 2 i W (by decide)
  have hg := fun W rs (H : Has S0 w0 W (.row p g cap L :: rs)) => rdo_has H ⟨1, cellP n 2 i, 0, 0, 0⟩ (by simp) (by simp)
  generalize doA L ⟨1, cellP n 2 i, 0, 0, 0⟩ = R at *
  generalize cellP n 2 i = q at *
  obtain ⟨⟨rk, rc, rx, ry, ro⟩, rok, L2⟩ := R
  simp only [Wk.cells, Wk.zero, Acc.cells, Acc.zero] at *
  subst hb
  try have hne2 := hne2 _ rfl
  try have he2 := he2 _ rfl
  have HG := Lib.hid hg
  have HH := Lib.hid H
  have HQ := Lib.hid hq
  clear hg H hq
  go_enter Try.func62, Try.ntmps62
  go_wp2_with fail
  refine (HQ.out _).mono ?_
  rintro e w' ⟨rfl, rfl⟩
  go_wp2_with fail
  refine (HQ.out _).mono ?_
  rintro e w' ⟨rfl, rfl⟩
  go_wp2_with fail
  refine (HG.out _ _ HH.out.al4).mono ?_
  rintro e w2 ⟨rfl, H2⟩
  obtain ⟨x0, x1, x2⟩ := (H2.at_ 1 rfl).own
  obtain ⟨k0, k1, k2⟩ := (H2.at_ 4 rfl).own
  obtain ⟨y0, y1, y2⟩ := (H2.at_ 2 rfl).own
  obtain ⟨z0, z1, z2⟩ := (H2.at_ 3 rfl).own
  go_wp2_with fail
  refine wp_from (Facts := fun W => Has S0 w0 W (.row p g cap L2 :: .blk (w.heap.size + 3) #[.int .i64 rk, .int .i64 rc, .int .u32 rx, .int .u32 ry, .int .u32 ro] :: .blk (w.heap.size + 2) #[.int .i64 0, .int .i64 0, .int .u32 0, .int .u32 0, .int .u32 0] :: .blk (w.heap.size + 1) #[.bool false, .int .i64 0, .int .i64 0, .bool false] :: .blk w.heap.size #[.bool true, .int .i64 cell, .int .i64 i, .bool false] :: rs)) ?_ ((((((H2.set1 0 _).set1 1 _).set1 2 _).set1 3 _).set1 4 _))
  clear x0 x1 x2 y0 y1 y2 z0 z1 z2 k0 k1 k2 H2
  intro W HW
  obtain ⟨x0, x1, x2⟩ := (HW.at_ 1 rfl).own
  obtain ⟨y0, y1, y2⟩ := (HW.at_ 2 rfl).own
  obtain ⟨z0, z1, z2⟩ := (HW.at_ 3 rfl).own
  obtain ⟨k0, k1, k2⟩ := (HW.at_ 4 rfl).own
  go_region
  all_goals go_wp2
  refine bodyPost_ret (v := .tuple #[.agg #[.bool false, .int .i64 0, .int .i64 0, .bool false], .agg #[.int .i64 rk, .int .i64 rc, .int .u32 rx, .int .u32 ry, .int .u32 ro]]) (by simp [results, Try.results62, go_sem, x0, x1, x2, y0, y1, y2, z0, z1, z2]) rfl ⟨rfl, ?_⟩
  exact HW.done4 (by repeat (first | with_reducible exact Touch.refl _ _ | with_reducible apply Touch.drew | with_reducible apply Touch.alloc | with_reducible refine Touch.set ?_ (by simp) _))

set_option maxHeartbeats 1600000 in
set_option maxRecDepth 100000 in
theorem rwake_look_next {S0 : List Nat} {w0 w : World} {p : Option Addr} {g cap : Nat} {L : List Int} {rs : List Res} (H : Has S0 w0 w (.row p g cap L :: rs)) (n cell i : Int) (hc : 0 ≤ cellP n 2 i) (hi : 0 ≤ i ∧ i < 64) (hb : (doA L ⟨1, cellP n 2 i, 0, 0, 0⟩).2.1 = true) (hne : (doA L ⟨1, cellP n 2 i, 0, 0, 0⟩).1.old ≠ (cell + 1) % 4294967296) (hend : ¬ n ≤ i + 1) :
    Calls Try.prog 62 #[.slice p L.length cap, .int .i64 n, .agg (Wk.mk true cell i false).cells] w
      fun e w' => e = .returned (.tuple #[.agg (Wk.mk true cell (i + 1) false).cells, .agg (doA L ⟨1, cellP n 2 i, 0, 0, 0⟩).1.cells]) ∧ Has S0 w0 w' (.row p g cap (doA L ⟨1, cellP n 2 i, 0, 0, 0⟩).2.2 :: rs) := by
  have hne2 : ∀ x, (doA L ⟨1, cellP n 2 i, 0, 0, 0⟩).1.old = x → (x == (cell % 4294967296 + 1) % 4294967296) = false := fun x hx => by
    have : ¬ (x = (cell % 4294967296 + 1) % 4294967296) := fun h => hne (by rw [hx, h]; omega)
    simpa using this
  clear hne
  obtain ⟨i0, i1⟩ := hi
  have hq := fun W => refCell_any n 2 i W (by decide)
  have hg := fun W rs (H : Has S0 w0 W (.row p g cap L :: rs)) => rdo_has H ⟨1, cellP n 2 i, 0, 0, 0⟩ (by simp) (by simp)
  generalize doA L ⟨1, cellP n 2 i, 0, 0, 0⟩ = R at *
  generalize cellP n 2 i = q at *
  obtain ⟨⟨rk, rc, rx, ry, ro⟩, rok, L2⟩ := R
  simp only [Wk.cells, Wk.zero, Acc.cells, Acc.zero] at *
  subst hb
  try have hne2 := hne2 _ rfl
  try have he2 := he2 _ rfl
  have HG := Lib.hid hg
  have HH := Lib.hid H
  have HQ := Lib.hid hq
  clear hg H hq
  go_enter Try.func62, Try.ntmps62
  go_wp2_with fail
  refine (HQ.out _).mono ?_
  rintro e w' ⟨rfl, rfl⟩
  go_wp2_with fail
  refine (HQ.out _).mono ?_
  rintro e w' ⟨rfl, rfl⟩
  go_wp2_with fail
  refine (HG.out _ _ HH.out.al4).mono ?_
  rintro e w2 ⟨rfl, H2⟩
  obtain ⟨x0, x1, x2⟩ := (H2.at_ 1 rfl).own
  obtain ⟨k0, k1, k2⟩ := (H2.at_ 4 rfl).own
  obtain ⟨y0, y1, y2⟩ := (H2.at_ 2 rfl).own
  obtain ⟨z0, z1, z2⟩ := (H2.at_ 3 rfl).own
  go_wp2_with fail
  refine wp_from (Facts := fun W => Has S0 w0 W (.row p g cap L2 :: .blk (w.heap.size + 3) #[.int .i64 rk, .int .i64 rc, .int .u32 rx, .int .u32 ry, .int .u32 ro] :: .blk (w.heap.size + 2) #[.int .i64 0, .int .i64 0, .int .u32 0, .int .u32 0, .int .u32 0] :: .blk (w.heap.size + 1) #[.bool false, .int .i64 0, .int .i64 0, .bool false] :: .blk w.heap.size #[.bool true, .int .i64 cell, .int .i64 i, .bool false] :: rs)) ?_ ((((((H2.set1 0 _).set1 1 _).set1 2 _).set1 3 _).set1 4 _))
  clear x0 x1 x2 y0 y1 y2 z0 z1 z2 k0 k1 k2 H2
  intro W HW
  obtain ⟨x0, x1, x2⟩ := (HW.at_ 1 rfl).own
  obtain ⟨y0, y1, y2⟩ := (HW.at_ 2 rfl).own
  obtain ⟨z0, z1, z2⟩ := (HW.at_ 3 rfl).own
  obtain ⟨k0, k1, k2⟩ := (HW.at_ 4 rfl).own
  go_region
  all_goals go_wp2
  refine bodyPost_ret (v := .tuple #[.agg #[.bool true, .int .i64 cell, .int .i64 (i + 1), .bool false], .agg #[.int .i64 rk, .int .i64 rc, .int .u32 rx, .int .u32 ry, .int .u32 ro]]) (by simp [results, Try.results62, go_sem, x0, x1, x2, y0, y1, y2, z0, z1, z2]) rfl ⟨rfl, ?_⟩
  exact HW.done4 (by repeat (first | with_reducible exact Touch.refl _ _ | with_reducible apply Touch.drew | with_reducible apply Touch.alloc | with_reducible refine Touch.set ?_ (by simp) _))

set_option maxHeartbeats 1600000 in
set_option maxRecDepth 100000 in
theorem rwake_look_is {S0 : List Nat} {w0 w : World} {p : Option Addr} {g cap : Nat} {L : List Int} {rs : List Res} (H : Has S0 w0 w (.row p g cap L :: rs)) (n cell i : Int) (hc : 0 ≤ cellP n 2 i) (hb : (doA L ⟨1, cellP n 2 i, 0, 0, 0⟩).2.1 = true) (he : (doA L ⟨1, cellP n 2 i, 0, 0, 0⟩).1.old = (cell + 1) % 4294967296) :
    Calls Try.prog 62 #[.slice p L.length cap, .int .i64 n, .agg (Wk.mk true cell i false).cells] w
      fun e w' => e = .returned (.tuple #[.agg (Wk.mk true cell i true).cells, .agg (doA L ⟨1, cellP n 2 i, 0, 0, 0⟩).1.cells]) ∧ Has S0 w0 w' (.row p g cap (doA L ⟨1, cellP n 2 i, 0, 0, 0⟩).2.2 :: rs) := by
  have he2 : ∀ x, (doA L ⟨1, cellP n 2 i, 0, 0, 0⟩).1.old = x → (x == (cell % 4294967296 + 1) % 4294967296) = true := fun x hx => by
    have : (x = (cell % 4294967296 + 1) % 4294967296) := by rw [← hx, he]; omega
    simpa using this
  clear he
  have hq := fun W => refCell_any n 2 i W (by decide)
  have hg := fun W rs (H : Has S0 w0 W (.row p g cap L :: rs)) => rdo_has H ⟨1, cellP n 2 i, 0, 0, 0⟩ (by simp) (by simp)
  generalize doA L ⟨1, cellP n 2 i, 0, 0, 0⟩ = R at *
  generalize cellP n 2 i = q at *
  obtain ⟨⟨rk, rc, rx, ry, ro⟩, rok, L2⟩ := R
  simp only [Wk.cells, Wk.zero, Acc.cells, Acc.zero] at *
  subst hb
  try have hne2 := hne2 _ rfl
  try have he2 := he2 _ rfl
  have HG := Lib.hid hg
  have HH := Lib.hid H
  have HQ := Lib.hid hq
  clear hg H hq
  go_enter Try.func62, Try.ntmps62
  go_wp2_with fail
  refine (HQ.out _).mono ?_
  rintro e w' ⟨rfl, rfl⟩
  go_wp2_with fail
  refine (HQ.out _).mono ?_
  rintro e w' ⟨rfl, rfl⟩
  go_wp2_with fail
  refine (HG.out _ _ HH.out.al4).mono ?_
  rintro e w2 ⟨rfl, H2⟩
  obtain ⟨x0, x1, x2⟩ := (H2.at_ 1 rfl).own
  obtain ⟨k0, k1, k2⟩ := (H2.at_ 4 rfl).own
  obtain ⟨y0, y1, y2⟩ := (H2.at_ 2 rfl).own
  obtain ⟨z0, z1, z2⟩ := (H2.at_ 3 rfl).own
  go_wp2_with fail
  refine wp_from (Facts := fun W => Has S0 w0 W (.row p g cap L2 :: .blk (w.heap.size + 3) #[.int .i64 rk, .int .i64 rc, .int .u32 rx, .int .u32 ry, .int .u32 ro] :: .blk (w.heap.size + 2) #[.int .i64 0, .int .i64 0, .int .u32 0, .int .u32 0, .int .u32 0] :: .blk (w.heap.size + 1) #[.bool false, .int .i64 0, .int .i64 0, .bool false] :: .blk w.heap.size #[.bool true, .int .i64 cell, .int .i64 i, .bool true] :: rs)) ?_ (((((((H2.set1 0 _).set1 1 _).set1 2 _).set1 3 _).set1 4 _).set4 3 _))
  clear x0 x1 x2 y0 y1 y2 z0 z1 z2 k0 k1 k2 H2
  intro W HW
  obtain ⟨x0, x1, x2⟩ := (HW.at_ 1 rfl).own
  obtain ⟨y0, y1, y2⟩ := (HW.at_ 2 rfl).own
  obtain ⟨z0, z1, z2⟩ := (HW.at_ 3 rfl).own
  obtain ⟨k0, k1, k2⟩ := (HW.at_ 4 rfl).own
  go_region
  all_goals go_wp2
  refine bodyPost_ret (v := .tuple #[.agg #[.bool true, .int .i64 cell, .int .i64 i, .bool true], .agg #[.int .i64 rk, .int .i64 rc, .int .u32 rx, .int .u32 ry, .int .u32 ro]]) (by simp [results, Try.results62, go_sem, x0, x1, x2, y0, y1, y2, z0, z1, z2]) rfl ⟨rfl, ?_⟩
  exact HW.done4 (by repeat (first | with_reducible exact Touch.refl _ _ | with_reducible apply Touch.drew | with_reducible apply Touch.alloc | with_reducible refine Touch.set ?_ (by simp) _))

end Go.Proofs.Ytlndihdlodempaa.Z

/- A step of the document's wake-up, whatever it is. -/
set_option linter.unusedVariables false
set_option linter.unusedSimpArgs false
namespace Go.Proofs.Ytlndihdlodempaa.Z
open Go.RowKit

theorem cellP_right {n row i : Int} (h : 0 ≤ cellP n row i) : 1 ≤ n ∧ n ≤ 64 ∧ 0 ≤ i ∧ i < n := by
  unfold cellP at h
  split at h
  · assumption
  · omega

/-- WHATEVER THE WAKE-UP: the document's step of it. -/
theorem rwake_any {S0 : List Nat} {w0 w : World} {p : Option Addr} {g cap : Nat} {L : List Int} {rs : List Res} (H : Has S0 w0 w (.row p g cap L :: rs)) (n : Int) (k : Wk) :
    Calls Try.prog 62 #[.slice p L.length cap, .int .i64 n, .agg k.cells] w
      fun e w' => e = .returned (.tuple #[.agg (wakeA L n k).1.cells, .agg (wakeA L n k).2.1.cells]) ∧ Has S0 w0 w' (.row p g cap (wakeA L n k).2.2 :: rs) := by
  obtain ⟨on, cell, i, hit⟩ := k
  cases on with
  | false => exact rwake_off H _ n cell i hit
  | true =>
    by_cases hc : 0 ≤ cellP n 2 i
    · have hR := cellP_right hc
      have hi : 0 ≤ i ∧ i < 64 := ⟨hR.2.2.1, by omega⟩
      unfold wakeA
      cases hit with
      | true =>
        cases hb : (giveA L n i).2.1 with
        | true =>
          simp only [hb, if_true]
          unfold nextA
          by_cases he : n ≤ i + 1
          · simp only [he, if_true]; exact rwake_hit_end H n cell i hc hi hb he
          · simp only [he, if_false]; exact rwake_hit_next H n cell i hc hi hb he
        | false => simp only [hb, if_true, Bool.false_eq_true, if_false]; exact rwake_hit_no H n cell i hc hb
      | false =>
        cases hb : (doA L ⟨1, cellP n 2 i, 0, 0, 0⟩).2.1 with
        | true =>
          have hL : (doA L ⟨1, cellP n 2 i, 0, 0, 0⟩).2.2 = L := doA_load _ _ _ _ _
          by_cases hq : (doA L ⟨1, cellP n 2 i, 0, 0, 0⟩).1.old = (cell + 1) % 4294967296
          · have := rwake_look_is H n cell i hc hb hq
            rw [hL] at this
            simp only [hb, hq, if_true, Bool.false_eq_true, if_false]; exact this
          · simp only [hb, hq, if_true, Bool.false_eq_true, if_false]
            unfold nextA
            by_cases he : n ≤ i + 1
            · have := rwake_look_end H n cell i hc hi hb hq he
              rw [hL] at this
              simp only [he, if_true]; exact this
            · have := rwake_look_next H n cell i hc hi hb hq he
              rw [hL] at this
              simp only [he, if_false]; exact this
        | false => simp only [hb, if_true, Bool.false_eq_true, if_false]; exact rwake_look_no H n cell i hc hb
    · have h3 : cellP n 3 i < 0 := by
        rcases Int.lt_or_le (cellP n 3 i) 0 with h | h
        · exact h
        · have := cellP_right h
          exfalso
          apply hc
          unfold cellP
          rw [if_pos this]
          omega
      have e : wakeA L n ⟨true, cell, i, hit⟩ = (Wk.zero, Acc.zero, L) := by
        unfold wakeA
        cases hit with
        | true =>
          have : (giveA L n i).2.1 = false := by
            unfold giveA
            rw [acc_out (by omega)]
          simp only [this, if_true, Bool.false_eq_true, if_false]
        | false =>
          have : (doA L ⟨1, cellP n 2 i, 0, 0, 0⟩).2.1 = false := by rw [acc_out (by omega)]
          simp only [this, if_true, Bool.false_eq_true, if_false]
      rw [e]
      exact rwake_neg H n cell i hit (by omega)

end Go.Proofs.Ytlndihdlodempaa.Z
