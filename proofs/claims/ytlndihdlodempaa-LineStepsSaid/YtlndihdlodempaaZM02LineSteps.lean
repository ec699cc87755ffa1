/- 6 texts of this claim, joined: what each shows stands at its own head. -/
import Derived.Test.YtlndihdlodempaaZOpen2
import Derived.Test.YtlndihdlodempaaZM01LineSteps
import Derived.Test.YtlndihdlodempaaZUntil
import Derived.Test.YtlndihdlodempaaZOpen
import Derived.Test.YtlndihdlodempaaZOwn
import Derived.Test.YtlndihdlodempaaZRun7
import Derived.Test.YtlndihdlodempaaZFin
import Derived.Test.YtlndihdlodempaaZBase
import Derived.Deep.MidRow
/- Law 9: a list of calls, on a run and by the document: what they come to. -/
set_option linter.unusedVariables false
set_option linter.unusedSimpArgs false
namespace Go.Proofs.Ytlndihdlodempaa.Z
open Go.RowKit

structure Op9 where
  kind : Int
  c : Int
  n : Int
  x : Int
  y : Int
  uk : Int
  um : Int
  ux : Int
def Op9.cells (o : Op9) : List Value := [.int .i64 o.kind, .int .i64 o.c, .int .i64 o.n, .int .u32 o.x, .int .u32 o.y, .int .i64 o.uk, .int .u32 o.um, .int .u32 o.ux]
def Op9Ok (o : Op9) : Prop := ((0 ≤ o.x ∧ o.x < 4294967296) ∧ (0 ≤ o.y ∧ o.y < 4294967296)) ∧ (0 ≤ o.um ∧ o.um < 4294967296) ∧ (0 ≤ o.ux ∧ o.ux < 4294967296)

/-- A call: what it tells, and the run behind it. -/
def call9 (o : Op9) (s : Rn) : (Int × Bool × Bool) × Rn :=
  if o.kind = 0 then (((doA s.L ⟨1, o.c, 0, 0, 0⟩).1.old, false, false), s.did (doA s.L ⟨1, o.c, 0, 0, 0⟩))
  else if o.kind = 1 then ((0, false, false), s.did (doA s.L ⟨2, o.c, o.x, 0, 0⟩))
  else if o.kind = 2 then (((doA s.L ⟨3, o.c, o.x, 0, 0⟩).1.old, false, false), s.did (doA s.L ⟨3, o.c, o.x, 0, 0⟩))
  else if o.kind = 3 then (((doA s.L ⟨4, o.c, o.x, 0, 0⟩).1.old, false, false), s.did (doA s.L ⟨4, o.c, o.x, 0, 0⟩))
  else if o.kind = 4 then ((0, casB s.L o.c o.x o.y, false), s.did (doA s.L ⟨5, o.c, o.x, o.y, 0⟩))
  else if o.kind = 5 then ((0, (waitA s.L s.n s.mode s.task s.f.st o.c (untilA o.uk o.um o.ux)).seen, (waitA s.L s.n s.mode s.task s.f.st o.c (untilA o.uk o.um o.ux)).done), s.waited (waitA s.L s.n s.mode s.task s.f.st o.c (untilA o.uk o.um o.ux)))
  else if o.kind = 6 then ((0, false, false), s.note o.n o.c)
  else if o.kind = 7 then ((0, false, false), s.goto o.n)
  else if o.kind = 8 then ((0, false, false), s.fin (Int.tmod o.x 2 == 0))
  else if o.kind = 9 then ((0, false, false), s.wake o.c)
  else ((0, false, false), s)
def bit9 (b : Bool) : Int := if b then 1 else 0
def out9 (r : Int × Bool × Bool) : List Int := [r.1, bit9 r.2.1, bit9 r.2.2]
/-- Some calls: what they tell, and the run behind them. -/
def calls9 : List Op9 → Rn → List Int × Rn
  | [], s => ([], s)
  | o :: l, s => (out9 (call9 o s).1 ++ (calls9 l (call9 o s).2).1, (calls9 l (call9 o s).2).2)
theorem calls9_snoc : ∀ (l : List Op9) (o : Op9) (s : Rn), calls9 (l ++ [o]) s = ((calls9 l s).1 ++ out9 (call9 o (calls9 l s).2).1, (call9 o (calls9 l s).2).2)
  | [], o, s => by simp [calls9]
  | p :: l, o, s => by
    show (out9 (call9 p s).1 ++ (calls9 (l ++ [o]) (call9 p s).2).1, (calls9 (l ++ [o]) (call9 p s).2).2) = _
    rw [calls9_snoc l o]
    simp [calls9]
theorem calls9_take (l : List Op9) (s : Rn) (j : Nat) (h : j < l.length) : calls9 (l.take (j + 1)) s = ((calls9 (l.take j) s).1 ++ out9 (call9 l[j] (calls9 (l.take j) s).2).1, (call9 l[j] (calls9 (l.take j) s).2).2) := by
  rw [List.take_succ_eq_append_getElem h, calls9_snoc]
theorem calls9_len : ∀ (l : List Op9) (s : Rn), (calls9 l s).1.length = l.length * 3
  | [], s => rfl
  | o :: l, s => by
    show (out9 (call9 o s).1 ++ (calls9 l (call9 o s).2).1).length = _
    rw [List.length_append, calls9_len l, List.length_cons]
    simp [out9]
    omega

theorem call9_n (o : Op9) (s : Rn) : (call9 o s).2.n = s.n := by
  unfold call9
  repeat' split
  all_goals rfl
theorem calls9_n : ∀ (l : List Op9) (s : Rn), (calls9 l s).2.n = s.n
  | [], s => rfl
  | o :: l, s => (calls9_n l _).trans (call9_n o s)
theorem call9_notes (o : Op9) (s : Rn) : (call9 o s).2.notes.length ≤ s.notes.length + 1 := by
  unfold call9
  repeat' split
  all_goals first | exact Nat.le_succ _ | simp [Rn.note]
theorem calls9_notes : ∀ (l : List Op9) (s : Rn), (calls9 l s).2.notes.length ≤ s.notes.length + l.length
  | [], s => Nat.le_refl _
  | o :: l, s => by
    have h1 := calls9_notes l (call9 o s).2
    have h2 := call9_notes o s
    show (calls9 l (call9 o s).2).2.notes.length ≤ s.notes.length + (l.length + 1)
    omega
theorem call9_none {kind c n x y uk um ux : Int} (s : Rn) (k0 : ¬ kind = 0) (k1 : ¬ kind = 1) (k2 : ¬ kind = 2) (k3 : ¬ kind = 3) (k4 : ¬ kind = 4) (k5 : ¬ kind = 5) (k6 : ¬ kind = 6) (k7 : ¬ kind = 7) (k8 : ¬ kind = 8) (k9 : ¬ kind = 9) :
    call9 ⟨kind, c, n, x, y, uk, um, ux⟩ s = ((0, false, false), s) := by
  unfold call9
  rw [if_neg k0, if_neg k1, if_neg k2, if_neg k3, if_neg k4, if_neg k5, if_neg k6, if_neg k7, if_neg k8, if_neg k9]

set_option maxHeartbeats 400000 in
theorem bit_any (b : Bool) (w : World) : Calls Try.prog 61 #[.bool b] w fun e w' => e = .returned (.int .u32 (bit9 b)) ∧ w = w' := by
  go_enter Try.func61, Try.ntmps61
  cases b with
  | true =>
    go_wp2
    go_ret
    exact ⟨rfl, rfl⟩
  | false =>
    go_wp2
    go_ret
    exact ⟨rfl, rfl⟩
end Go.Proofs.Ytlndihdlodempaa.Z

/- Elements of slices of structs, by their cells. No program is in sight. -/
set_option linter.unusedVariables false
set_option linter.unusedSimpArgs false
namespace Go.Proofs.Ytlndihdlodempaa.Z
open Go.RowKit

theorem elem_head {α : Type} {dec : α → List Value} {size : Nat} {w : World} {B : Option Addr} {m i : Nat} {l : List α} (hs : 0 < size) (hlen : ∀ a, (dec a).length = size) (h : Rd w size B m (l.flatMap dec)) (hi : i < m) :
    ∃ b off x, B = some ⟨b, off, none⟩ ∧ b < w.heap.size ∧ l[i]? = some x ∧ x ∈ l := by
  obtain ⟨b, off, hB, hb, hc⟩ := h.lit (by omega) hs
  have hl : l.length = m := by
    have := h.1
    rw [flatMap_length hlen] at this
    exact Nat.eq_of_mul_eq_mul_right hs this
  exact ⟨b, off, l[i], hB, hb, List.getElem?_eq_getElem (by omega), List.getElem_mem _⟩

theorem elem_cells {α : Type} {dec : α → List Value} {size : Nat} {w : World} {b off m i : Nat} {x : α} {l : List α} (hs : 0 < size) (hlen : ∀ a, (dec a).length = size) (h : Rd w size (some ⟨b, off, none⟩) m (l.flatMap dec)) (hi : i < m) (hx : l[i]? = some x) :
    b < w.heap.size ∧ ∀ j u, (dec x)[j]? = some u → w.cell? ⟨b, off + i * size + j, none⟩ = some u := by
  obtain ⟨b', off', hB, hb, hc⟩ := h.lit (by omega) hs
  simp only [Option.some.injEq, Addr.mk.injEq] at hB
  obtain ⟨rfl, rfl, _⟩ := hB
  obtain ⟨hil, rfl⟩ := List.getElem?_eq_some_iff.1 hx
  refine ⟨hb, fun j u hu => ?_⟩
  have hj : j < size := by have := (List.getElem?_eq_some_iff.1 hu).1; rwa [hlen] at this
  rw [Nat.add_assoc]
  exact hc _ _ ((flatMap_at hs hlen l i j hil hj).trans hu)

end Go.Proofs.Ytlndihdlodempaa.Z

/- A lock's operation by itself: steps of a run, counted. No program is in sight but the model's words. -/
set_option linter.unusedVariables false
set_option linter.unusedSimpArgs false
namespace Go.Proofs.Ytlndihdlodempaa.Z
open Go.RowKit

/-- A step under these lines. -/
def stepR (g : Rn → Rn) (s : Rn) : Rn := if s.f.wk.on then s.woke else g s.fresh
/-- So many steps at most: the result, and the run then. -/
def aloneA (g : Rn → Rn) : Nat → Rn → Int × Rn
  | 0, s => (0, s)
  | k + 1, s => if (stepR g s).over then ((stepR g s).f.ret, stepR g s) else aloneA g k (stepR g s)
def start (n mode op : Int) (L : List Int) : Rn := ⟨n, mode, 0, ⟨op, 0, 0, 0, 0, Wk.zero, 0⟩, Acc.zero, [], L⟩

/-- A frame whose kept words are words. -/
def Rn.ok (s : Rn) : Prop := I64 s.n ∧ (0 ≤ s.f.a ∧ s.f.a < 4294967296) ∧ (0 ≤ s.f.b ∧ s.f.b < 4294967296)
theorem start_ok {n : Int} (hn : I64 n) (mode op : Int) (L : List Int) : (start n mode op L).ok := ⟨hn, by simp [start], by simp [start]⟩
theorem woke_ok {s : Rn} (h : s.ok) : s.woke.ok := h
theorem fresh_ok {s : Rn} (h : s.ok) : s.fresh.ok := h

/-- Words in which nobody watches the cell c. -/
def NoWatch (n : Int) (c : Int) (L : List Int) : Prop := ∀ i, 0 ≤ i → i < n → (doA L ⟨1, cellP n 2 i, 0, 0, 0⟩).2.1 = true ∧ (doA L ⟨1, cellP n 2 i, 0, 0, 0⟩).1.old ≠ (c + 1) % 4294967296

theorem woke_calm {s : Rn} {c i : Int} (hw : s.f.wk = ⟨true, c, i, false⟩) (h0 : 0 ≤ i) (h1 : i < s.n) (hc : NoWatch s.n c s.L) :
    s.woke.L = s.L ∧ s.woke.f = { s.f with wk := if s.n ≤ i + 1 then Wk.zero else ⟨true, c, i + 1, false⟩ } ∧ s.woke.notes = [] ∧ s.woke.n = s.n ∧ s.woke.mode = s.mode ∧ s.woke.task = s.task := by
  obtain ⟨h2, h3⟩ := hc i h0 h1
  have e : wakeA s.L s.n s.f.wk = (nextA s.n ⟨true, c, i, false⟩, (doA s.L ⟨1, cellP s.n 2 i, 0, 0, 0⟩).1, s.L) := by
    rw [hw]
    unfold wakeA
    simp only [if_true, Bool.false_eq_true, if_false]
    rw [if_pos h2, if_neg h3]
  unfold Rn.woke
  rw [e]
  refine ⟨rfl, ?_, rfl, rfl, rfl, rfl⟩
  show { s.f with wk := nextA s.n ⟨true, c, i, false⟩ } = _
  unfold nextA
  rfl

/-- The run behind a wake-up that finds nobody: only its access and its notes may differ. -/
def Rn.rests (s : Rn) : Rn := { s with f := { s.f with wk := Wk.zero }, acc := Acc.zero, notes := [] }

/-- A wake-up that finds nobody, within an operation: behind it the steps go on. -/
theorem alone_wakes (g : Rn → Rn) (c : Int) : ∀ (d : Nat) (s : Rn) (i : Int) (most : Nat), s.f.wk = ⟨true, c, i, false⟩ → 0 ≤ i → i + d = s.n → 1 ≤ d → NoWatch s.n c s.L → d ≤ most →
    ∃ s', s'.fresh = s.rests ∧ s'.f.wk.on = false ∧ s'.L = s.L ∧ s'.f.ret = s.f.ret ∧ ((s.f.ret ≠ 0 → aloneA g most s = (s.f.ret, s')) ∧ (s.f.ret = 0 → aloneA g most s = aloneA g (most - d) s')) := by
  intro d
  induction d with
  | zero => intro s i most hw h0 h1 h2; omega
  | succ d ih =>
    intro s i most hw h0 h1 _ hc hm
    obtain ⟨e1, e2, e3, e4, e5, e6⟩ := woke_calm hw h0 (by omega) hc
    have hst : stepR g s = s.woke := by unfold stepR; rw [hw]; rfl
    obtain ⟨most, rfl⟩ : ∃ j, most = j + 1 := ⟨most - 1, by omega⟩
    by_cases hd : d = 0
    · subst hd
      rw [if_pos (by omega)] at e2
      refine ⟨s.woke, ?_, by rw [e2]; rfl, e1, by rw [e2], fun hr => ?_, fun hr => ?_⟩
      · unfold Rn.fresh Rn.rests
        rw [e1, e2, e4, e5, e6]
      · show (if (stepR g s).over then ((stepR g s).f.ret, stepR g s) else aloneA g most (stepR g s)) = _
        rw [hst, if_pos (by unfold Rn.over; rw [e2]; simpa [Wk.zero] using hr), e2]
      · show (if (stepR g s).over then ((stepR g s).f.ret, stepR g s) else aloneA g most (stepR g s)) = _
        rw [hst, if_neg (by unfold Rn.over; rw [e2]; simp [hr])]
        rfl
    · rw [if_neg (by omega)] at e2
      obtain ⟨s', k1, k2, k3, k4, k5, k6⟩ := ih s.woke (i + 1) most (by rw [e2]) (by omega) (by rw [e4]; omega) (by omega) (by rw [e4, e1]; exact hc) (by omega)
      have er : s.woke.f.ret = s.f.ret := by rw [e2]
      have hgo : aloneA g (most + 1) s = aloneA g most s.woke := by
        show (if (stepR g s).over then ((stepR g s).f.ret, stepR g s) else aloneA g most (stepR g s)) = _
        rw [hst, if_neg (by unfold Rn.over; rw [e2]; simp)]
      refine ⟨s', ?_, k2, k3.trans e1, k4.trans er, fun hr => ?_, fun hr => ?_⟩
      · rw [k1]
        unfold Rn.rests
        rw [e1, e2, e4, e5, e6]
      · rw [hgo, k5 (by rw [er]; exact hr), er]
      · rw [hgo, k6 (by rw [er]; exact hr)]
        congr 1
        omega

/-- Operations one after the other, each by itself: all end with true. -/
def Runs (g : Rn → Rn) (n mode : Int) (most : Nat) : List Int → List Int → List Int → Prop
  | [], L, L' => L = L'
  | o :: os, L, L' => ∃ s, aloneA g most (start n mode o L) = (2, s) ∧ Runs g n mode most os s.L L'

/-- What is kept is words; ten notes more at most. -/
def Fine (s0 s' : Rn) : Prop := (I64 s'.n ∧ (0 ≤ s'.f.a ∧ s'.f.a < 4294967296) ∧ (0 ≤ s'.f.b ∧ s'.f.b < 4294967296)) ∧ s'.notes.length ≤ s0.notes.length + 10
theorem fine_mk {s0 s' : Rn} (h : (I64 s'.n ∧ (0 ≤ s'.f.a ∧ s'.f.a < 4294967296) ∧ (0 ≤ s'.f.b ∧ s'.f.b < 4294967296)) ∧ s'.notes.length ≤ s0.notes.length + 10) : Fine s0 s' := h

theorem Has.ownNil {S0 : List Nat} {w0 w : World} {rs : List Res} (h : Has S0 w0 w rs) (e size : Nat) : Has S0 w0 w (.own e size (.slice none 0 0) 0 [] :: rs) :=
  Has.upd (xs := []) (rs := rs) [.own e size (.slice none 0 0) 0 []] (S := []) h (Touch.refl _ _) (by simp) (by simp [Res.holds]; exact ⟨by simp, .inl ⟨rfl, rfl⟩⟩) (by simp) (by simp [Res.foot, Value.ownBlock])

/-- A new run. -/
theorem RunHas.fresh_ {S0 : List Nat} {w0 w : World} {m a : Nat} {rs : List Res} (s : Rn) (H : Has S0 w0 w (.mem m a s.L :: rs)) (hn : s.notes = []) (T : TypeId) :
    RunHas S0 w0 m a w.heap.size rs s (w.alloc (.cells (rcells m s (.slice none 0 0)) T)) := by
  refine ⟨.slice none 0 0, ?_⟩
  rw [hn]
  exact (H.al1).own_nil _ _

/-- More is appended to what is owned, fourth in the list. -/
theorem Has.grown4 {S0 : List Nat} {w0 w w' : World} {x y z : Res} {e size n m : Nat} {v v' : Value} {xs ys : List Value} {rs : List Res} (h : Has S0 w0 w (x :: y :: z :: .own e size v n xs :: rs)) (hown : w'.ownsRow 0 e size v' m ys) (hg : w.grownBy w' v.ownBlock)
    (hat : v'.ownBlock = v.ownBlock ∨ v'.ownBlock = some w.heap.size) : Has S0 w0 w' (x :: y :: z :: .own e size v' m ys :: rs) :=
  ((h.perm (perm_past3 x y z [_] rs).symm).grown hown hg hat).perm (perm_past3 x y z [_] rs)

/-- What an operation by itself tells. -/
def AloneEnd (S0 : List Nat) (w0 : World) (m a : Nat) (rs : List Res) (R : Int × Rn) (e : Ending) (w' : World) : Prop :=
  ∃ v, e = .returned (.tuple #[.int .i64 R.1, v]) ∧ Has S0 w0 w' (.mem m a R.2.L :: rs)

end Go.Proofs.Ytlndihdlodempaa.Z

/- What may be begun, and what one holds: no lock in sight. -/
set_option linter.unusedVariables false
namespace Go.Proofs.Ytlndihdlodempaa.Z
/-- May this be begun by one that holds this? -/
def mayB (op hold : Int) : Bool := if hold = 0 then op == 1 || op == 3 || op == 5 || op == 6 else if hold = 1 then op == 2 || op == 7 else op == 4 || op == 8
def fromA (op hold : Int) : Int := if op = 2 ∨ op = 4 then 0 else if op = 8 then 1 else hold
def behindA (op ret hold : Int) : Int := if ret ≠ 2 then hold else if op = 1 ∨ op = 5 then 1 else if op = 3 ∨ op = 6 ∨ op = 7 then 2 else hold
end Go.Proofs.Ytlndihdlodempaa.Z

/- Tasks over a lock: what a pick does; and how they lie in a world. No lock in sight. -/
set_option linter.unusedVariables false
set_option linter.unusedSimpArgs false
namespace Go.Proofs.Ytlndihdlodempaa.Z
open Go.RowKit

/-- Tasks over a lock: how many, in which mode; the words; how far each is; what each holds. -/
structure Mt where
  n : Int
  mode : Int
  L : List Int
  fs : List Fr
  hold : List Int

/-- An operation that begins. -/
def frOp (op : Int) : Fr := ⟨op, 0, 0, 0, 0, Wk.zero, 0⟩
def Mt.run (M : Mt) (i : Nat) (f : Fr) : Rn := ⟨M.n, M.mode, i, f, Acc.zero, [], M.L⟩
/-- A task's frame, and what it holds. -/
def Mt.put (M : Mt) (i : Nat) (f : Fr) (h : Int) (L : List Int) : Mt := { M with L := L, fs := M.fs.set i f, hold := M.hold.set i h }
def Mt.goes (g : Rn → Rn) (M : Mt) (i : Nat) (f : Fr) (h : Int) : Mt :=
  if (!f.wk.on && stuckA M.L M.n M.mode i f.st) = true then M.put i f h M.L
  else if (stepR g (M.run i f)).over = true then M.put i Fr.zero (behindA (stepR g (M.run i f)).f.op (stepR g (M.run i f)).f.ret h) (stepR g (M.run i f)).L
  else M.put i (stepR g (M.run i f)).f h (stepR g (M.run i f)).L
/-- A pick. -/
def Mt.play (g : Rn → Rn) (M : Mt) (i : Nat) (op : Int) : Mt :=
  if (M.fs.getD i Fr.zero).op = 0 then if mayB op (M.hold.getD i 0) = true then M.goes g i (frOp op) (fromA op (M.hold.getD i 0)) else M
  else M.goes g i (M.fs.getD i Fr.zero) (M.hold.getD i 0)
/-- How many hold this. -/
def Mt.many (M : Mt) (what : Int) : Nat := M.hold.countP (· == what)

theorem stepR_fresh (g : Rn → Rn) (s : Rn) : stepR g s = stepR g s.fresh := rfl
theorem step_run (g : Rn → Rn) (M : Mt) (i : Nat) (f : Fr) (acc : Acc) (notes : List Nt) {s2 : Rn} (h : stepR g ⟨M.n, M.mode, i, f, acc, notes, M.L⟩ = s2) : stepR g (M.run i f) = s2 := by
  rw [← h, stepR_fresh g (M.run i f), stepR_fresh g ⟨M.n, M.mode, i, f, acc, notes, M.L⟩]
  rfl
theorem goes_of {g : Rn → Rn} {M : Mt} {i : Nat} {f : Fr} {h : Int} {s2 : Rn} (hs : stepR g (M.run i f) = s2) :
    M.goes g i f h = if (!f.wk.on && stuckA M.L M.n M.mode i f.st) = true then M.put i f h M.L else if s2.over = true then M.put i Fr.zero (behindA s2.f.op s2.f.ret h) s2.L else M.put i s2.f h s2.L := by
  subst hs
  rfl

/-- A block's cells, as a range. -/
theorem rangeAt_list {w : World} {b : Nat} {cs : List Value} (h : ∀ i, w.cell? ⟨b, i, none⟩ = (cs.toArray)[i]?) : w.rangeAt b 0 cs := fun j v hv => by
  rw [Nat.zero_add, h]
  simpa using hv

/-- A task as it lies in a world. -/
structure Tk where
  r : Nat
  s : Rn
  nv : Value
def Tk.res (m : Nat) (t : Tk) : List Res := [.blk t.r (rcells m t.s t.nv), .own 98 4 t.nv t.s.notes.length (nts t.s.notes)]
def Tk.ptr (t : Tk) : Value := .pointer (some ⟨t.r, 0, none⟩)
def tksRes (m : Nat) (ts : List Tk) : List Res := ts.flatMap (Tk.res m)

structure Fit (M : Mt) (ts : List Tk) : Prop where
  len : ts.length = M.fs.length
  hlen : M.hold.length = M.fs.length
  each : ∀ (i : Nat) (t : Tk), ts[i]? = some t → M.fs[i]? = some t.s.f ∧ t.s.n = M.n ∧ t.s.mode = M.mode ∧ t.s.task = i
  ok : ∀ f, f ∈ M.fs → FrOk f
  n64 : I64 M.n
  few : M.fs.length ≤ 64

def MatchHas (S0 : List Nat) (w0 : World) (m a x hb : Nat) (rs : List Res) (M : Mt) (w : World) : Prop :=
  ∃ (lv : Value) (ts : List Tk), Fit M ts ∧ Has S0 w0 w (.mem m a M.L :: .blk x #[lv, .slice (some ⟨hb, 0, none⟩) M.fs.length M.fs.length] :: .own 36 1 lv M.fs.length (ts.map Tk.ptr) :: .blk hb (i64s M.hold).toArray :: (tksRes m ts ++ rs))

/-- A task's run in front: the match's block and what is held lie behind it. -/
def Opn (S0 : List Nat) (w0 : World) (m a x hb r : Nat) (lv : Value) (k : Nat) (hold : List Int) (rest : List Res) (s : Rn) (w : World) : Prop :=
  RunHas S0 w0 m a r (.blk x #[lv, .slice (some ⟨hb, 0, none⟩) k k] :: .blk hb (i64s hold).toArray :: rest) s w

theorem perm_opn {α : Type} (a b c d e f : α) (P Q : List α) : (a :: b :: c :: d :: (P ++ e :: f :: Q)).Perm (a :: e :: f :: b :: d :: c :: (P ++ Q)) := by
  have h1 : (P ++ e :: f :: Q).Perm (e :: f :: (P ++ Q)) := (List.perm_middle).trans (List.Perm.cons _ List.perm_middle)
  have h2 : (a :: b :: c :: d :: e :: f :: (P ++ Q)).Perm (a :: e :: f :: b :: d :: c :: (P ++ Q)) :=
    (((((perm_front (a :: b :: c :: d :: e :: f :: (P ++ Q)) 2 (by simp)).trans (perm_front (c :: a :: b :: d :: e :: f :: (P ++ Q)) 3 (by simp))).trans (perm_front (d :: c :: a :: b :: e :: f :: (P ++ Q)) 3 (by simp))).trans
      (perm_front (b :: d :: c :: a :: e :: f :: (P ++ Q)) 5 (by simp))).trans (perm_front (f :: b :: d :: c :: a :: e :: (P ++ Q)) 5 (by simp))).trans (perm_front (e :: f :: b :: d :: c :: a :: (P ++ Q)) 5 (by simp))
  exact ((((h1.cons d).cons c).cons b).cons a).trans h2

theorem split_at {α : Type} : ∀ (l : List α) (i : Nat), i < l.length → ∃ p t q, l = p ++ t :: q ∧ p.length = i
  | [], i, h => by simp at h
  | x :: l, 0, _ => ⟨[], x, l, rfl, rfl⟩
  | x :: l, i + 1, h => by
    obtain ⟨p, t, q, rfl, rfl⟩ := split_at l i (by simpa using h)
    exact ⟨x :: p, t, q, rfl, rfl⟩

theorem ptrs_at {w : World} {e n i : Nat} {v : Value} {ts : List Tk} (h : w.ownsRow 0 e 1 v n (ts.map Tk.ptr)) {t : Tk} (hi : ts[i]? = some t) :
    ∃ b off cap, v = .slice (some ⟨b, off, none⟩) n cap ∧ b < w.heap.size ∧ w.cell? ⟨b, off + i, none⟩ = some (.pointer (some ⟨t.r, 0, none⟩)) := by
  obtain ⟨p, cap, rfl⟩ := owns_slice h
  have hr := Rd.own h
  have hl : i < ts.length := by
    rcases Nat.lt_or_ge i ts.length with h1 | h1
    · exact h1
    · rw [List.getElem?_eq_none h1] at hi; cases hi
  have hn : 0 < n := by have := hr.1; rw [List.length_map] at this; omega
  obtain ⟨b, off, rfl, hb, hc⟩ := hr.lit hn (by omega)
  exact ⟨b, off, cap, rfl, hb, hc i _ (by rw [List.getElem?_map, hi]; rfl)⟩

/-- A task's run is taken in front, and laid back. -/
theorem MatchHas.opened {S0 : List Nat} {w0 w : World} {m a x hb : Nat} {rs : List Res} {M : Mt} (H : MatchHas S0 w0 m a x hb rs M w) {i : Nat} (hi : i < M.fs.length) :
    ∃ (r b off cap : Nat) (rest : List Res) (s : Rn), s.f = M.fs.getD i Fr.zero ∧ s.n = M.n ∧ s.mode = M.mode ∧ s.task = i ∧ s.L = M.L ∧
      Opn S0 w0 m a x hb r (.slice (some ⟨b, off, none⟩) M.fs.length cap) M.fs.length M.hold rest s w ∧
      (∀ W s' hold', Opn S0 w0 m a x hb r (.slice (some ⟨b, off, none⟩) M.fs.length cap) M.fs.length hold' rest s' W → b < W.heap.size ∧ W.cell? ⟨b, off + i, none⟩ = some (.pointer (some ⟨r, 0, none⟩))) ∧
      (∀ W s' h', Opn S0 w0 m a x hb r (.slice (some ⟨b, off, none⟩) M.fs.length cap) M.fs.length (M.hold.set i h') rest s' W → FrOk s'.f → s'.n = M.n → s'.mode = M.mode → s'.task = i → MatchHas S0 w0 m a x hb rs (M.put i s'.f h' s'.L) W) := by
  obtain ⟨lv, ts, F, H⟩ := H
  obtain ⟨p, t, q, rfl, hp⟩ := split_at ts i (by rw [F.len]; exact hi)
  have hti : (p ++ t :: q)[i]? = some t := by rw [List.getElem?_append_right (by omega), hp, Nat.sub_self]; rfl
  obtain ⟨b, off, cap, rfl, hbl, hc⟩ := ptrs_at (H.all (.own 36 1 lv M.fs.length ((p ++ t :: q).map Tk.ptr)) (by simp)) hti
  obtain ⟨e1, e2, e3, e4⟩ := F.each i t hti
  obtain ⟨r, s, nv⟩ := t
  have hsplit : ∀ (t' : Tk), tksRes m (p ++ t' :: q) ++ rs = tksRes m p ++ .blk t'.r (rcells m t'.s t'.nv) :: .own 98 4 t'.nv t'.s.notes.length (nts t'.s.notes) :: (tksRes m q ++ rs) := by
    intro t'
    simp [tksRes, Tk.res]
  rw [hsplit] at H
  have H1 := H.perm (perm_opn _ _ _ _ _ _ _ _)
  refine ⟨r, b, off, cap, .own 36 1 (.slice (some ⟨b, off, none⟩) M.fs.length cap) M.fs.length ((p ++ (⟨r, s, nv⟩ : Tk) :: q).map Tk.ptr) :: (tksRes m p ++ (tksRes m q ++ rs)), { s with L := M.L }, ?_, e2, e3, e4, rfl, ⟨nv, H1⟩, ?_, ?_⟩
  · simp only [List.getD, e1]; rfl
  · rintro W s' hold' ⟨nv', H2⟩
    have hown := H2.all (.own 36 1 (.slice (some ⟨b, off, none⟩) M.fs.length cap) M.fs.length ((p ++ (⟨r, s, nv⟩ : Tk) :: q).map Tk.ptr)) (by simp)
    obtain ⟨b', off', cap', hv, hb', hc'⟩ := ptrs_at hown hti
    simp only [Value.slice.injEq, Option.some.injEq, Addr.mk.injEq] at hv
    obtain ⟨⟨rfl, rfl, _⟩, _, rfl⟩ := hv
    exact ⟨hb', hc'⟩
  · rintro W s' h' ⟨nv', H2⟩ hok hn hm ht
    refine ⟨.slice (some ⟨b, off, none⟩) M.fs.length cap, p ++ (⟨r, s', nv'⟩ : Tk) :: q, ⟨?_, ?_, ?_, ?_, F.n64, ?_⟩, ?_⟩
    · have := F.len
      simp only [List.length_append, List.length_cons, Mt.put, List.length_set] at this ⊢
      exact this
    · simp only [Mt.put, List.length_set]; exact F.hlen
    · intro j t' hj
      by_cases hji : j = i
      · subst hji
        rw [List.getElem?_append_right (by omega), hp, Nat.sub_self] at hj
        simp only [List.getElem?_cons_zero, Option.some.injEq] at hj
        subst hj
        refine ⟨?_, hn, hm, ht⟩
        simp only [Mt.put]
        rw [List.getElem?_set_self hi]
      · have hj' : (p ++ (⟨r, s, nv⟩ : Tk) :: q)[j]? = some t' := by
          rcases Nat.lt_or_ge j p.length with h1 | h1
          · rw [List.getElem?_append_left h1] at hj ⊢
            exact hj
          · rw [List.getElem?_append_right h1] at hj ⊢
            obtain ⟨d, hd⟩ : ∃ d, j - p.length = d + 1 := ⟨j - p.length - 1, by omega⟩
            rw [hd] at hj ⊢
            exact hj
        have := F.each j t' hj'
        refine ⟨?_, this.2⟩
        simp only [Mt.put]
        rw [List.getElem?_set_ne (fun e => hji e.symm)]
        exact this.1
    · intro f hf
      rcases List.mem_or_eq_of_mem_set hf with h1 | rfl
      · exact F.ok f h1
      · exact hok
    · simp only [Mt.put, List.length_set]; exact F.few
    · have H3 := H2.perm (perm_opn (.mem m a s'.L) (.blk x #[.slice (some ⟨b, off, none⟩) M.fs.length cap, .slice (some ⟨hb, 0, none⟩) M.fs.length M.fs.length]) (.own 36 1 (.slice (some ⟨b, off, none⟩) M.fs.length cap) M.fs.length ((p ++ (⟨r, s, nv⟩ : Tk) :: q).map Tk.ptr)) (.blk hb (i64s (M.hold.set i h')).toArray) (.blk r (rcells m s' nv')) (.own 98 4 nv' s'.notes.length (nts s'.notes)) (tksRes m p) (tksRes m q ++ rs)).symm
      rw [hsplit ⟨r, s', nv'⟩]
      simp only [Mt.put, List.length_set]
      have he : (p ++ (⟨r, s', nv'⟩ : Tk) :: q).map Tk.ptr = (p ++ (⟨r, s, nv⟩ : Tk) :: q).map Tk.ptr := by simp [Tk.ptr]
      rw [he]
      exact H3

theorem MatchHas.fit {S0 : List Nat} {w0 w : World} {m a x hb : Nat} {rs : List Res} {M : Mt} (H : MatchHas S0 w0 m a x hb rs M w) : M.hold.length = M.fs.length ∧ (∀ f, f ∈ M.fs → FrOk f) ∧ I64 M.n ∧ M.fs.length ≤ 64 := by
  obtain ⟨lv, ts, F, H⟩ := H
  exact ⟨F.hlen, F.ok, F.n64, F.few⟩
theorem MatchHas.words {S0 : List Nat} {w0 w : World} {m a x hb : Nat} {rs : List Res} {M : Mt} (H : MatchHas S0 w0 m a x hb rs M w) : Words M.L := by
  obtain ⟨lv, ts, F, H⟩ := H
  exact H.mem.words
theorem MatchHas.touch {S0 : List Nat} {w0 w : World} {m a x hb : Nat} {rs : List Res} {M : Mt} (H : MatchHas S0 w0 m a x hb rs M w) : Touch S0 w0 w := by
  obtain ⟨lv, ts, F, H⟩ := H
  exact H.touch
theorem MatchHas.grow {w' : World} {S0 : List Nat} {w0 w : World} {m a x hb : Nat} {rs : List Res} {M : Mt} (H : MatchHas S0 w0 m a x hb rs M w) (t : Touch [] w w') : MatchHas S0 w0 m a x hb rs M w' := by
  obtain ⟨lv, ts, F, H⟩ := H
  exact ⟨lv, ts, F, H.grow t⟩
theorem MatchHas.drew {S0 : List Nat} {w0 w : World} {m a x hb : Nat} {rs : List Res} {M : Mt} (H : MatchHas S0 w0 m a x hb rs M w) : MatchHas S0 w0 m a x hb rs M w.drew := by
  obtain ⟨lv, ts, F, H⟩ := H
  exact ⟨lv, ts, F, H.drew⟩
/-- What is held, as a walk reads it. -/
theorem MatchHas.held {S0 : List Nat} {w0 w : World} {m a x hb : Nat} {rs : List Res} {M : Mt} (H : MatchHas S0 w0 m a x hb rs M w) :
    x < w.heap.size ∧ w.cell? ⟨x, 1, none⟩ = some (.slice (some ⟨hb, 0, none⟩) M.fs.length M.fs.length) ∧ hb < w.heap.size ∧ ∀ i, i < M.fs.length → w.cell? ⟨hb, i, none⟩ = some (.int .i64 (M.hold.getD i 0)) := by
  obtain ⟨lv, ts, F, H⟩ := H
  have h1 := H.at_ 1 rfl
  have h3 := H.at_ 3 rfl
  refine ⟨h1.lt, h1.cell 1, h3.lt, fun i hi => ?_⟩
  rw [h3.cell]
  have : i < M.hold.length := by rw [F.hlen]; exact hi
  simp [i64s, List.getD, this]
/-- A block among the rest. -/
theorem MatchHas.behind {S0 : List Nat} {w0 w : World} {m a x hb : Nat} {rs : List Res} {M : Mt} (H : MatchHas S0 w0 m a x hb rs M w) (j : Nat) {b : Nat} {cs : Array Value} (hj : rs[j]? = some (.blk b cs)) : Blk w b cs := by
  obtain ⟨lv, ts, F, H⟩ := H
  have hm := List.mem_of_getElem? hj
  exact H.all _ (by simp only [List.mem_cons, List.mem_append]; exact Or.inr (Or.inr (Or.inr (Or.inr (Or.inr hm)))))
/-- A box more among the rest. -/
theorem MatchHas.box {S0 : List Nat} {w0 w : World} {m a x hb : Nat} {rs : List Res} {M : Mt} (H : MatchHas S0 w0 m a x hb rs M w) {b : Nat} (hb' : w.heap.size = b) (cs : Array Value) (T : TypeId) : MatchHas S0 w0 m a x hb (.blk b cs :: rs) M (w.alloc (.cells cs T)) := by
  obtain ⟨lv, ts, F, H⟩ := H
  refine ⟨lv, ts, F, ?_⟩
  have H1 := (H.new hb' cs T)
  refine H1.perm ?_
  refine List.Perm.trans ?_ (List.Perm.append_left [_, _, _, _] (List.perm_middle (l₁ := tksRes m ts) (l₂ := rs) (a := .blk b cs)).symm)
  exact (perm_past4 _ _ _ _ [.blk b cs] (tksRes m ts ++ rs))

end Go.Proofs.Ytlndihdlodempaa.Z

/- Tasks over a lock: how they begin; operations that are let go on alone; rounds. No lock in sight. -/
set_option linter.unusedVariables false
set_option linter.unusedSimpArgs false
namespace Go.Proofs.Ytlndihdlodempaa.Z
open Go.RowKit

def Mt.start (k : Nat) (mode : Int) (Z : List Int) : Mt := ⟨k, mode, Z, List.replicate k Fr.zero, List.replicate k 0⟩

/-- A task is let go on alone. -/
def whileA (g : Rn → Rn) (t : Nat) : Nat → Mt → Mt
  | 0, M => M
  | n + 1, M => if (M.fs.getD t Fr.zero).op = 0 then M else whileA g t n (M.play g t 0)
def wholeA (g : Rn → Rn) (M : Mt) (t : Nat) (op : Int) : Mt := whileA g t 200 (M.play g t op)
def readsA (g : Rn → Rn) (op : Int) (M : Mt) : Nat → Mt
  | 0 => M
  | j + 1 => wholeA g (readsA g op M j) j op
def givesA (g : Rn → Rn) (k : Nat) (M : Mt) : Nat → Mt
  | 0 => M
  | j + 1 => wholeA g (wholeA g (givesA g k M j) (k - 1) 6) j 2
/-- One after the other reads; a writer is refused until all have given back. -/
structure TogetherOk (g : Rn → Rn) (k : Nat) (op : Int) (M : Mt) : Prop where
  reads : ∀ j, j < k - 1 → (readsA g op M (j + 1)).many 1 = j + 1
  tried : ∀ j, j < k - 1 → (wholeA g (givesA g k (readsA g op M (k - 1)) j) (k - 1) 6).hold.getD (k - 1) 0 = 0
  last : (wholeA g (givesA g k (readsA g op M (k - 1)) (k - 1)) (k - 1) 6).hold.getD (k - 1) 0 = 2 ∧ (wholeA g (givesA g k (readsA g op M (k - 1)) (k - 1)) (k - 1) 6).many 1 = 0

def playsA (g : Rn → Rn) (k : Nat) (M : Mt) (l : List (Int × Int)) : Mt := l.foldl (fun M x => M.play g ((x.1 % (k : Int)).toNat) (x.2 % 9)) M
def backA (g : Rn → Rn) (M : Mt) : Nat → Mt
  | 0 => M
  | t + 1 => (backA g M t).play g t (2 * (backA g M t).hold.getD t 0)
def roundsA (g : Rn → Rn) (k : Nat) (M : Mt) : Nat → Mt
  | 0 => M
  | r + 1 => backA g (roundsA g k M r) k
/-- One writes, or many read; let go on, all come to rest. -/
structure ExcludesOk (g : Rn → Rn) (k : Nat) (M : Mt) (l : List (Int × Int)) : Prop where
  safe : ∀ j, j ≤ l.length → ¬ ((playsA g k M (l.take j)).many 2 > 1 ∨ (playsA g k M (l.take j)).many 2 = 1 ∧ (playsA g k M (l.take j)).many 1 > 0)
  rest : ∀ t, t < k → ((roundsA g k (playsA g k M l) (2 * k * (8 * k + 40))).fs.getD t Fr.zero).op = 0 ∧ (roundsA g k (playsA g k M l) (2 * k * (8 * k + 40))).hold.getD t 0 = 0

theorem goes_same (g : Rn → Rn) (M : Mt) (i : Nat) (f : Fr) (h : Int) : (M.goes g i f h).n = M.n ∧ (M.goes g i f h).mode = M.mode ∧ (M.goes g i f h).fs.length = M.fs.length ∧ (M.goes g i f h).hold.length = M.hold.length := by
  unfold Mt.goes Mt.put
  split
  · simp
  · split <;> simp
theorem play_same (g : Rn → Rn) (M : Mt) (i : Nat) (op : Int) : (M.play g i op).n = M.n ∧ (M.play g i op).mode = M.mode ∧ (M.play g i op).fs.length = M.fs.length ∧ (M.play g i op).hold.length = M.hold.length := by
  unfold Mt.play
  split
  · split
    · exact goes_same _ _ _ _ _
    · simp
  · exact goes_same _ _ _ _ _
theorem while_len (g : Rn → Rn) (t n : Nat) : ∀ M : Mt, (whileA g t n M).fs.length = M.fs.length := by
  induction n with
  | zero => intro M; rfl
  | succ n ih =>
    intro M
    unfold whileA
    split
    · rfl
    · rw [ih]; exact (play_same _ _ _ _).2.2.1
theorem whole_len (g : Rn → Rn) (M : Mt) (t : Nat) (op : Int) : (wholeA g M t op).fs.length = M.fs.length := (while_len _ _ _ _).trans (play_same _ _ _ _).2.2.1
theorem reads_len (g : Rn → Rn) (op : Int) (M : Mt) (j : Nat) : (readsA g op M j).fs.length = M.fs.length := by
  induction j with
  | zero => rfl
  | succ j ih => exact (whole_len _ _ _ _).trans ih
theorem gives_len (g : Rn → Rn) (k : Nat) (M : Mt) (j : Nat) : (givesA g k M j).fs.length = M.fs.length := by
  induction j with
  | zero => rfl
  | succ j ih => exact (whole_len _ _ _ _).trans ((whole_len _ _ _ _).trans ih)
theorem plays_len (g : Rn → Rn) (k : Nat) (l : List (Int × Int)) : ∀ M : Mt, (playsA g k M l).fs.length = M.fs.length := by
  induction l with
  | nil => intro M; rfl
  | cons x l ih => intro M; exact (ih _).trans (play_same _ _ _ _).2.2.1
theorem back_len (g : Rn → Rn) (M : Mt) (t : Nat) : (backA g M t).fs.length = M.fs.length := by
  induction t with
  | zero => rfl
  | succ t ih => exact (play_same _ _ _ _).2.2.1.trans ih
theorem rounds_len (g : Rn → Rn) (k : Nat) (M : Mt) (r : Nat) : (roundsA g k M r).fs.length = M.fs.length := by
  induction r with
  | zero => rfl
  | succ r ih => exact (back_len _ _ _).trans ih
theorem plays_snoc (g : Rn → Rn) (k : Nat) (M : Mt) (l : List (Int × Int)) (j : Nat) (h : j < l.length) : playsA g k M (l.take (j + 1)) = (playsA g k M (l.take j)).play g (((l.getD j (0, 0)).1 % (k : Int)).toNat) ((l.getD j (0, 0)).2 % 9) := by
  rw [List.take_succ_eq_append_getElem h]
  unfold playsA
  rw [List.foldl_append]
  simp [List.getD, h]
theorem count_snoc (l : List Int) (what : Int) (j : Nat) (h : j < l.length) : (l.take (j + 1)).countP (· == what) = (l.take j).countP (· == what) + if l.getD j 0 = what then 1 else 0 := by
  rw [List.take_succ_eq_append_getElem h, List.countP_append]
  simp [List.getD, h, List.countP_cons]

/-- What a walk reads of a task: how far it is. -/
theorem MatchHas.look {S0 : List Nat} {w0 w : World} {m a x hb : Nat} {rs : List Res} {M : Mt} (H : MatchHas S0 w0 m a x hb rs M w) {i : Nat} (hi : i < M.fs.length) :
    ∃ r b off cap : Nat, x < w.heap.size ∧ w.cell? ⟨x, 0, none⟩ = some (.slice (some ⟨b, off, none⟩) M.fs.length cap) ∧ b < w.heap.size ∧ w.cell? ⟨b, off + i, none⟩ = some (.pointer (some ⟨r, 0, none⟩)) ∧ r < w.heap.size ∧ w.cell? ⟨r, 4, none⟩ = some (.int .i64 (M.fs.getD i Fr.zero).op) := by
  obtain ⟨r, b, off, cap, rest, s, e1, e2, e3, e4, e5, hO, hptr, hback⟩ := H.opened hi
  obtain ⟨p0, p1⟩ := hptr _ _ _ hO
  obtain ⟨nv, hO⟩ := hO
  have h1 := hO.blk1
  have h3 := hO.at_ 3 rfl
  rw [← e1]
  exact ⟨r, b, off, cap, h3.lt, h3.cell 0, p0, p1, h1.lt, h1.cell 4⟩

/-- A store into a box. -/
theorem MatchHas.setBox {S0 : List Nat} {w0 w : World} {m a x hb bx : Nat} {cs : Array Value} {rs : List Res} {M : Mt} (H : MatchHas S0 w0 m a x hb (.blk bx cs :: rs) M w) (i : Nat) (v : Value) : MatchHas S0 w0 m a x hb (.blk bx (cs.setIfInBounds i v) :: rs) M (w.setCell ⟨bx, i, none⟩ v) := by
  obtain ⟨lv, ts, F, H⟩ := H
  refine ⟨lv, ts, F, ?_⟩
  have e : ∀ cs : Array Value, (.mem m a M.L :: .blk x #[lv, .slice (some ⟨hb, 0, none⟩) M.fs.length M.fs.length] :: .own 36 1 lv M.fs.length (ts.map Tk.ptr) :: .blk hb (i64s M.hold).toArray :: (tksRes m ts ++ .blk bx cs :: rs)).Perm (.blk bx cs :: .mem m a M.L :: .blk x #[lv, .slice (some ⟨hb, 0, none⟩) M.fs.length M.fs.length] :: .own 36 1 lv M.fs.length (ts.map Tk.ptr) :: .blk hb (i64s M.hold).toArray :: (tksRes m ts ++ rs)) := fun cs =>
    (((((List.perm_middle (a := Res.blk bx cs)).cons _).cons _).cons _).cons _).trans (perm_past4 _ _ _ _ [Res.blk bx cs] (tksRes m ts ++ rs)).symm
  exact ((H.perm (e cs)).set i v).perm (e _).symm

/-- How tasks begin. -/
def Tk.idle (m : Nat) (n mode : Int) (Z : List Int) (i : Nat) (r : Nat) : Tk := ⟨r, ⟨n, mode, i, Fr.zero, Acc.zero, [], Z⟩, .slice none 0 0⟩
def BegunHas (S0 : List Nat) (w0 : World) (m a x hb : Nat) (k : Nat) (n mode : Int) (Z : List Int) (rs : List Res) (j : Nat) (w : World) : Prop :=
  ∃ (lv : Value) (ts : List Tk), ts.length = j ∧ (∀ i t, ts[i]? = some t → ∃ r, t = Tk.idle m n mode Z i r) ∧
    Has S0 w0 w (.mem m a Z :: .blk x #[lv, .slice (some ⟨hb, 0, none⟩) k k] :: .own 36 1 lv j (ts.map Tk.ptr) :: .blk hb (i64s (List.replicate k 0)).toArray :: (tksRes m ts ++ rs))

theorem begun_done {S0 : List Nat} {w0 w : World} {m a x hb k : Nat} {mode : Int} {Z : List Int} {rs : List Res} (h64 : k ≤ 64) (H : BegunHas S0 w0 m a x hb k k mode Z rs k w) : MatchHas S0 w0 m a x hb rs (Mt.start k mode Z) w := by
  obtain ⟨lv, ts, hl, hi, H⟩ := H
  refine ⟨lv, ts, ⟨by simp [Mt.start, hl], by simp [Mt.start], fun i t ht => ?_, fun f hf => ?_, ?_, by simpa [Mt.start] using h64⟩, ?_⟩
  · obtain ⟨r, rfl⟩ := hi i t ht
    have hlt : i < k := by
      rcases Nat.lt_or_ge i ts.length with h1 | h1
      · omega
      · rw [List.getElem?_eq_none h1] at ht; cases ht
    refine ⟨?_, rfl, rfl, rfl⟩
    simp [Mt.start, Tk.idle, hlt]
  · obtain rfl := (List.mem_replicate.1 hf).2
    exact ⟨by simp [Fr.zero], by simp [Fr.zero]⟩
  · show I64 (k : Int)
    unfold I64
    omega
  · have e : (Mt.start k mode Z).fs.length = k := by simp [Mt.start]
    rw [e]
    exact H

/-- A whole row of cells that was made. -/
theorem own_full {w : World} {base : Nat} {e : TypeId} {b n : Nat} {xs : List Value} (h : w.ownsRow base e 1 (.slice (some ⟨b, 0, none⟩) n n) n xs) : Blk w b xs.toArray := by
  rcases h.2 with ⟨hv, _⟩ | ⟨g, cap, cur, hv, _, hg, _, _, hs, ht⟩
  · cases hv
  · simp only [Value.slice.injEq, Option.some.injEq, Addr.mk.injEq] at hv
    obtain ⟨⟨rfl, _, _⟩, _, rfl⟩ := hv
    refine ⟨e, ?_⟩
    rw [hg]
    have : cur.toList = xs := by rw [← ht, List.take_of_length_le]; simp [hs]
    rw [← this]
theorem rd_cells {w : World} {b : Nat} {l : List Value} (h : Blk w b l.toArray) : Rd w 1 (some ⟨b, 0, none⟩) l.length l :=
  ⟨by simp, fun _ => ⟨_, rfl, h.lt, fun j u hu => by
    rw [Addr.add_lit, Nat.zero_add, h.cell, ← hu]
    simp⟩⟩

theorem Has.grown1 {S0 : List Nat} {w0 w w' : World} {e size n m : Nat} {v v' : Value} {xs ys : List Value} {rs : List Res} (i : Nat) (hi : i < rs.length) (h : Has S0 w0 w rs) (he : rs[i] = .own e size v n xs) (hown : w'.ownsRow 0 e size v' m ys) (hg : w.grownBy w' v.ownBlock)
    (hat : v'.ownBlock = v.ownBlock ∨ v'.ownBlock = some w.heap.size) : Has S0 w0 w' (.own e size v' m ys :: rs.eraseIdx i) := by
  have h1 := h.front i hi
  rw [he] at h1
  exact h1.grown hown hg hat

theorem begun_more {S0 : List Nat} {w0 w w' : World} {m a x hb k j : Nat} {n mode : Int} {Z : List Int} {rs : List Res} {lv v' : Value} {ts : List Tk} {r lit : Nat} (hl : ts.length = j) (hi : ∀ i t, ts[i]? = some t → ∃ r, t = Tk.idle m n mode Z i r)
    (H : Has S0 w0 w (.blk lit #[.pointer (some ⟨r, 0, none⟩)] :: .blk r (rcells m ⟨n, mode, j, Fr.zero, Acc.zero, [], Z⟩ (.slice none 0 0)) :: .mem m a Z :: .blk x #[lv, .slice (some ⟨hb, 0, none⟩) k k] :: .own 36 1 lv j (ts.map Tk.ptr) :: .blk hb (i64s (List.replicate k 0)).toArray :: (tksRes m ts ++ rs)))
    (hown : w'.ownsRow 0 36 1 v' (j + 1) (ts.map Tk.ptr ++ [.pointer (some ⟨r, 0, none⟩)])) (hg : w.grownBy w' lv.ownBlock) (hat : v'.ownBlock = lv.ownBlock ∨ v'.ownBlock = some w.heap.size) :
    BegunHas S0 w0 m a x hb k n mode Z rs (j + 1) (w'.setCell ⟨x, 0, none⟩ v') := by
  have H1 := Has.grown1 4 (by simp) H rfl hown hg hat
  have H2 : Has S0 w0 w' (.blk x #[lv, .slice (some ⟨hb, 0, none⟩) k k] :: .own 36 1 v' (j + 1) (ts.map Tk.ptr ++ [.pointer (some ⟨r, 0, none⟩)]) :: .blk lit #[.pointer (some ⟨r, 0, none⟩)] :: .blk r (rcells m ⟨n, mode, j, Fr.zero, Acc.zero, [], Z⟩ (.slice none 0 0)) :: .mem m a Z :: .blk hb (i64s (List.replicate k 0)).toArray :: (tksRes m ts ++ rs)) := H1.front 4 (by simp)
  have H3 := (H2.set 0 v').ownNil 98 4
  -- own0, x, own, lit, run, mem, hb, rest
  have H4 := (H3.front 3 (by simp)).tail
  -- own0, x, own, run, mem, hb, rest
  refine ⟨v', ts ++ [Tk.idle m n mode Z j r], by simp [hl], fun i t ht => ?_, ?_⟩
  · rcases Nat.lt_or_ge i ts.length with h1 | h1
    · rw [List.getElem?_append_left h1] at ht
      exact hi i t ht
    · rw [List.getElem?_append_right h1] at ht
      have : i = ts.length := by
        rcases Nat.lt_or_ge (i - ts.length) 1 with h2 | h2
        · omega
        · rw [List.getElem?_eq_none (by simpa using h2)] at ht; cases ht
      subst this
      rw [Nat.sub_self] at ht
      simp only [List.getElem?_cons_zero, Option.some.injEq] at ht
      subst ht
      exact ⟨r, by rw [hl]⟩
  · have e1 : (ts ++ [Tk.idle m n mode Z j r]).map Tk.ptr = ts.map Tk.ptr ++ [.pointer (some ⟨r, 0, none⟩)] := by simp [Tk.ptr, Tk.idle]
    have e2 : tksRes m (ts ++ [Tk.idle m n mode Z j r]) ++ rs = tksRes m ts ++ .blk r (rcells m ⟨n, mode, j, Fr.zero, Acc.zero, [], Z⟩ (.slice none 0 0)) :: .own 98 4 (.slice none 0 0) 0 [] :: rs := by simp [tksRes, Tk.res, Tk.idle, nts]
    rw [e1, e2]
    refine H4.perm (List.Perm.trans ?_ (perm_opn _ _ _ _ _ _ _ _).symm)
    -- own0, x, own, run, mem, hb, Z  ~  mem, run, own0, x, hb, own, Z
    exact ((((((perm_front (.own 98 4 (.slice none 0 0) 0 [] :: .blk x #[v', .slice (some ⟨hb, 0, none⟩) k k] :: .own 36 1 v' (j + 1) (ts.map Tk.ptr ++ [.pointer (some ⟨r, 0, none⟩)]) :: .blk r (rcells m ⟨n, mode, j, Fr.zero, Acc.zero, [], Z⟩ (.slice none 0 0)) :: .mem m a Z :: .blk hb (i64s (List.replicate k 0)).toArray :: (tksRes m ts ++ rs)) 2 (by simp)).trans
      (perm_front (.own 36 1 v' (j + 1) (ts.map Tk.ptr ++ [.pointer (some ⟨r, 0, none⟩)]) :: .own 98 4 (.slice none 0 0) 0 [] :: .blk x #[v', .slice (some ⟨hb, 0, none⟩) k k] :: .blk r (rcells m ⟨n, mode, j, Fr.zero, Acc.zero, [], Z⟩ (.slice none 0 0)) :: .mem m a Z :: .blk hb (i64s (List.replicate k 0)).toArray :: (tksRes m ts ++ rs)) 5 (by simp))).trans
      (perm_front (.blk hb (i64s (List.replicate k 0)).toArray :: .own 36 1 v' (j + 1) (ts.map Tk.ptr ++ [.pointer (some ⟨r, 0, none⟩)]) :: .own 98 4 (.slice none 0 0) 0 [] :: .blk x #[v', .slice (some ⟨hb, 0, none⟩) k k] :: .blk r (rcells m ⟨n, mode, j, Fr.zero, Acc.zero, [], Z⟩ (.slice none 0 0)) :: .mem m a Z :: (tksRes m ts ++ rs)) 3 (by simp))).trans
      (perm_front (.blk x #[v', .slice (some ⟨hb, 0, none⟩) k k] :: .blk hb (i64s (List.replicate k 0)).toArray :: .own 36 1 v' (j + 1) (ts.map Tk.ptr ++ [.pointer (some ⟨r, 0, none⟩)]) :: .own 98 4 (.slice none 0 0) 0 [] :: .blk r (rcells m ⟨n, mode, j, Fr.zero, Acc.zero, [], Z⟩ (.slice none 0 0)) :: .mem m a Z :: (tksRes m ts ++ rs)) 3 (by simp))).trans
      (perm_front (.own 98 4 (.slice none 0 0) 0 [] :: .blk x #[v', .slice (some ⟨hb, 0, none⟩) k k] :: .blk hb (i64s (List.replicate k 0)).toArray :: .own 36 1 v' (j + 1) (ts.map Tk.ptr ++ [.pointer (some ⟨r, 0, none⟩)]) :: .blk r (rcells m ⟨n, mode, j, Fr.zero, Acc.zero, [], Z⟩ (.slice none 0 0)) :: .mem m a Z :: (tksRes m ts ++ rs)) 4 (by simp))).trans
      (perm_front (.blk r (rcells m ⟨n, mode, j, Fr.zero, Acc.zero, [], Z⟩ (.slice none 0 0)) :: .own 98 4 (.slice none 0 0) 0 [] :: .blk x #[v', .slice (some ⟨hb, 0, none⟩) k k] :: .blk hb (i64s (List.replicate k 0)).toArray :: .own 36 1 v' (j + 1) (ts.map Tk.ptr ++ [.pointer (some ⟨r, 0, none⟩)]) :: .mem m a Z :: (tksRes m ts ++ rs)) 5 (by simp)))

end Go.Proofs.Ytlndihdlodempaa.Z
