/- 1 texts of this claim, joined: what Package world needs of them. -/
import Derived.Test.YthnimpkoidablaaGreatZB03
import Derived.Test.YthnimpkoidablaaGreatZB00
set_option linter.unusedVariables false
set_option linter.unusedSimpArgs false
namespace Go.Proofs.YthnimpkoidablaaGreat.Z
open Go
section
variable {P : Program}
theorem touch_get {w w2 : World} (t : Touch [] w w2) {k : Nat} {o : Obj} (h : w.heap[k]? = some o) : w2.heap[k]? = some o := by
  have hk : k < w.heap.size := by
    rcases Nat.lt_or_ge k w.heap.size with h' | h'
    · exact h'
    · simp [Array.getElem?_eq_none h'] at h
  rw [t.block k hk (by simp)]
  exact h
theorem seen_touch {w w2 : World} (t : Touch [] w w2) (at_ : Addr) (u : TypeId) (k : Addr) (b : Bool) {r} (h : w.seen P at_ u k b = .ok r) : w2.seen P at_ u k b = .ok r := by
  cases hc : w.heap[at_.block]? with
  | some o =>
    have := touch_get t hc
    unfold World.seen at h ⊢
    rw [hc] at h
    rw [this]
    exact h
  | none =>
    exfalso
    unfold World.seen at h
    rw [hc] at h
    simp only [bind, Except.bind, pure, Except.pure, throw, throwThe, MonadExceptOf.throw] at h
    repeat' split at h
    all_goals cases h
theorem viewLoad_touch {w w2 : World} (t : Touch [] w w2) (at_ : Addr) (u : TypeId) (k : Addr) (b : Bool) {r} (h : w.viewLoad P at_ u k b = .ok r) : w2.viewLoad P at_ u k b = .ok r := by
  unfold World.viewLoad at h ⊢
  cases hs : w.seen P at_ u k b with
  | ok x => rw [seen_touch t _ _ _ _ hs]; rw [hs] at h; exact h
  | error e => rw [hs] at h; cases h
theorem farLoad_touch {w w2 : World} (t : Touch [] w w2) (a : Addr) (b : Bool) {r} (h : w.farLoad P a b = .ok r) : w2.farLoad P a b = .ok r := by
  unfold World.farLoad at h ⊢
  cases hc : w.heap[a.block]? with
  | none => rw [hc] at h; cases h
  | some o =>
    rw [touch_get t hc]
    rw [hc] at h
    cases o with
    | view at_ u =>
      simp only at h ⊢
      cases hv : w.viewLoad P at_ u a b with
      | ok x => rw [viewLoad_touch t _ _ _ _ hv]; rw [hv] at h; exact h
      | error e => rw [hv] at h; cases h
    | _ => cases h
theorem cell_touch {w w2 : World} (t : Touch [] w w2) {a : Addr} {v : Value} (h : w.cell? a = some v) : w2.cell? a = some v := by
  rw [t.cell (World.block_lt_of_cell? w _ h) (by simp)]
  exact h
def FirmS (P : Program) {α : Type} (s : Sem α) : Prop := ∀ w a w', s.run P w = .ok a w' → w' = w ∧ ∀ w2, Touch [] w w2 → s.run P w2 = .ok a w2
theorem FirmS.bind {α β : Type} {s : Sem α} {f : α → Sem β} (hs : FirmS P s) (hf : ∀ a, FirmS P (f a)) : FirmS P (s >>= f) := by
  intro w b w' h
  rw [Sem.run_bind] at h
  cases hr : s.run P w with
  | ok a w1 =>
    rw [hr] at h
    obtain ⟨rfl, h1⟩ := hs _ _ _ hr
    obtain ⟨e2, h2⟩ := hf a _ _ _ h
    exact ⟨e2, fun w2 t => by rw [Sem.run_bind, h1 w2 t]; exact h2 w2 t⟩
  | halt h' w1 => rw [hr] at h; cases h
theorem Blind.firm {α : Type} {s : Sem α} (h : Blind P s) : FirmS P s := by
  intro w a w' e
  rcases h with ⟨b, hb⟩ | hh
  · rw [hb w] at e; cases e; exact ⟨rfl, fun w2 _ => hb w2⟩
  · obtain ⟨h, w2, e2⟩ := hh w; rw [e2] at e; cases e
theorem FirmS.load (m : Go.Mode) (a : Addr) : FirmS P (Sem.load m a Sem.pure) := by
  intro w b w' h
  have hstill := StillS.load (P := P) m a w b w' h
  refine ⟨hstill, fun w2 t => ?_⟩
  unfold Sem.run at h ⊢
  cases hc : w.cell? a with
  | some v =>
    rw [cell_touch t hc]
    rw [hc] at h
    cases h
    rfl
  | none =>
    rw [hc] at h
    simp only at h
    cases hf : w.farLoad P a (m == .atomic) with
    | ok x =>
      rw [hf] at h
      have h2 := farLoad_touch t a _ hf
      have hn : w2.cell? a = none := by
        unfold World.farLoad at hf
        cases hb : w.heap[a.block]? with
        | none => rw [hb] at hf; cases hf
        | some o =>
          have hb2 := touch_get t hb
          unfold World.cell? at hc ⊢
          rw [hb] at hc
          rw [hb2]
          exact hc
      rw [hn]
      simp only [h2]
      obtain ⟨v, l⟩ := x
      cases h
      rfl
    | error e => rw [hf] at h; cases h
theorem FirmS.loadCellsFrom (a : Addr) : ∀ (n i : Nat) (acc : Array Value), FirmS P (loadCellsFrom a i n acc)
  | 0, i, acc => (Blind.pure _).firm
  | n + 1, i, acc => (FirmS.load _ _).bind fun v => FirmS.loadCellsFrom a n _ _
theorem FirmS.loadAt (t : TypeId) (v : Value) : FirmS P (Instr.loadAt t v) := by
  unfold Instr.loadAt
  refine (Blind.sureAddr v).firm.bind fun a => ?_
  unfold loadVar
  refine (Blind.isAgg t).firm.bind fun b => ?_
  split
  · exact (Blind.sizeOf t).firm.bind fun n => FirmS.bind (FirmS.loadCellsFrom a n 0 #[]) fun _ => (Blind.pure _).firm
  · exact FirmS.load _ _
def GrowS (P : Program) {α : Type} (s : Sem α) : Prop := ∀ w a w', s.run P w = .ok a w' → Touch [] w w'
theorem GrowS.bind {α β : Type} {s : Sem α} {f : α → Sem β} (hs : GrowS P s) (hf : ∀ a, GrowS P (f a)) : GrowS P (s >>= f) := by
  intro w b w' h
  rw [Sem.run_bind] at h
  cases hr : s.run P w with
  | ok a w1 => rw [hr] at h; exact (hs _ _ _ hr).trans (hf a _ _ _ h)
  | halt h' w1 => rw [hr] at h; cases h
theorem Blind.grow {α : Type} {s : Sem α} (h : Blind P s) : GrowS P s := fun w a w' e => by
  obtain ⟨rfl, _⟩ := h.firm w a w' e
  exact Touch.refl _ _
theorem GrowS.newRow (e : TypeId) (cs : Array Value) : GrowS P (Go.newRow e cs) := by
  unfold Go.newRow
  refine GrowS.bind (s := newObj (.cells cs e)) ?_ fun _ => (Blind.pure _).grow
  intro w a w' h
  cases h
  exact (Touch.refl [] w).alloc _
def newOp (o : Oper) : Bool := match o.op with | .box .. | .alloc .. | .buildSlice .. => true | _ => false
theorem newOp_spec {o : Oper} {a : Act} (h : newOp o = true) : ∃ s : Sem Value, execOp a.eval o = (do Pure.pure (Next.value (← s))) ∧ GrowS P s := by
  obtain ⟨dst, op, type, pos, after, guard⟩ := o
  cases op <;> simp only [newOp, Bool.false_eq_true] at h
  case alloc e =>
    refine ⟨_, rfl, ?_⟩
    unfold Instr.alloc
    refine (Blind.zeroValue e).grow.bind fun z => ?_
    exact (GrowS.newRow _ _).bind fun _ => (Blind.pure _).grow
  case box e x =>
    refine ⟨_, rfl, ?_⟩
    unfold Instr.box
    exact (GrowS.newRow _ _).bind fun _ => (Blind.pure _).grow
  case buildSlice t n ps =>
    refine ⟨_, rfl, ?_⟩
    unfold Instr.buildSlice
    refine (Blind.underlying t).grow.bind fun d => ?_
    split
    · rename_i el
      refine (Blind.sizeOf _).grow.bind fun sz => ?_
      have tail : ∀ zero : Array Value, GrowS P (do
          let some cells := Instr.fill (fun i => some (i * sz, sz)) ((Array.range (n * sz)).map (zero[· % zero.size]!)) (ps.map fun (i, x) => (i, a.eval x)).toList
            | Go.stuck "buildSlice: a part of the wrong size"
          Pure.pure (Value.slice (some (← Go.newRow el cells)) n n)) := by
        intro zero
        split
        · exact (GrowS.newRow _ _).bind fun _ => (Blind.pure _).grow
        · exact (Blind.stuck _).grow
      dsimp only
      split
      · exact GrowS.bind (Blind.unsupported _).grow fun _ => by
          split
          · exact GrowS.bind (Blind.pure _).grow fun z => tail z
          · exact GrowS.bind ((Blind.zeroValue _).grow) fun z => GrowS.bind (Blind.pure _).grow fun z => tail z
      · split
        · exact GrowS.bind (Blind.pure _).grow fun z => tail z
        · exact GrowS.bind ((Blind.zeroValue _).grow) fun z => GrowS.bind (Blind.pure _).grow fun z => tail z
    · exact (Blind.stuck _).grow
theorem load_firm {o : Oper} {a : Act} (h : loadOp o = true) : FirmS P (execOp a.eval o) := by
  obtain ⟨dst, op, type, pos, after, guard⟩ := o
  cases op <;> simp only [loadOp, Bool.false_eq_true] at h
  case load t x => exact (FirmS.loadAt t _).bind fun _ => (Blind.pure _).firm
variable {ops : Array Oper} {Q : Exit → Act → World → Prop}
theorem LoadsAt.grow {o : Oper} {v : Value} {a : Act} {w w' : World} (hl : loadOp o = true) (hy : LoadsAt P ops o v a w) (t : Touch [] w w') : LoadsAt P ops o v a w' :=
  hy.imp (fun ⟨h1, h2⟩ => ⟨h1, (load_firm hl _ _ _ h2).2 w' t⟩) id
theorem nums_new {o : Oper} {a : Act} (h : newOp o = true) : Nums o a := by
  obtain ⟨dst, op, type, pos, after, guard⟩ := o
  cases op <;> simp only [newOp, Bool.false_eq_true] at h
  all_goals exact trivial
theorem swap4 {i k : Nat} {oi ok : Oper} {K : Act → World → Prop} {a : Act} {w : World} (hQ : Calm Q) (hi : ops[i]? = some oi) (hk : ops[k]? = some ok)
    (hsi : ∀ cs b, oi.op ≠ .select cs b) (hsk : ∀ cs b, ok.op ≠ .select cs b) (hni : newOp oi = true) (hlk : loadOp ok = true) (hap : oi.apart ops ok = true)
    (h : wpOpI P ops Q k (wpOpI P ops Q i K) a w) : wpOpI P ops Q i (wpOpI P ops Q k K) a w := by
  obtain ⟨a1, a2, a3⟩ := Oper.apart_spec hap
  obtain ⟨u, hu, hh⟩ := load_at hQ hk hlk h.2
  have h2 := hh.2
  have keep : ∀ (v : Value) (w' : World), Touch [] w w' → K ((a.put ok.dst u).put oi.dst v) w' → wpOpI P ops Q k K (a.put oi.dst v) w' := fun v w' t hK =>
    ⟨fun o ho _ => by rw [hk] at ho; cases ho; exact nums_load hlk,
      LoadsAt.wpOp hk ((hu.grow hlk t).of_same (execOp_put ok hsk a oi.dst v a1) (wanted_put ok a oi.dst v a1)) (by rw [Act.put_comm a v u a2]; exact hK)⟩
  refine ⟨fun o ho _ => by rw [hi] at ho; cases ho; exact nums_new hni, ?_⟩
  unfold wpOp at h2 ⊢
  simp only [hi] at h2 ⊢
  rw [wanted_put oi a ok.dst u a3] at h2
  split
  · rename_i hw
    simp only [hw, if_true] at h2
    rcases h2 with h2 | ⟨_, h2⟩
    case inr => exact absurd h2 hQ.out
    refine .inl ?_
    unfold Oper.wp at h2 ⊢
    rw [execOp_put oi hsi a ok.dst u a3] at h2
    obtain ⟨s, hs, hg⟩ := newOp_spec (P := P) (a := a) hni
    rw [hs] at h2 ⊢
    rw [Sem.run_bind] at h2 ⊢
    cases hr : s.run P w with
    | ok v w' =>
      rw [hr] at h2
      exact keep v w' (hg _ _ _ hr) h2
    | halt h' w' =>
      rw [hr] at h2
      obtain ⟨n, w2, e2⟩ := calm_upon hQ h2
      cases e2
  · rename_i hw
    simp only [hw] at h2
    exact keep undef w (Touch.refl _ _) h2
end
end Go.Proofs.YthnimpkoidablaaGreat.Z
