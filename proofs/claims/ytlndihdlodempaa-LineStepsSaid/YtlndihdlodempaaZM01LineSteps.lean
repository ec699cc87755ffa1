/- 6 texts of this claim, joined: what each shows stands at its own head. -/
import Derived.Test.YtlndihdlodempaaZRun7
import Derived.Test.YtlndihdlodempaaZM00LineSteps
import Derived.Test.YtlndihdlodempaaZFlat3
import Derived.Deep.RegionHeld3
import Derived.Deep.DrawnRows
/- Package line: a run stores, said of RunHas. -/
set_option linter.unusedVariables false
set_option linter.unusedSimpArgs false
namespace Go.Proofs.Ytlndihdlodempaa.Z
open Go.RowKit

theorem rn_store {S0 : List Nat} {w0 w : World} {m a r : Nat} {rs : List Res} {s : Rn} (H : RunHas S0 w0 m a r rs s w) (c x : Int) (hx : 0 ≤ x ∧ x < 4294967296) :
    Calls Try.prog 47 #[.pointer (some ⟨r, 0, none⟩), .int .i64 c, .int .u32 x] w fun e w' => e = .returned (.tuple #[]) ∧ RunHas S0 w0 m a r rs (s.did (doA s.L ⟨2, c, x, 0, 0⟩)) w' := by
  obtain ⟨nv, H⟩ := H
  exact (run_store H c x hx).mono fun e w' h => ⟨h.1, nv, h.2⟩

end Go.Proofs.Ytlndihdlodempaa.Z

/- A region that draws its order and holds one call that leaves the world as it was, walked in the order of its text: the call is borne beside loads. No program is in sight. -/
set_option linter.unusedVariables false
set_option linter.unusedSimpArgs false
namespace Go.Proofs.Ytlndihdlodempaa.Z
open Go

section
variable {P : Program} {ops : Array Oper} {Q : Exit → Act → World → Prop} {c : Nat}

/-- A call's value here: it leaves the world as it was. -/
def CallAt (P : Program) (ops : Array Oper) (o : Oper) (v : Value) (a : Act) (w : World) : Prop :=
  (Region.wanted o (yielded ops a.tmps) = true ∧ (∀ W, Touch [] w W → ∃ f args, (execOp a.eval o).run P W = .ok (.enter f args) W ∧ Calls P f args W fun e w' => e = .returned v ∧ W = w')) ∨ (Region.wanted o (yielded ops a.tmps) = false ∧ v = undef)

theorem CallAt.wpOp {i : Nat} {o : Oper} {v : Value} {a : Act} {w : World} (hi : ops[i]? = some o) (hy : CallAt P ops o v a w) {K : Act → World → Prop} (h : K (a.put o.dst v) w) : wpOp P ops Q i K a w := by
  unfold Go.wpOp
  simp only [hi]
  rcases hy with ⟨hw, hf⟩ | ⟨hw, rfl⟩
  · obtain ⟨f, args, hv, hc⟩ := hf w (Touch.refl _ _)
    simp only [hw, if_true, Oper.wp, hv, Oper.upon]
    refine .inl (Calls.mono hc ?_)
    rintro e w' ⟨rfl, rfl⟩
    exact h
  · simp only [hw, Bool.false_eq_true, if_false]; exact h

/-- A load's value, or the call's. -/
def LooksAt (P : Program) (ops : Array Oper) (c i : Nat) (o : Oper) (v : Value) (a : Act) (w : World) : Prop := if i = c then CallAt P ops o v a w else LoadsAt P ops o v a w

theorem LooksAt.of_same {i : Nat} {o : Oper} {v : Value} {a a' : Act} {w : World} (hy : LooksAt P ops c i o v a w) (he : execOp a'.eval o = execOp a.eval o) (hw : Region.wanted o (yielded ops a'.tmps) = Region.wanted o (yielded ops a.tmps)) : LooksAt P ops c i o v a' w := by
  unfold LooksAt at *
  split
  · rename_i h
    rw [if_pos h] at hy
    unfold CallAt at *
    rw [he, hw]
    exact hy
  · rename_i h
    rw [if_neg h] at hy
    exact hy.of_same he hw

/-- Operation i; the call: by its value. -/
def wpOpJ (P : Program) (ops : Array Oper) (c : Nat) (Q : Exit → Act → World → Prop) (i : Nat) (K : Act → World → Prop) (a : Act) (w : World) : Prop :=
  if i = c then ∃ o v, ops[i]? = some o ∧ CallAt P ops o v a w ∧ K (a.put o.dst v) w else wpOpI P ops Q i K a w

def wpOpsJ (P : Program) (ops : Array Oper) (c : Nat) (Q : Exit → Act → World → Prop) : List Nat → Act → World → Prop
  | [], a, w => Q .normal a w
  | i :: rest, a, w => wpOpJ P ops c Q i (wpOpsJ P ops c Q rest) a w

theorem wpOpJ_mono {i : Nat} {a : Act} {w : World} {K K' : Act → World → Prop} (h : ∀ a w, K a w → K' a w) (hh : wpOpJ P ops c Q i K a w) : wpOpJ P ops c Q i K' a w := by
  unfold wpOpJ at *
  split
  · rename_i hc
    rw [if_pos hc] at hh
    obtain ⟨o, v, h1, h2, h3⟩ := hh
    exact ⟨o, v, h1, h2, h _ _ h3⟩
  · rename_i hc
    rw [if_neg hc] at hh
    exact wpOpI_mono h hh

theorem wpOpJ_wpOp {i : Nat} {a : Act} {w : World} {K : Act → World → Prop} (hh : wpOpJ P ops c Q i K a w) : wpOp P ops Q i K a w := by
  unfold wpOpJ at hh
  split at hh
  · obtain ⟨o, v, h1, h2, h3⟩ := hh
    exact h2.wpOp h1 h3
  · exact hh.2

theorem look_at {i : Nat} {oi : Oper} {a : Act} {w : World} {K : Act → World → Prop} (hQ : Calm Q) (hi : ops[i]? = some oi) (hb : (i == c || loadOp oi) = true) (h : wpOpJ P ops c Q i K a w) : ∃ v, LooksAt P ops c i oi v a w ∧ K (a.put oi.dst v) w := by
  unfold wpOpJ at h
  unfold LooksAt
  split at h
  · rename_i hc
    obtain ⟨o, v, h1, h2, h3⟩ := h
    rw [hi] at h1
    cases h1
    exact ⟨v, by rw [if_pos hc]; exact h2, h3⟩
  · rename_i hc
    have hb' : loadOp oi = true := by simpa [hc] using hb
    obtain ⟨v, h1, h2⟩ := load_at hQ hi hb' h.2
    exact ⟨v, by rw [if_neg hc]; exact h1, h2⟩

theorem LooksAt.wpOpJ {i : Nat} {oi : Oper} {v : Value} {a : Act} {w : World} {K : Act → World → Prop} (hi : ops[i]? = some oi) (hb : (i == c || loadOp oi) = true) (h : LooksAt P ops c i oi v a w) (hk : K (a.put oi.dst v) w) : wpOpJ P ops c Q i K a w := by
  unfold Z.wpOpJ
  unfold LooksAt at h
  split
  · rename_i hc
    rw [if_pos hc] at h
    exact ⟨oi, v, hi, h, hk⟩
  · rename_i hc
    rw [if_neg hc] at h
    have hb' : loadOp oi = true := by simpa [hc] using hb
    exact ⟨fun o ho _ => by rw [hi] at ho; cases ho; exact nums_load hb', h.wpOp hi hk⟩

/-- Two that look. -/
theorem swap3C {i j : Nat} {oi oj : Oper} {K : Act → World → Prop} {a : Act} {w : World} (hQ : Calm Q) (hi : ops[i]? = some oi) (hj : ops[j]? = some oj)
    (hsi : ∀ cs b, oi.op ≠ .select cs b) (hsj : ∀ cs b, oj.op ≠ .select cs b) (hli : (i == c || loadOp oi) = true) (hlj : (j == c || loadOp oj) = true) (hap : oi.apart ops oj = true)
    (h : wpOpJ P ops c Q j (wpOpJ P ops c Q i K) a w) : wpOpJ P ops c Q i (wpOpJ P ops c Q j K) a w := by
  obtain ⟨a1, a2, a3⟩ := Oper.apart_spec hap
  obtain ⟨u, hu, hk⟩ := look_at hQ hj hlj h
  obtain ⟨v, hv, hk⟩ := look_at hQ hi hli hk
  have hv' : LooksAt P ops c i oi v a w := hv.of_same (execOp_put oi hsi a oj.dst u a3).symm (wanted_put oi a oj.dst u a3).symm
  have hu' : LooksAt P ops c j oj u (a.put oi.dst v) w := hu.of_same (execOp_put oj hsj a oi.dst v a1) (wanted_put oj a oi.dst v a1)
  refine hv'.wpOpJ hi hli (hu'.wpOpJ hj hlj ?_)
  rw [Act.put_comm a v u a2]
  exact hk

/-- A blind one is first, the call comes ahead of it. -/
theorem swap1C {i : Nat} {oi oj : Oper} {K : Act → World → Prop} {a : Act} {w : World} (hQ : Calm Q) (hi : ops[i]? = some oi) (hj : ops[c]? = some oj) (hic : i ≠ c)
    (hsi : ∀ cs b, oi.op ≠ .select cs b) (hsj : ∀ cs b, oj.op ≠ .select cs b) (hb : blindOp P oi = true) (hap : oi.apart ops oj = true)
    (h : wpOpJ P ops c Q i (wpOpJ P ops c Q c K) a w) : wpOpJ P ops c Q c (wpOpJ P ops c Q i K) a w := by
  have hcc : (c == c || loadOp oj) = true := by simp
  have h' : wpOpI P ops Q i (wpOpJ P ops c Q c K) a w := by unfold wpOpJ at h; rw [if_neg hic] at h; exact h
  obtain ⟨v, hy, hk⟩ := blind_yields hQ hi hb h'
  obtain ⟨a1, a2, a3⟩ := Oper.apart_spec hap
  obtain ⟨u, hu, hk⟩ := look_at hQ hj hcc hk
  have hu' : LooksAt P ops c c oj u a w := hu.of_same (execOp_put oj hsj a oi.dst v a1).symm (wanted_put oj a oi.dst v a1).symm
  refine hu'.wpOpJ hj hcc ?_
  unfold wpOpJ
  rw [if_neg hic]
  have hy2 : Yields P ops oi v (a.put oj.dst u) := hy.of_same (execOp_put oi hsi a oj.dst u a3) (wanted_put oi a oj.dst u a3)
  refine ⟨fun o ho hw => ?_, Yields.wpOp hi hy2 ?_⟩
  · rw [hi] at ho
    cases ho
    exact (nums_put (ops := ops) a3).2 (h'.1 _ hi (by rw [← wanted_put oi a oj.dst u a3]; exact hw))
  · rw [← Act.put_comm a v u a2]
    exact hk

/-- The call is first, a blind one comes ahead of it. -/
theorem swap2C {i : Nat} {oi oj : Oper} {K : Act → World → Prop} {a : Act} {w : World} (hQ : Calm Q) (hi : ops[i]? = some oi) (hj : ops[c]? = some oj) (hic : i ≠ c)
    (hsi : ∀ cs b, oi.op ≠ .select cs b) (hsj : ∀ cs b, oj.op ≠ .select cs b) (hb : blindOp P oi = true) (hap : oi.apart ops oj = true)
    (h : wpOpJ P ops c Q c (wpOpJ P ops c Q i K) a w) : wpOpJ P ops c Q i (wpOpJ P ops c Q c K) a w := by
  have hcc : (c == c || loadOp oj) = true := by simp
  obtain ⟨u, hu, hk⟩ := look_at hQ hj hcc h
  unfold wpOpJ at hk
  rw [if_neg hic] at hk
  obtain ⟨v, hy, hk2⟩ := blind_yields hQ hi hb hk
  obtain ⟨a1, a2, a3⟩ := Oper.apart_spec hap
  have hy2 : Yields P ops oi v a := hy.of_same (execOp_put oi hsi a oj.dst u a3).symm (wanted_put oi a oj.dst u a3).symm
  have hu' : LooksAt P ops c c oj u (a.put oi.dst v) w := hu.of_same (execOp_put oj hsj a oi.dst v a1) (wanted_put oj a oi.dst v a1)
  unfold wpOpJ
  rw [if_neg hic]
  refine ⟨fun o ho hw => ?_, Yields.wpOp hi hy2 ?_⟩
  · rw [hi] at ho
    cases ho
    exact (nums_put (ops := ops) a3).1 (hk.1 _ hi (by rw [wanted_put oi a oj.dst u a3]; exact hw))
  · refine hu'.wpOpJ hj hcc ?_
    rw [Act.put_comm a v u a2]
    exact hk2

theorem LooksAt.grow {i : Nat} {o : Oper} {v : Value} {a : Act} {w w' : World} (hl : (i == c || loadOp o) = true) (hy : LooksAt P ops c i o v a w) (t : Touch [] w w') : LooksAt P ops c i o v a w' := by
  unfold LooksAt at *
  split
  · rename_i h
    rw [if_pos h] at hy
    rcases hy with ⟨hw, hf⟩ | hy
    · exact .inl ⟨hw, fun W t2 => hf W (t.trans t2)⟩
    · exact .inr hy
  · rename_i h
    rw [if_neg h] at hy
    exact LoadsAt.grow (by simpa [h] using hl) hy t

theorem wpOpJ_ne {i : Nat} (h : i ≠ c) (K : Act → World → Prop) : wpOpJ P ops c Q i K = wpOpI P ops Q i K := by
  funext a w
  unfold wpOpJ
  rw [if_neg h]

/-- The call is first, what makes memory comes ahead of it. -/
theorem swap4C {i : Nat} {oi ok : Oper} {K : Act → World → Prop} {a : Act} {w : World} (hQ : Calm Q) (hi : ops[i]? = some oi) (hk : ops[c]? = some ok) (hic : i ≠ c)
    (hsi : ∀ cs b, oi.op ≠ .select cs b) (hsk : ∀ cs b, ok.op ≠ .select cs b) (hni : newOp oi = true) (hap : oi.apart ops ok = true)
    (h : wpOpJ P ops c Q c (wpOpJ P ops c Q i K) a w) : wpOpJ P ops c Q i (wpOpJ P ops c Q c K) a w := by
  have hcc : (c == c || loadOp ok) = true := by simp
  obtain ⟨a1, a2, a3⟩ := Oper.apart_spec hap
  obtain ⟨u, hu, hh⟩ := look_at hQ hk hcc h
  unfold wpOpJ at hh
  rw [if_neg hic] at hh
  have h2 := hh.2
  have keep : ∀ (v : Value) (w' : World), Touch [] w w' → K ((a.put ok.dst u).put oi.dst v) w' → wpOpJ P ops c Q c K (a.put oi.dst v) w' := fun v w' t hK =>
    ((hu.grow hcc t).of_same (execOp_put ok hsk a oi.dst v a1) (wanted_put ok a oi.dst v a1)).wpOpJ hk hcc (by rw [Act.put_comm a v u a2]; exact hK)
  rw [wpOpJ_ne hic]
  refine ⟨fun o ho _ => by rw [hi] at ho; cases ho; exact nums_new hni, ?_⟩
  unfold wpOp at h2 ⊢
  simp only [hi] at h2 ⊢
  rw [wanted_put oi a ok.dst u a3] at h2
  split
  · rename_i hw
    simp only [hw, if_true] at h2
    rcases h2 with h2 | ⟨_, h2⟩
    case inr => exact absurd h2 hQ.out
    refine .inl ?_
    unfold Oper.wp at h2 ⊢
    rw [execOp_put oi hsi a ok.dst u a3] at h2
    obtain ⟨s, hs, hg⟩ := newOp_spec (P := P) (a := a) hni
    rw [hs] at h2 ⊢
    rw [Sem.run_bind] at h2 ⊢
    cases hr : s.run P w with
    | ok v w' =>
      rw [hr] at h2
      have := keep v w' (hg _ _ _ hr) h2
      exact this
    | halt h' w' =>
      rw [hr] at h2
      obtain ⟨n, w2, e2⟩ := calm_upon hQ h2
      cases e2
  · rename_i hw
    simp only [hw] at h2
    have := keep undef w (Touch.refl _ _) h2
    exact this

/-- Two operations that may come in either order. -/
def compatC (P : Program) (ops : Array Oper) (c k i : Nat) : Bool :=
  match ops[k]?, ops[i]? with
  | some x, some y => x.apart ops y && y.apart ops x && k != i && (if k = c then blindOp P y || (loadOp y || newOp y) else if i = c then blindOp P x || loadOp x else compat P ops k i)
  | _, _ => false

theorem swapAnyC (hQ : Calm Q) (hs : Region.noSelect ops = true) {k i : Nat} (h : compatC P ops c k i = true) {K : Act → World → Prop} {a : Act} {w : World}
    (hh : wpOpJ P ops c Q k (wpOpJ P ops c Q i K) a w) : wpOpJ P ops c Q i (wpOpJ P ops c Q k K) a w := by
  unfold compatC at h
  split at h
  · rename_i x y hx hy
    simp only [Bool.and_eq_true, bne_iff_ne, ne_eq] at h
    obtain ⟨⟨⟨h1, h2⟩, hne⟩, h3⟩ := h
    have sx := Region.noSelect_spec hs k x
    have sy := Region.noSelect_spec hs i y
    split at h3
    · rename_i hk
      subst hk
      simp only [Bool.or_eq_true] at h3
      rcases h3 with h3 | h3 | h3
      · exact swap2C hQ hy hx (fun e => hne e.symm) (fun cs b => sy cs b hy) (fun cs b => sx cs b hx) h3 h2 hh
      · exact swap3C hQ hy hx (fun cs b => sy cs b hy) (fun cs b => sx cs b hx) (by simp [h3]) (by simp) h2 hh
      · exact swap4C hQ hy hx (fun e => hne e.symm) (fun cs b => sy cs b hy) (fun cs b => sx cs b hx) h3 h2 hh
    · rename_i hk
      split at h3
      · rename_i hi
        subst hi
        simp only [Bool.or_eq_true] at h3
        rcases h3 with h3 | h3
        · exact swap1C hQ hx hy hne (fun cs b => sx cs b hx) (fun cs b => sy cs b hy) h3 h1 hh
        · exact swap3C hQ hy hx (fun cs b => sy cs b hy) (fun cs b => sx cs b hx) (by simp) (by simp [h3]) h2 hh
      · rename_i hi
        have e1 : ∀ K, wpOpJ P ops c Q k K = wpOpI P ops Q k K := fun K => by funext a w; unfold wpOpJ; rw [if_neg hk]
        have e2 : ∀ K, wpOpJ P ops c Q i K = wpOpI P ops Q i K := fun K => by funext a w; unfold wpOpJ; rw [if_neg hi]
        rw [e1, e2] at hh
        rw [e2, e1]
        exact swapAny hQ hs h3 hh
  · cases h

theorem moveFirstC (hQ : Calm Q) (hs : Region.noSelect ops = true) {i : Nat} {t2 : List Nat} : ∀ (t1 : List Nat), (∀ k, k ∈ t1 → compatC P ops c k i = true) → ∀ (a : Act) (w : World),
    wpOpsJ P ops c Q (t1 ++ i :: t2) a w → wpOpsJ P ops c Q (i :: (t1 ++ t2)) a w
  | [], _, a, w, h => h
  | k :: t1, hc, a, w, h => by
    have h1 : wpOpJ P ops c Q k (wpOpJ P ops c Q i (wpOpsJ P ops c Q (t1 ++ t2))) a w :=
      wpOpJ_mono (fun a' w' h' => moveFirstC hQ hs t1 (fun k hk => hc k (List.mem_cons_of_mem _ hk)) a' w' h') h
    exact swapAnyC hQ hs (hc k (by simp)) h1

def flatAtC (P : Program) (ops : Array Oper) (c : Nat) (M : Array Nat) (i : Nat) : Bool :=
  (match ops[i]? with
    | some o => o.after.all fun e => !Region.binds .any e || decide (e.on < i)
    | none => true) && ((List.range i).all fun k => (M.getD i 0).testBit k || compatC P ops c k i) && maskOk ops M i

def flatWithC (P : Program) (ops : Array Oper) (c : Nat) (M : Array Nat) : Bool := Region.noSelect ops && (List.range ops.size).all (flatAtC P ops c M)

/-- THE CHECK: what is not ordered commutes. -/
def flatOkC (P : Program) (ops : Array Oper) (c : Nat) : Bool := flatWithC P ops c (Region.before ops)

theorem flat_edgeC {M : Array Nat} (h : flatWithC P ops c M = true) {i : Nat} {o : Oper} (ho : ops[i]? = some o) {e : Edge} (he : e ∈ o.after) (hb : Region.binds .any e = true) : e.on < i := by
  unfold flatWithC at h
  simp only [Bool.and_eq_true, List.all_eq_true, List.mem_range] at h
  have h1 := h.2 i (Array.getElem?_eq_some_iff.1 ho).1
  unfold flatAtC at h1
  simp only [Bool.and_eq_true, ho] at h1
  have h2 := Array.all_eq_true_iff_forall_mem.1 h1.1.1 e he
  simpa [hb] using h2

theorem mask_listedC {M : Array Nat} (h : flatWithC P ops c M = true) {listed : Array Bool} (hc : Closed ops listed) : ∀ (i : Nat) (o : Oper), ops[i]? = some o → (∀ e ∈ o.after, Region.binds .any e = true → listed.getD e.on false = true) →
    ∀ k, k < i → (M.getD i 0).testBit k = true → listed.getD k false = true := by
  intro i
  induction i using Nat.strongRecOn with
  | ind i ih =>
    intro o ho hd k hk hb
    have h' := h
    unfold flatWithC at h'
    simp only [Bool.and_eq_true, List.all_eq_true, List.mem_range] at h'
    have h1 := h'.2 i (Array.getElem?_eq_some_iff.1 ho).1
    unfold flatAtC at h1
    simp only [Bool.and_eq_true] at h1
    have h2 := h1.2
    unfold maskOk at h2
    simp only [List.all_eq_true, List.mem_range, ho] at h2
    have h3 := h2 k hk
    simp only [hb, Bool.not_true, Bool.false_or] at h3
    obtain ⟨e, he, h4⟩ := Array.any_eq_true'.1 h3
    simp only [Bool.and_eq_true, Bool.or_eq_true, beq_iff_eq, decide_eq_true_eq] at h4
    have hlt := flat_edgeC h ho he h4.1
    have hl := hd e he h4.1
    rcases h4.2 with h5 | ⟨hke, h5⟩
    · rw [← h5]; exact hl
    · have hn : e.on < ops.size := Nat.lt_trans hlt (Array.getElem?_eq_some_iff.1 ho).1
      exact ih e.on hlt ops[e.on] (Array.getElem?_eq_getElem hn) (hc e.on _ hl (Array.getElem?_eq_getElem hn)) k hke h5

theorem any_of_flatC {M : Array Nat} (hQ : Calm Q) (h : flatWithC P ops c M = true) : ∀ (fuel : Nat) (listed : Array Bool) (a : Act) (w : World), listed.size = ops.size → Closed ops listed → (restOf ops.size listed).length ≤ fuel →
    wpOpsJ P ops c Q (restOf ops.size listed) a w → wpAny P .any ops Q fuel listed a w := by
  have hs : Region.noSelect ops = true := by
    unfold flatWithC at h
    simp only [Bool.and_eq_true] at h
    exact h.1
  have hat : ∀ i, i < ops.size → ∀ k, k < i → (M.getD i 0).testBit k = true ∨ compatC P ops c k i = true := by
    intro i hi k hk
    unfold flatWithC at h
    simp only [Bool.and_eq_true, List.all_eq_true, List.mem_range] at h
    have h1 := h.2 i hi
    unfold flatAtC at h1
    simp only [Bool.and_eq_true, List.all_eq_true, List.mem_range, Bool.or_eq_true] at h1
    exact h1.1.2 k hk
  have hready : ∀ (listed : Array Bool), Region.ready .any ops listed = [] → Closed ops listed → restOf ops.size listed = [] := by
    intro listed hr hc
    cases ht : restOf ops.size listed with
    | nil => rfl
    | cons j t =>
      exfalso
      have hj : j ∈ restOf ops.size listed := by rw [ht]; simp
      obtain ⟨hjn, hj0⟩ := mem_rest.1 hj
      have hle : ∀ k, k ∈ restOf ops.size listed → j ≤ k := by
        have hp : (restOf ops.size listed).Pairwise (· < ·) := by
          unfold restOf
          exact List.Pairwise.filter _ List.pairwise_lt_range
        rw [ht] at hp
        intro k hk
        rw [ht] at hk
        rcases List.mem_cons.1 hk with rfl | hk
        · exact Nat.le_refl _
        · exact Nat.le_of_lt ((List.pairwise_cons.1 hp).1 k hk)
      have : j ∈ Region.ready .any ops listed := by
        rw [mem_ready]
        refine ⟨hj0, ops[j], Array.getElem?_eq_getElem hjn, fun e he hb => ?_⟩
        have hlt := flat_edgeC h (Array.getElem?_eq_getElem hjn) he hb
        cases hl : listed.getD e.on true with
        | true =>
          by_cases hin : e.on < listed.size
          · simpa [hin] using hl
          · simp [Array.getElem?_eq_none (Nat.le_of_not_lt hin)] at hl
            have h2 := hle e.on
            by_cases hin2 : listed.size ≤ e.on
            · exfalso
              have h3 : e.on < ops.size := Nat.lt_trans hlt hjn
              have h4 : ¬ (j < listed.size) := fun hh => by
                exact absurd (Nat.lt_trans hlt hh) (Nat.not_lt.2 hin2)
              simp [Array.getElem?_eq_none (Nat.le_of_not_lt h4)] at hj0
            · omega
        | false =>
          have := hle e.on (mem_rest.2 ⟨Nat.lt_trans hlt hjn, hl⟩)
          omega
      rw [hr] at this
      cases this
  intro fuel
  induction fuel with
  | zero =>
    intro listed a w hsz hc hl hh
    have hnil : restOf ops.size listed = [] := List.eq_nil_of_length_eq_zero (by omega)
    rw [hnil] at hh
    refine ⟨?_, hh⟩
    cases hr : Region.ready .any ops listed with
    | nil => rfl
    | cons j t =>
      exfalso
      have hj : j ∈ Region.ready .any ops listed := by rw [hr]; simp
      obtain ⟨h0, o, ho, _⟩ := mem_ready.1 hj
      have : j ∈ restOf ops.size listed := mem_rest.2 ⟨(Array.getElem?_eq_some_iff.1 ho).1, h0⟩
      rw [hnil] at this
      cases this
  | succ fuel ih =>
    intro listed a w hsz hc hl hh
    refine ⟨fun hr => ?_, fun i hi => ?_⟩
    · rw [hready listed hr hc] at hh
      exact hh
    · obtain ⟨h0, o, ho, hd⟩ := mem_ready.1 hi
      have hin := (Array.getElem?_eq_some_iff.1 ho).1
      obtain ⟨t1, t2, e1, e2, ht⟩ := rest_split hin hsz h0
      rw [e1] at hh hl
      have hmv := moveFirstC hQ hs t1 (fun k hk => by
        obtain ⟨hki, hk0⟩ := ht k hk
        rcases hat i hin k hki with hb | hb
        · have := mask_listedC h hc i o ho hd k hki hb
          exfalso
          have hks : k < listed.size := by omega
          simp [hks] at this hk0
          rw [hk0] at this
          cases this
        · exact hb) a w hh
      refine wpOp_mono (fun a' w' h3 => ih _ a' w' (by simpa using hsz) ?_ ?_ ?_) (wpOpJ_wpOp hmv)
      · intro x ox hx hox e he hb
        by_cases hxi : i = x
        · subst hxi
          rw [ho] at hox
          cases hox
          exact getD_set_true (hd e he hb)
        · rw [getD_set_ne false hxi] at hx
          exact getD_set_true (hc x ox hx hox e he hb)
      · rw [e2]
        simp only [List.length_append, List.length_cons] at hl ⊢
        omega
      · rw [e2]
        exact h3


theorem wpOp_only {R : Exit → Act → World → Prop} {i : Nat} {K : Act → World → Prop} {a : Act} {w : World} (h : wpOp P ops (Only R) i K a w) : wpOp P ops (Only Q) i K a w := by
  unfold wpOp at *
  split at h
  · exact h
  · rename_i o ho
    split at h
    · rename_i hw
      rw [if_pos hw]
      rcases h with h | ⟨_, h⟩
      case inr => exact absurd h calm_only.out
      refine .inl ?_
      unfold Oper.wp at *
      generalize (execOp a.eval o).run P w = r at *
      cases r with
      | ok n w' =>
        cases n <;> simp only [Oper.upon] at h ⊢
        case value u => exact h
        case skip => exact h
        case defer d => exact h
        case enter f args =>
          refine Calls.mono h fun e w'' he => ?_
          cases e with
          | returned u => exact he
          | panicked c => exact absurd he (calm_only.panic _ _ _)
          | outgrown => exact absurd he calm_only.out
        case row row args => exact h
      | halt x w' =>
        cases x <;> simp only [Oper.upon] at h ⊢
        case panic u => exact absurd h (calm_only.panic _ _ _)
    · rename_i hw
      rw [if_neg hw]
      exact h

theorem opsJ_of_list {R : Exit → Act → World → Prop} {t : List Nat} (hR : ∀ a w, R .normal a w → wpOpsJ P ops c (Only Q) t a w) : ∀ (l : List Oper) (k : Nat), (∀ j, j < l.length → l[j]? = ops[k + j]?) → (c < k ∨ k + l.length ≤ c) → ∀ (a : Act) (w : World), wpList P ops (Only R) (probed l) a w → wpOpsJ P ops c (Only Q) (List.range' k l.length ++ t) a w
  | [], k, _, _, a, w, h => hR a w h
  | o :: l, k, hk, hck, a, w, h => by
    have hQ : Calm (Only R) := calm_only
    have ho : ops[k]? = some o := by simpa using (hk 0 (by simp)).symm
    have hl : ∀ j, j < l.length → l[j]? = ops[k + 1 + j]? := fun j hj => by have := hk (j + 1) (by simpa using hj); simpa [Nat.add_assoc, Nat.add_comm 1 j] using this
    have hne : k ≠ c := by rcases hck with h | h <;> simp only [List.length_cons] at * <;> omega
    have hck2 : c < k + 1 ∨ k + 1 + l.length ≤ c := by simp only [List.length_cons] at hck; omega
    rw [List.length_cons, List.range'_succ, List.cons_append]
    unfold probed at h
    have hn : (Region.wanted o (yielded ops a.tmps) = true → Nums o a) ∧ wpList P ops (Only R) (o :: probed l) a w := by
      unfold probes at h
      unfold Nums
      split at h
      · rename_i op t x y u hop
        rw [List.append_assoc] at h
        obtain ⟨h1, h⟩ := probe_look hQ h
        obtain ⟨h2, h⟩ := probe_look hQ h
        rw [hop]
        exact ⟨fun hw => ⟨h1 hw, h2 hw⟩, h⟩
      · rename_i s d x hop
        obtain ⟨h1, h⟩ := probe_look hQ h
        rw [hop]
        exact ⟨h1, h⟩
      · rename_i h1 h2
        refine ⟨fun _ => ?_, h⟩
        split
        · rename_i op t x y u hop
          exact absurd hop (h1 _ _ _ _ _)
        · rename_i s d x hop
          exact absurd hop (h2 _ _ _)
        · trivial
    show wpOpJ P ops c (Only Q) k (wpOpsJ P ops c (Only Q) (List.range' (k + 1) l.length ++ t)) a w
    unfold wpOpJ
    rw [if_neg hne]
    refine ⟨fun o' ho' hw => ?_, ?_⟩
    · rw [ho] at ho'
      cases ho'
      exact hn.1 hw
    · have h2 := hn.2
      refine wpOp_only (R := R) ?_
      unfold wpList at h2
      unfold wpOp
      simp only [ho]
      split
      · rename_i hw
        simp only [hw, if_true] at h2
        exact h2.imp (fun h => Oper.wp_mono (fun a' w' h' => opsJ_of_list hR l (k + 1) hl hck2 a' w' h') h) id
      · rename_i hw
        simp only [hw] at h2
        exact opsJ_of_list hR l (k + 1) hl hck2 _ _ h2

/-- What the walk shows: the text up to the call; the call; the rest. -/
def Half (P : Program) (ops : Array Oper) (Q : Exit → Act → World → Prop) (o : Oper) (l : List Oper) : Exit → Act → World → Prop := fun _ a w => ∃ v, CallAt P ops o v a w ∧ wpList P ops (Only Q) (probed l) (a.put o.dst v) w

/-- THE LAW: where what is not ordered commutes, the call borne as a load. -/
theorem region_flat_call {id : Nat} {l : List Oper} {o : Oper} {a : Act} {w : World} (c : Nat) (hc : l[c]? = some o) (hm : P.follows .mixedOrders = true) (hok : flatOkC P l.toArray c = true)
    (h : wpList P l.toArray (Only (Half P l.toArray Q o (l.drop (c + 1)))) (probed (l.take c)) a w.drew) : (Code.region id l.toArray true).wp P Q a w := by
  have hcl : c < l.length := (List.getElem?_eq_some_iff.1 hc).1
  have hr : restOf l.toArray.size (Array.replicate l.toArray.size false) = List.range' 0 (l.take c).length ++ (c :: List.range' (c + 1) (l.drop (c + 1)).length) := by
    have e1 : restOf l.toArray.size (Array.replicate l.toArray.size false) = List.range' 0 l.length := by
      unfold restOf
      rw [← List.range_eq_range']
      simp only [List.size_toArray]
      refine List.filter_eq_self.2 fun j hj => ?_
      have := List.mem_range.1 hj
      simp [this]
    rw [e1]
    have e2 : l.length = c + ((l.length - c - 1) + 1) := by omega
    rw [show (l.take c).length = c from by rw [List.length_take]; omega, show (l.drop (c + 1)).length = l.length - c - 1 from by rw [List.length_drop]; omega]
    conv => lhs; rw [e2]
    rw [← List.range'_append_1, Nat.zero_add, List.range'_succ]
  have h0 : ∀ a w, Half P l.toArray Q o (l.drop (c + 1)) .normal a w → wpOpsJ P l.toArray c (Only Q) (c :: List.range' (c + 1) (l.drop (c + 1)).length) a w := by
    rintro a w ⟨v, h1, h2⟩
    show wpOpJ P l.toArray c (Only Q) c (wpOpsJ P l.toArray c (Only Q) (List.range' (c + 1) (l.drop (c + 1)).length)) a w
    unfold wpOpJ
    rw [if_pos rfl]
    refine ⟨o, v, by simpa using hc, h1, ?_⟩
    have := opsJ_of_list (P := P) (ops := l.toArray) (c := c) (Q := Q) (R := Q) (t := []) (fun a w h => h) (l.drop (c + 1)) (c + 1) (fun j hj => by simp) (Or.inl (Nat.lt_succ_self c)) _ _ h2
    rw [List.append_nil] at this
    exact this
  have h1 := opsJ_of_list (P := P) (ops := l.toArray) (c := c) (Q := Q) (R := Half P l.toArray Q o (l.drop (c + 1))) h0 (l.take c) 0 (fun j hj => by
    rw [List.length_take] at hj
    rw [List.getElem?_take_of_lt (by omega)]
    simp) (Or.inr (by rw [List.length_take]; omega)) a w.drew h
  have h2 : wpAny P .any l.toArray (Only Q) l.toArray.size (Array.replicate l.toArray.size false) a w.drew :=
    any_of_flatC calm_only hok _ _ _ _ (by simp) (by
      intro x o hx
      exfalso
      by_cases hx' : x < l.toArray.size
      · simp at hx' hx
        simp [hx'] at hx
      · simp at hx' hx
        simp [Nat.not_lt.2 hx'] at hx) (by rw [hr]; simp; omega) (by rw [hr]; exact h1)
  refine Go.Code.wp_mono (Q := Only Q) ?_ (wp_region_any hm h2)
  intro e a' w' he
  cases e with
  | normal => exact he
  | _ => exact absurd he (by intro h; exact h)

theorem run_static {o : Oper} {a : Act} {w : World} {f : FuncId} {args : Array Operand} {ts : Array TypeId} (ho : o.op = .call { callee := .value (.func f), args := args, argTypes := ts })
    (eg : ∀ args w, (callFunc f args).run P w = .ok (.enter f args) w) : (execOp a.eval o).run P w = .ok (.enter f (args.map a.eval)) w := by
  unfold execOp
  simp [ho, resolve, Deferred.ofValue, Act.eval, invoke, eg]

/-- A call of a function by its number, with no guard: its contract says that the world is as it was. -/
theorem half_static {o : Oper} {l : List Oper} {a : Act} {w : World} {f : FuncId} {args : Array Operand} {ts : Array TypeId} {vs : Array Value} (v : Value) (hg : o.guard = none) (ho : o.op = .call { callee := .value (.func f), args := args, argTypes := ts })
    (eg : ∀ args w, (callFunc f args).run P w = .ok (.enter f args) w) (hv : args.map a.eval = vs) (hc : ∀ W, Touch [] w W → Calls P f vs W fun e w' => e = .returned v ∧ W = w')
    (h : wpList P ops (Only Q) (probed l) (a.put o.dst v) w) : Half P ops Q o l .normal a w :=
  ⟨v, .inl ⟨by unfold Region.wanted; rw [hg], fun W t => ⟨f, vs, by rw [← hv]; exact run_static ho eg, hc W t⟩⟩, h⟩

end
end Go.Proofs.Ytlndihdlodempaa.Z

/- Package mutex: its small functions. -/
set_option linter.unusedVariables false
set_option linter.unusedSimpArgs false
namespace Go.Proofs.Ytlndihdlodempaa.Z
open Go.RowKit
attribute [local go_sem ↓] Go.wp_at_zero Go.wp_at_succ

/-- A task's number in the queue. -/
def mxOwn (s : Rn) : Int := (s.task + 1) % 4294967296
theorem mxOwn_word (s : Rn) : 0 ≤ mxOwn s ∧ mxOwn s < 4294967296 := by unfold mxOwn; omega

/-- What the walks of the mutex read. -/
theorem RunHas.sees {S0 : List Nat} {w0 w : World} {m a r : Nat} {rs : List Res} {s : Rn} (H : RunHas S0 w0 m a r rs s w) : w.cell? ⟨r, 1, none⟩ = some (.int .i64 s.n) ∧ w.cell? ⟨r, 3, none⟩ = some (.int .i64 s.task) ∧ w.cell? ⟨r, 6, none⟩ = some (.int .u32 s.f.a) :=
  ⟨(H.whose rfl rfl rfl).1, (H.whose rfl rfl rfl).2.2, (H.facts rfl rfl rfl rfl).2.2.2.2.1⟩
theorem RunHas.sees_did {S0 : List Nat} {w0 w : World} {m a r : Nat} {rs : List Res} {s : Rn} {R : Acc × Bool × List Int} (H : RunHas S0 w0 m a r rs (s.did R) w) : w.cell? ⟨r, 1, none⟩ = some (.int .i64 s.n) ∧ w.cell? ⟨r, 3, none⟩ = some (.int .i64 s.task) ∧ w.cell? ⟨r, 6, none⟩ = some (.int .u32 s.f.a) :=
  ⟨(H.whose rfl rfl rfl).1, (H.whose rfl rfl rfl).2.2, (H.facts rfl rfl rfl rfl).2.2.2.2.1⟩
theorem RunHas.sees_wtd {S0 : List Nat} {w0 w : World} {m a r : Nat} {rs : List Res} {s : Rn} {R : WaitR} (H : RunHas S0 w0 m a r rs (s.waited R) w) : w.cell? ⟨r, 1, none⟩ = some (.int .i64 s.n) ∧ w.cell? ⟨r, 3, none⟩ = some (.int .i64 s.task) ∧ w.cell? ⟨r, 6, none⟩ = some (.int .u32 s.f.a) :=
  ⟨(H.whose rfl rfl rfl).1, (H.whose rfl rfl rfl).2.2, (H.facts rfl rfl rfl rfl).2.2.2.2.1⟩
theorem RunHas.sees_box {S0 : List Nat} {w0 w : World} {m a r : Nat} {rs : List Res} {s : Rn} {b : Nat} (H : RunHas S0 w0 m a r (.blk b #[.pointer (some ⟨r, 4, none⟩)] :: rs) s w) : w.cell? ⟨r, 1, none⟩ = some (.int .i64 s.n) ∧ w.cell? ⟨r, 3, none⟩ = some (.int .i64 s.task) ∧ w.cell? ⟨r, 6, none⟩ = some (.int .u32 s.f.a) ∧ w.cell? ⟨b, 0, none⟩ = some (.pointer (some ⟨r, 4, none⟩)) :=
  ⟨(H.whose rfl rfl rfl).1, (H.whose rfl rfl rfl).2.2, (H.facts rfl rfl rfl rfl).2.2.2.2.1, H.first.own.2.1 0⟩
theorem mx_own {S0 : List Nat} {w0 w : World} {m a r : Nat} {rs : List Res} {s : Rn} (H : RunHas S0 w0 m a r rs s w) :
    Calls Try.prog 77 #[.pointer (some ⟨r, 0, none⟩)] w fun e w' => e = .returned (.int .u32 (mxOwn s)) ∧ w = w' := by
  obtain ⟨y1, y2, y3⟩ := H.whose rfl rfl rfl
  go_enter Try.func77, Try.ntmps77
  go_wp2
  go_ret
  refine ⟨?_, rfl⟩
  show Ending.returned (Value.int .u32 _) = Ending.returned (Value.int .u32 _)
  unfold mxOwn
  have e : wrap64 (s.task + 1) % 4294967296 = (s.task + 1) % 4294967296 := by
    unfold wrap64
    omega
  rw [e]
theorem mx_other (v : Int) (w : World) (hv : 0 ≤ v ∧ v < 4294967296) :
    Calls Try.prog 78 #[.int .u32 v] w fun e w' => e = .returned (.int .i64 (v - 1)) ∧ w = w' := by
  go_enter Try.func78, Try.ntmps78
  go_wp2
  go_ret
  refine ⟨?_, rfl⟩
  go_num
theorem mx_free (v : Int) (w : World) (hv : 0 ≤ v ∧ v < 4294967296) :
    Calls Try.prog 79 #[.int .u32 v] w fun e w' => e = .returned (.bool (v == 0)) ∧ Touch [] w w' := by
  go_enter Try.func79, Try.ntmps79
  go_wp2
  go_ret
  exact ⟨rfl, Touch.refl _ _⟩

theorem RunHas.ne_first {S0 : List Nat} {w0 w : World} {m a r b : Nat} {cs : Array Value} {rs : List Res} {s : Rn} (H : RunHas S0 w0 m a r (.blk b cs :: rs) s w) : r ≠ b := by
  obtain ⟨nv, H⟩ := H
  exact H.ne_at 1 3 rfl rfl (by decide)
theorem RunHas.swap12 {S0 : List Nat} {w0 w : World} {m a r : Nat} {x y : Res} {rs : List Res} {s : Rn} (H : RunHas S0 w0 m a r (x :: y :: rs) s w) : RunHas S0 w0 m a r (y :: x :: rs) s w := by
  obtain ⟨nv, H⟩ := H
  exact ⟨nv, H.perm (((List.Perm.swap y x rs).cons _).cons _ |>.cons _)⟩

set_option maxHeartbeats 800000 in
theorem mx_noted {S0 : List Nat} {w0 w : World} {m a r g n c : Nat} {l : List Int} {rs : List Res} {s : Rn} (H : RunHas S0 w0 m a r (.blk g (i64s l).toArray :: rs) s w) (hn : l.length = n) (hc : s.notes.length + l.length ≤ 1000) :
    Calls Try.prog 83 #[.pointer (some ⟨r, 0, none⟩), .slice (some ⟨g, 0, none⟩) n c] w fun e w' => e = .returned (.tuple #[]) ∧ RunHas S0 w0 m a r (.blk g (i64s l).toArray :: rs) (s.noted l) w' := by
  subst hn
  have hll : l.length ≤ 1000 := by omega
  have HC := Lib.hid hc
  have HH := Lib.hid H
  clear hc H
  go_enter Try.func83, Try.ntmps83
  go_wp2_with fail
  go_loopw [8] (fun i wr => ∃ k : Nat, k ≤ l.length ∧ i = .int .i64 k ∧ RunHas S0 w0 m a r (.blk g (i64s l).toArray :: rs) (s.noted (l.take k)) wr) (fun i _ => l.length - (intOf i).toNat)
  case atStart => exact ⟨0, Nat.zero_le _, rfl, HH.out⟩
  case round =>
    obtain ⟨k, hk, rfl, hH⟩ := hrel
    have HK := Lib.hid hH
    clear hH
    by_cases hlt : k < l.length
    · obtain ⟨b, off, hb, hbl, hcell⟩ := i64s_at (rd_blk HK.out.first) hlt
      simp only [Option.some.injEq, Addr.mk.injEq] at hb
      obtain ⟨rfl, rfl, _⟩ := hb
      obtain ⟨x, hx⟩ : ∃ x, l.getD k 0 = x := ⟨_, rfl⟩
      rw [hx, Nat.zero_add] at hcell
      have HX := Lib.hid hx
      clear hx
      have hi : (k : Int) < (l.length : Int) := by omega
      go_wp2_with fail
      refine (run_note HK.out (by rw [noted_notes]; have := HC.out; simp only [List.length_take]; omega) x 0).mono ?_
      rintro e w1 ⟨rfl, H1⟩
      go_wp2
      go_roundw
      case rel => exact ⟨k + 1, by omega, by go_num, by rw [noted_succ s l k hlt, HX.out]; exact H1⟩
      case measure => simp [intOf]; omega
    · have hkn : k = l.length := by omega
      subst hkn
      have hi : (l.length : Int) ≤ (l.length : Int) := Int.le_refl _
      have H2 := HK.out
      rw [List.take_length] at H2
      clear HK hlt hk
      go_wp2_with fail
      go_end0
      exact ⟨rfl, H2⟩

theorem mx_keeps {m r b : Nat} {nv : Value} {s : Rn} (v : Int) (w : World) (hv : 0 ≤ v ∧ v < 4294967296) (hr : Blk w r (rcells m s nv)) (hb : Blk w b #[.pointer (some ⟨r, 4, none⟩)]) :
    Calls Try.prog 84 #[.int .u32 v, .pointer (some ⟨b, 0, none⟩)] w fun e w' => e = .returned (.bool (v != 0)) ∧ Touch [r] w w' ∧ Blk w' r (rcells m (if v != 0 then s.setA v else s) nv) := by
  obtain ⟨n, mode, task, ⟨op, line, fa, fb, st, ⟨on, wc, wi, hit⟩, ret⟩, ⟨ak, ac, ax, ay, ao⟩, notes, L⟩ := s
  obtain ⟨x0, x1, x2⟩ := hb.own
  cases hcm : v != 0 with
  | true =>
    simp only [rcells, if_true, Rn.setA] at hr ⊢
    obtain ⟨y0, y1, y2⟩ := hr.own
    have HR := Lib.hid hr
    clear hr
    go_enter Try.func84, Try.ntmps84
    go_wp2
    go_ret
    refine ⟨rfl, (Touch.refl _ _).set (by simp) _, ?_⟩
    have := HR.out.set 6 (.int .u32 v)
    simp only [List.setIfInBounds_toArray, List.set_cons_zero, List.set_cons_succ] at this
    exact this
  | false =>
    simp only [rcells, Bool.false_eq_true, if_false] at hr ⊢
    have HR := Lib.hid hr
    clear hr
    go_enter Try.func84, Try.ntmps84
    go_wp2
    go_ret
    exact ⟨rfl, Touch.refl _ _, HR.out⟩

end Go.Proofs.Ytlndihdlodempaa.Z

/- Package mutex: the lines of who enters, of who tries. Written by genmx.py. -/
set_option linter.unusedVariables false
set_option linter.unusedSimpArgs false
namespace Go.Proofs.Ytlndihdlodempaa.Z
open Go.RowKit

attribute [local go_sem ↓] Go.wp_at_zero Go.wp_at_succ

def mxE0 (s : Rn) : Rn := (s.did (doA s.L ⟨2, cellP s.n 0 s.task, 0, 0, 0⟩)).goto 1
set_option maxHeartbeats 800000 in
theorem mx_e0 {S0 : List Nat} {w0 w : World} {m a r : Nat} {rs : List Res} {s : Rn} (H : RunHas S0 w0 m a r rs s w) (tail cls : Int) (hl : s.f.line = 0) (hn : I64 s.n) :
    Calls Try.prog 26 #[.pointer (some ⟨r, 0, none⟩), .int .i64 tail, .int .i64 cls] w fun e w' => e = .returned (.bool false) ∧ RunHas S0 w0 m a r rs (mxE0 s) w' := by
  obtain ⟨o, hop⟩ : ∃ o, s.f.op = o := ⟨_, rfl⟩
  obtain ⟨z0, z2, z4, z5, z6, z7⟩ := H.facts rfl hl rfl rfl
  obtain ⟨y1, y2, y3⟩ := H.whose rfl rfl rfl
  have HN := Lib.hid hn
  have HH := Lib.hid H
  have HNX := Lib.hid (fun W => mapNext s.n s.task W hn)
  have HST := Lib.hid (fun W (H : RunHas S0 w0 m a r rs s W) => rn_store H (cellP s.n 0 s.task) 0 (by decide))
  clear H hn
  unfold mxE0
  go_enter Try.func26, Try.ntmps26
  go_wp2_with fail
  go_region_held3 (fun w' => w'.cell? ⟨r, 1, none⟩ = some (.int .i64 s.n) ∧ w'.cell? ⟨r, 3, none⟩ = some (.int .i64 s.task) ∧ w'.cell? ⟨r, 6, none⟩ = some (.int .u32 s.f.a))
    (first | with_reducible exact RunHas.sees HH.out | with_reducible exact RunHas.sees HH.out.drew | (refine RunHas.sees (S0 := S0) (w0 := w0) (m := m) (a := a) (rs := rs) (s := s) ?_; with_reducible assumption) | (refine RunHas.sees_did (S0 := S0) (w0 := w0) (m := m) (a := a) (rs := rs) (s := s) (R := doA s.L ⟨2, cellP s.n 0 s.task, 0, 0, 0⟩) ?_; with_reducible assumption) | (refine RunHas.sees_wtd (S0 := S0) (w0 := w0) (m := m) (a := a) (rs := rs) (s := s) (R := doA s.L ⟨2, cellP s.n 0 s.task, 0, 0, 0⟩) ?_; with_reducible assumption))
    (first | (go_at_call 75; refine (HNX.out _).mono ?_; rintro e w1 ⟨rfl, t1⟩; have H1 := RunHas.grow (by first | with_reducible exact HH.out | with_reducible exact HH.out.drew) t1) | (go_at_call 47; (with_reducible refine (HST.out _ H1).mono ?_); rintro e w2 ⟨rfl, H2⟩))
  go_wp2_with fail
  refine (rn_go H2 1).mono ?_
  rintro e w3 ⟨rfl, H3⟩
  go_wp2_with fail
  go_ret
  exact ⟨rfl, H3⟩

def mxE1 (s : Rn) : Rn := (s.did (doA s.L ⟨2, cellP s.n 1 s.task, 1, 0, 0⟩)).goto 2
set_option maxHeartbeats 800000 in
theorem mx_e1 {S0 : List Nat} {w0 w : World} {m a r : Nat} {rs : List Res} {s : Rn} (H : RunHas S0 w0 m a r rs s w) (tail cls : Int) (hl : s.f.line = 1) (hn : I64 s.n) :
    Calls Try.prog 26 #[.pointer (some ⟨r, 0, none⟩), .int .i64 tail, .int .i64 cls] w fun e w' => e = .returned (.bool false) ∧ RunHas S0 w0 m a r rs (mxE1 s) w' := by
  obtain ⟨o, hop⟩ : ∃ o, s.f.op = o := ⟨_, rfl⟩
  obtain ⟨z0, z2, z4, z5, z6, z7⟩ := H.facts rfl hl rfl rfl
  obtain ⟨y1, y2, y3⟩ := H.whose rfl rfl rfl
  have HN := Lib.hid hn
  have HH := Lib.hid H
  have HNX := Lib.hid (fun W => mapBlocked s.n s.task W hn)
  have HST := Lib.hid (fun W (H : RunHas S0 w0 m a r rs s W) => rn_store H (cellP s.n 1 s.task) 1 (by decide))
  clear H hn
  unfold mxE1
  go_enter Try.func26, Try.ntmps26
  go_wp2_with fail
  go_region_held3 (fun w' => w'.cell? ⟨r, 1, none⟩ = some (.int .i64 s.n) ∧ w'.cell? ⟨r, 3, none⟩ = some (.int .i64 s.task) ∧ w'.cell? ⟨r, 6, none⟩ = some (.int .u32 s.f.a))
    (first | with_reducible exact RunHas.sees HH.out | with_reducible exact RunHas.sees HH.out.drew | (refine RunHas.sees (S0 := S0) (w0 := w0) (m := m) (a := a) (rs := rs) (s := s) ?_; with_reducible assumption) | (refine RunHas.sees_did (S0 := S0) (w0 := w0) (m := m) (a := a) (rs := rs) (s := s) (R := doA s.L ⟨2, cellP s.n 1 s.task, 1, 0, 0⟩) ?_; with_reducible assumption) | (refine RunHas.sees_wtd (S0 := S0) (w0 := w0) (m := m) (a := a) (rs := rs) (s := s) (R := doA s.L ⟨2, cellP s.n 1 s.task, 1, 0, 0⟩) ?_; with_reducible assumption))
    (first | (go_at_call 76; refine (HNX.out _).mono ?_; rintro e w1 ⟨rfl, t1⟩; have H1 := RunHas.grow (by first | with_reducible exact HH.out | with_reducible exact HH.out.drew) t1) | (go_at_call 47; (with_reducible refine (HST.out _ H1).mono ?_); rintro e w2 ⟨rfl, H2⟩))
  go_wp2_with fail
  refine (rn_go H2 2).mono ?_
  rintro e w3 ⟨rfl, H3⟩
  go_wp2_with fail
  go_ret
  exact ⟨rfl, H3⟩

def mxE2 (tail cls : Int) (s : Rn) : Bool × Rn :=
  let s1 := ((s.did (doA s.L ⟨4, tail, mxOwn s, 0, 0⟩)).setA (doA s.L ⟨4, tail, mxOwn s, 0, 0⟩).1.old).note 2 cls
  if (doA s.L ⟨4, tail, mxOwn s, 0, 0⟩).1.old = 0 then (true, s1) else (false, s1.goto 3)
set_option maxHeartbeats 800000 in
theorem mx_e2 {S0 : List Nat} {w0 w : World} {m a r : Nat} {rs : List Res} {s : Rn} (H : RunHas S0 w0 m a r rs s w) (tail cls : Int) (hc : s.notes.length ≤ 900) (hl : s.f.line = 2) (hn : I64 s.n) :
    Calls Try.prog 26 #[.pointer (some ⟨r, 0, none⟩), .int .i64 tail, .int .i64 cls] w fun e w' => e = .returned (.bool (mxE2 tail cls s).1) ∧ RunHas S0 w0 m a r rs (mxE2 tail cls s).2 w' := by
  obtain ⟨o, hop⟩ : ∃ o, s.f.op = o := ⟨_, rfl⟩
  obtain ⟨z0, z2, z4, z5, z6, z7⟩ := H.facts rfl hl rfl rfl
  obtain ⟨y1, y2, y3⟩ := H.whose rfl rfl rfl
  have HN := Lib.hid hn
  have HH := Lib.hid H
  have HC := Lib.hid hc
  clear H hn hc
  unfold mxE2
  (try dsimp only)
  by_cases hq : (doA s.L ⟨4, tail, mxOwn s, 0, 0⟩).1.old = 0
  · simp only [if_pos hq]
    have hz : ((doA s.L ⟨4, tail, mxOwn s, 0, 0⟩).1.old == 0) = true := by simpa using hq
    clear hq
    go_enter Try.func26, Try.ntmps26
    go_wp2_with fail
    refine (mx_own HH.out).mono ?_
    rintro e w9 ⟨rfl, rfl⟩
    go_wp2_with fail
    refine (rn_swap HH.out tail (mxOwn s) (mxOwn_word s)).mono ?_
    rintro e w1 ⟨rfl, H1⟩
    obtain ⟨x0, x2, x4, x5, x6, x7⟩ := H1.facts hop hl rfl rfl
    go_wp2_with fail
    refine (run_note (H1.setA (doA s.L ⟨4, tail, mxOwn s, 0, 0⟩).1.old) (by have := HC.out; first | exact Nat.le_trans this (by decide) | (simp [Rn.note, Rn.did, Rn.setA, Rn.setB, Rn.waited, Rn.goto, Rn.noted]; omega)) 2 cls).mono ?_
    rintro e w2 ⟨rfl, H2⟩
    obtain ⟨x0, x2, x4, x5, x6, x7⟩ := H2.facts hop hl (x := (doA s.L ⟨4, tail, mxOwn s, 0, 0⟩).1.old) rfl rfl
    go_wp2_with fail
    go_ret
    exact ⟨rfl, H2⟩
  · simp only [if_neg hq]
    have hz : ((doA s.L ⟨4, tail, mxOwn s, 0, 0⟩).1.old == 0) = false := by simpa using hq
    clear hq
    go_enter Try.func26, Try.ntmps26
    go_wp2_with fail
    refine (mx_own HH.out).mono ?_
    rintro e w9 ⟨rfl, rfl⟩
    go_wp2_with fail
    refine (rn_swap HH.out tail (mxOwn s) (mxOwn_word s)).mono ?_
    rintro e w1 ⟨rfl, H1⟩
    obtain ⟨x0, x2, x4, x5, x6, x7⟩ := H1.facts hop hl rfl rfl
    go_wp2_with fail
    refine (run_note (H1.setA (doA s.L ⟨4, tail, mxOwn s, 0, 0⟩).1.old) (by have := HC.out; first | exact Nat.le_trans this (by decide) | (simp [Rn.note, Rn.did, Rn.setA, Rn.setB, Rn.waited, Rn.goto, Rn.noted]; omega)) 2 cls).mono ?_
    rintro e w2 ⟨rfl, H2⟩
    obtain ⟨x0, x2, x4, x5, x6, x7⟩ := H2.facts hop hl (x := (doA s.L ⟨4, tail, mxOwn s, 0, 0⟩).1.old) rfl rfl
    go_wp2_with fail
    refine (rn_go H2 3).mono ?_
    rintro e w3 ⟨rfl, H3⟩
    go_wp2_with fail
    go_ret
    exact ⟨rfl, H3⟩

def mxE3 (s : Rn) : Rn := ((s.did (doA s.L ⟨2, (cellP s.n 0 (s.f.a - 1)), mxOwn s, 0, 0⟩)).wake (cellP s.n 0 (s.f.a - 1))).goto 4
set_option maxHeartbeats 800000 in
theorem mx_e3 {S0 : List Nat} {w0 w : World} {m a r : Nat} {rs : List Res} {s : Rn} (H : RunHas S0 w0 m a r rs s w) (tail cls : Int) (ha : 0 ≤ s.f.a ∧ s.f.a < 4294967296) (hl : s.f.line = 3) (hn : I64 s.n) :
    Calls Try.prog 26 #[.pointer (some ⟨r, 0, none⟩), .int .i64 tail, .int .i64 cls] w fun e w' => e = .returned (.bool false) ∧ RunHas S0 w0 m a r rs (mxE3 s) w' := by
  obtain ⟨o, hop⟩ : ∃ o, s.f.op = o := ⟨_, rfl⟩
  obtain ⟨z0, z2, z4, z5, z6, z7⟩ := H.facts rfl hl rfl rfl
  obtain ⟨y1, y2, y3⟩ := H.whose rfl rfl rfl
  have HN := Lib.hid hn
  have HH := Lib.hid H
  have HA := Lib.hid ha
  have HNX := Lib.hid (fun W => mapNext s.n (s.f.a - 1) W hn)
  clear H hn ha
  unfold mxE3
  go_enter Try.func26, Try.ntmps26
  go_wp2_with fail
  go_region_held3 (fun w' => w'.cell? ⟨r, 1, none⟩ = some (.int .i64 s.n) ∧ w'.cell? ⟨r, 3, none⟩ = some (.int .i64 s.task) ∧ w'.cell? ⟨r, 6, none⟩ = some (.int .u32 s.f.a))
    (first | with_reducible exact RunHas.sees HH.out | with_reducible exact RunHas.sees HH.out.drew | (refine RunHas.sees (S0 := S0) (w0 := w0) (m := m) (a := a) (rs := rs) (s := s) ?_; with_reducible assumption) | (refine RunHas.sees_did (S0 := S0) (w0 := w0) (m := m) (a := a) (rs := rs) (s := s) (R := X) ?_; with_reducible assumption) | (refine RunHas.sees_wtd (S0 := S0) (w0 := w0) (m := m) (a := a) (rs := rs) (s := s) (R := X) ?_; with_reducible assumption))
    (first | (go_at_call 78; refine (mx_other _ _ HA.out).mono ?_; rintro e w9 ⟨rfl, rfl⟩) | (go_at_call 75; refine (HNX.out _).mono ?_; rintro e w1 ⟨rfl, t1⟩; have H1 := RunHas.grow (by first | with_reducible exact HH.out | with_reducible exact HH.out.drew) t1))
  obtain ⟨x0, x2, x4, x5, x6, x7⟩ := H1.facts hop hl rfl rfl
  obtain ⟨v1, v2, v3⟩ := H1.whose rfl rfl rfl
  go_wp2_with fail
  refine (mx_own H1).mono ?_
  rintro e w9 ⟨rfl, rfl⟩
  go_wp2_with fail
  refine (rn_store H1 (cellP s.n 0 (s.f.a - 1)) (mxOwn s) (mxOwn_word s)).mono ?_
  rintro e w2 ⟨rfl, H2⟩
  go_wp2_with fail
  refine (rn_wake H2 (cellP s.n 0 (s.f.a - 1))).mono ?_
  rintro e w3 ⟨rfl, H3⟩
  go_wp2_with fail
  refine (rn_go H3 4).mono ?_
  rintro e w4 ⟨rfl, H4⟩
  go_wp2_with fail
  go_ret
  exact ⟨rfl, H4⟩

def mxE4 (s : Rn) : Bool × Rn := ((waitA s.L s.n s.mode s.task s.f.st (cellP s.n 1 s.task) (fun v => v == 0)).done, s.waited (waitA s.L s.n s.mode s.task s.f.st (cellP s.n 1 s.task) (fun v => v == 0)))
set_option maxHeartbeats 800000 in
theorem mx_e4 {S0 : List Nat} {w0 w : World} {m a r : Nat} {rs : List Res} {s : Rn} (H : RunHas S0 w0 m a r rs s w) (tail cls : Int) (hl : s.f.line = 4) (hn : I64 s.n) :
    Calls Try.prog 26 #[.pointer (some ⟨r, 0, none⟩), .int .i64 tail, .int .i64 cls] w fun e w' => e = .returned (.bool (mxE4 s).1) ∧ RunHas S0 w0 m a r rs (mxE4 s).2 w' := by
  obtain ⟨o, hop⟩ : ∃ o, s.f.op = o := ⟨_, rfl⟩
  obtain ⟨z0, z2, z4, z5, z6, z7⟩ := H.facts rfl hl rfl rfl
  obtain ⟨y1, y2, y3⟩ := H.whose rfl rfl rfl
  have HN := Lib.hid hn
  have HH := Lib.hid H
  have HNX := Lib.hid (fun W => mapBlocked s.n s.task W hn)
  have HWT := Lib.hid (fun W (H : RunHas S0 w0 m a r rs s W) => rn_wait H hn (cellP s.n 1 s.task) 79 #[] #[] (fun v => v == 0) (enters_of Try.func79 (by kernel_rfl) rfl) (fun W v h0 h1 H => mx_free v W ⟨h0, h1⟩))
  clear H hn
  unfold mxE4
  (try dsimp only)
  go_enter Try.func26, Try.ntmps26
  go_wp2_with fail
  go_region_held3 (fun w' => w'.cell? ⟨r, 1, none⟩ = some (.int .i64 s.n) ∧ w'.cell? ⟨r, 3, none⟩ = some (.int .i64 s.task) ∧ w'.cell? ⟨r, 6, none⟩ = some (.int .u32 s.f.a))
    (first | with_reducible exact RunHas.sees HH.out | with_reducible exact RunHas.sees HH.out.drew | (refine RunHas.sees (S0 := S0) (w0 := w0) (m := m) (a := a) (rs := rs) (s := s) ?_; with_reducible assumption) | (refine RunHas.sees_did (S0 := S0) (w0 := w0) (m := m) (a := a) (rs := rs) (s := s) (R := (waitA s.L s.n s.mode s.task s.f.st (cellP s.n 1 s.task) (fun v => v == 0))) ?_; with_reducible assumption) | (refine RunHas.sees_wtd (S0 := S0) (w0 := w0) (m := m) (a := a) (rs := rs) (s := s) (R := (waitA s.L s.n s.mode s.task s.f.st (cellP s.n 1 s.task) (fun v => v == 0))) ?_; with_reducible assumption))
    (first | (go_at_call 76; refine (HNX.out _).mono ?_; rintro e w1 ⟨rfl, t1⟩; have H1 := RunHas.grow (by first | with_reducible exact HH.out | with_reducible exact HH.out.drew) t1) | (go_at_call 57; (with_reducible refine (HWT.out _ H1).mono ?_); rintro e w2 ⟨rfl, H2⟩))
  go_wp2_with fail
  go_ret
  exact ⟨rfl, H2⟩

theorem mx_enone {S0 : List Nat} {w0 w : World} {m a r : Nat} {rs : List Res} {s : Rn} (H : RunHas S0 w0 m a r rs s w) (tail cls : Int) {l : Int} (hl : s.f.line = l) (h0 : ¬ l = 0) (h1 : ¬ l = 1) (h2 : ¬ l = 2) (h3 : ¬ l = 3) (h4 : ¬ l = 4) :
    Calls Try.prog 26 #[.pointer (some ⟨r, 0, none⟩), .int .i64 tail, .int .i64 cls] w fun e w' => e = .returned (.bool false) ∧ RunHas S0 w0 m a r rs s w' := by
  obtain ⟨z0, z2, z4, z5, z6, z7⟩ := H.facts rfl hl rfl rfl
  have HH := Lib.hid H
  clear H
  go_enter Try.func26, Try.ntmps26
  go_wp2_with fail
  go_ret
  exact ⟨rfl, HH.out⟩

def mxT0 (s : Rn) : Rn := mxE0 s
set_option maxHeartbeats 800000 in
theorem mx_t0 {S0 : List Nat} {w0 w : World} {m a r : Nat} {rs : List Res} {s : Rn} (H : RunHas S0 w0 m a r rs s w) (tail : Int) {l : Int} (hsub : wrap64 l = 0) (hl : s.f.line = l) (hn : I64 s.n) :
    Calls Try.prog 30 #[.pointer (some ⟨r, 0, none⟩), .int .i64 tail, .int .i64 0] w fun e w' => e = .returned (.tuple #[.bool false, .bool false]) ∧ RunHas S0 w0 m a r rs (mxE0 s) w' := by
  obtain ⟨o, hop⟩ : ∃ o, s.f.op = o := ⟨_, rfl⟩
  obtain ⟨z0, z2, z4, z5, z6, z7⟩ := H.facts rfl hl rfl rfl
  obtain ⟨y1, y2, y3⟩ := H.whose rfl rfl rfl
  have HN := Lib.hid hn
  have HH := Lib.hid H
  have HNX := Lib.hid (fun W => mapNext s.n s.task W hn)
  have HST := Lib.hid (fun W (H : RunHas S0 w0 m a r rs s W) => rn_store H (cellP s.n 0 s.task) 0 (by decide))
  clear H hn
  unfold mxE0
  go_enter Try.func30, Try.ntmps30
  go_wp2_with fail
  go_region_held3 (fun w' => w'.cell? ⟨r, 1, none⟩ = some (.int .i64 s.n) ∧ w'.cell? ⟨r, 3, none⟩ = some (.int .i64 s.task) ∧ w'.cell? ⟨r, 6, none⟩ = some (.int .u32 s.f.a))
    (first | with_reducible exact RunHas.sees HH.out | with_reducible exact RunHas.sees HH.out.drew | (refine RunHas.sees (S0 := S0) (w0 := w0) (m := m) (a := a) (rs := rs) (s := s) ?_; with_reducible assumption) | (refine RunHas.sees_did (S0 := S0) (w0 := w0) (m := m) (a := a) (rs := rs) (s := s) (R := doA s.L ⟨2, cellP s.n 0 s.task, 0, 0, 0⟩) ?_; with_reducible assumption) | (refine RunHas.sees_wtd (S0 := S0) (w0 := w0) (m := m) (a := a) (rs := rs) (s := s) (R := doA s.L ⟨2, cellP s.n 0 s.task, 0, 0, 0⟩) ?_; with_reducible assumption))
    (first | (go_at_call 75; refine (HNX.out _).mono ?_; rintro e w1 ⟨rfl, t1⟩; have H1 := RunHas.grow (by first | with_reducible exact HH.out | with_reducible exact HH.out.drew) t1) | (go_at_call 47; (with_reducible refine (HST.out _ H1).mono ?_); rintro e w2 ⟨rfl, H2⟩))
  go_wp2_with fail
  refine (rn_go H2 1).mono ?_
  rintro e w3 ⟨rfl, H3⟩
  go_wp2_with fail
  refine bodyPost_ret (v := .tuple #[.bool false, .bool false]) (by simp [results, Try.results30, go_sem]) rfl ⟨rfl, ?_⟩
  exact H3

def mxT1 (s : Rn) : Rn := s
set_option maxHeartbeats 800000 in
theorem mx_t1 {S0 : List Nat} {w0 w : World} {m a r : Nat} {rs : List Res} {s : Rn} (H : RunHas S0 w0 m a r rs s w) (tail : Int) {l : Int} (hsub : wrap64 l = 1) (hl : s.f.line = l) (hn : I64 s.n) :
    Calls Try.prog 30 #[.pointer (some ⟨r, 0, none⟩), .int .i64 tail, .int .i64 0] w fun e w' => e = .returned (.tuple #[.bool true, .bool (casB s.L tail 0 (mxOwn s))]) ∧ RunHas S0 w0 m a r rs (s.did (doA s.L ⟨5, tail, 0, mxOwn s, 0⟩)) w' := by
  obtain ⟨o, hop⟩ : ∃ o, s.f.op = o := ⟨_, rfl⟩
  obtain ⟨z0, z2, z4, z5, z6, z7⟩ := H.facts rfl hl rfl rfl
  obtain ⟨y1, y2, y3⟩ := H.whose rfl rfl rfl
  have HN := Lib.hid hn
  have HH := Lib.hid H
  clear H hn
  go_enter Try.func30, Try.ntmps30
  go_wp2_with fail
  refine (mx_own HH.out).mono ?_
  rintro e w9 ⟨rfl, rfl⟩
  go_wp2_with fail
  refine (rn_cas HH.out tail 0 (mxOwn s) (by decide) (mxOwn_word s)).mono ?_
  rintro e w1 ⟨rfl, H1⟩
  go_wp2_with fail
  refine bodyPost_ret (v := .tuple #[.bool true, .bool (casB s.L tail 0 (mxOwn s))]) (by simp [results, Try.results30, go_sem]) rfl ⟨rfl, ?_⟩
  exact H1

theorem mx_tnone {S0 : List Nat} {w0 w : World} {m a r : Nat} {rs : List Res} {s : Rn} (H : RunHas S0 w0 m a r rs s w) (tail : Int) {l : Int} (hl : s.f.line = l) (h0 : ¬ wrap64 l = 0) (h1 : ¬ wrap64 l = 1) :
    Calls Try.prog 30 #[.pointer (some ⟨r, 0, none⟩), .int .i64 tail, .int .i64 0] w fun e w' => e = .returned (.tuple #[.bool false, .bool false]) ∧ RunHas S0 w0 m a r rs s w' := by
  obtain ⟨z0, z2, z4, z5, z6, z7⟩ := H.facts rfl hl rfl rfl
  have HH := Lib.hid H
  clear H
  go_enter Try.func30, Try.ntmps30
  go_wp2_with fail
  refine bodyPost_ret (v := .tuple #[.bool false, .bool false]) (by simp [results, Try.results30, go_sem]) rfl ⟨rfl, ?_⟩
  exact HH.out

/-- A line of who enters. -/
def mxEnter (tail cls : Int) (s : Rn) : Bool × Rn :=
  if s.f.line = 0 then (false, mxE0 s) else if s.f.line = 1 then (false, mxE1 s) else if s.f.line = 2 then mxE2 tail cls s else if s.f.line = 3 then (false, mxE3 s) else if s.f.line = 4 then mxE4 s else (false, s)
theorem mx_enter {S0 : List Nat} {w0 w : World} {m a r : Nat} {rs : List Res} {s : Rn} (H : RunHas S0 w0 m a r rs s w) (tail cls : Int) (hn : I64 s.n) (ha : 0 ≤ s.f.a ∧ s.f.a < 4294967296) (hc : s.notes.length ≤ 900) :
    Calls Try.prog 26 #[.pointer (some ⟨r, 0, none⟩), .int .i64 tail, .int .i64 cls] w fun e w' => e = .returned (.bool (mxEnter tail cls s).1) ∧ RunHas S0 w0 m a r rs (mxEnter tail cls s).2 w' := by
  unfold mxEnter
  split
  · exact mx_e0 H tail cls (by assumption) hn
  split
  · exact mx_e1 H tail cls (by assumption) hn
  split
  · exact mx_e2 H tail cls hc (by assumption) hn
  split
  · exact mx_e3 H tail cls ha (by assumption) hn
  split
  · exact mx_e4 H tail cls (by assumption) hn
  · exact mx_enone H tail cls rfl (by assumption) (by assumption) (by assumption) (by assumption) (by assumption)
/-- A line of who tries: done, in. -/
def mxTry (tail : Int) (s : Rn) : Bool × Bool × Rn :=
  if wrap64 s.f.line = 0 then (false, false, mxE0 s) else if wrap64 s.f.line = 1 then (true, casB s.L tail 0 (mxOwn s), s.did (doA s.L ⟨5, tail, 0, mxOwn s, 0⟩)) else (false, false, s)
theorem mx_try {S0 : List Nat} {w0 w : World} {m a r : Nat} {rs : List Res} {s : Rn} (H : RunHas S0 w0 m a r rs s w) (tail : Int) (hn : I64 s.n) :
    Calls Try.prog 30 #[.pointer (some ⟨r, 0, none⟩), .int .i64 tail, .int .i64 0] w fun e w' => e = .returned (.tuple #[.bool (mxTry tail s).1, .bool (mxTry tail s).2.1]) ∧ RunHas S0 w0 m a r rs (mxTry tail s).2.2 w' := by
  unfold mxTry
  split
  · exact mx_t0 H tail (by assumption) rfl hn
  split
  · exact mx_t1 H tail (by assumption) rfl hn
  · exact mx_tnone H tail rfl (by assumption) (by assumption)

end Go.Proofs.Ytlndihdlodempaa.Z

/- Package mutex: the lines of who gives the queue on. Written by genmx.py. -/
set_option linter.unusedVariables false
set_option linter.unusedSimpArgs false
namespace Go.Proofs.Ytlndihdlodempaa.Z
open Go.RowKit

attribute [local go_sem ↓] Go.wp_at_zero Go.wp_at_succ

def mxG0 (q : Int) (s : Rn) : Rn :=
  let s1 := (s.did (doA s.L ⟨1, (cellP s.n 0 s.task), 0, 0, 0⟩)).setA (doA s.L ⟨1, (cellP s.n 0 s.task), 0, 0, 0⟩).1.old
  if (doA s.L ⟨1, (cellP s.n 0 s.task), 0, 0, 0⟩).1.old = 0 then s1.goto (q + 1) else s1.goto (q + 3)
set_option maxHeartbeats 1600000 in
theorem mx_g0 {S0 : List Nat} {w0 w : World} {m a r : Nat} {rs : List Res} {s : Rn} (tail q : Int) {g nn c : Nat} {nl : List Int} (hnl : nl.length = nn) (hq : 0 ≤ q ∧ q ≤ 100) (hc : s.notes.length + nl.length ≤ 900) (H : RunHas S0 w0 m a r (.blk g (i64s nl).toArray :: rs) s w) {l : Int} (hl : s.f.line = l) (hsub : wrap64 (l - q) = 0) (hn : I64 s.n) (ha : 0 ≤ s.f.a ∧ s.f.a < 4294967296) :
    Calls Try.prog 28 #[.pointer (some ⟨r, 0, none⟩), .int .i64 tail, .int .i64 q, .slice (some ⟨g, 0, none⟩) nn c] w fun e w' => e = .returned (.bool false) ∧ RunHas S0 w0 m a r (.blk g (i64s nl).toArray :: rs) (mxG0 q s) w' := by
  obtain ⟨o, hop⟩ : ∃ o, s.f.op = o := ⟨_, rfl⟩
  have hne := H.ne_first
  obtain ⟨z0, z2, z4, z5, z6, z7⟩ := H.facts hop hl rfl rfl
  have HA := Lib.hid ha
  have HC := Lib.hid hc
  have HQ := Lib.hid hq
  have HNX := Lib.hid (fun W => mapNext s.n s.task W hn)
  have HLD := Lib.hid (fun W rs (H : RunHas S0 w0 m a r rs s W) => rn_load H (cellP s.n 0 s.task))
  have HH := Lib.hid (H.box rfl #[.pointer (some ⟨r, 4, none⟩)] 102)
  clear H ha hc hn
  unfold mxG0
  (try dsimp only)
  by_cases hz : (doA s.L ⟨1, (cellP s.n 0 s.task), 0, 0, 0⟩).1.old = 0
  · simp only [if_pos hz]
    have hzb : ((doA s.L ⟨1, (cellP s.n 0 s.task), 0, 0, 0⟩).1.old != 0) = false := by simpa using hz
    clear hz
    go_enter Try.func28, Try.ntmps28
    go_wp2_with fail
    have HW := HH.out
    generalize w.heap.size = tb at HW ⊢
    generalize w.alloc _ = W at HW ⊢
    obtain ⟨z0, z2, z4, z5, z6, z7⟩ := HW.facts hop hl rfl rfl
    obtain ⟨y1, y2, y3⟩ := HW.whose rfl rfl rfl
    obtain ⟨u0, u1, u2⟩ := HW.first.own
    go_region_held3 (fun w' => w'.cell? ⟨r, 1, none⟩ = some (.int .i64 s.n) ∧ w'.cell? ⟨r, 3, none⟩ = some (.int .i64 s.task) ∧ w'.cell? ⟨r, 6, none⟩ = some (.int .u32 s.f.a) ∧ w'.cell? ⟨tb, 0, none⟩ = some (.pointer (some ⟨r, 4, none⟩)))
      (first | (refine RunHas.sees_box (S0 := S0) (w0 := w0) (m := m) (a := a) (rs := .blk g (i64s nl).toArray :: rs) (s := s) ?_; first | with_reducible assumption | with_reducible exact HW.drew))
      (first | (go_at_call 75; refine (HNX.out _).mono ?_; rintro e w1 ⟨rfl, t1⟩; have H1 := RunHas.grow HW.drew t1))
    clear u0 u1 u2 z0 z2 z4 z5 z6 z7 y1 y2 y3
    obtain ⟨x0, x2, x4, x5, x6, x7⟩ := H1.facts hop hl rfl rfl
    obtain ⟨v1, v2, v3⟩ := H1.whose rfl rfl rfl
    obtain ⟨u0, u1, u2⟩ := H1.first.own
    go_wp2_with fail
    have hne2 := H1.ne_first
    go_region_held3 (fun w' => ∀ i, w'.cell? ⟨tb, i, none⟩ = (#[.pointer (some ⟨r, 4, none⟩)] : Array Value)[i]?)
      (first | assumption | (intro i; rw [World.cell?_setCell_far _ _ _ _ (by exact hne2)]; apply_assumption) | (intro i; apply_assumption))
      (first | (go_at_call 53; (with_reducible refine (HLD.out _ _ H1.drew).mono ?_); rintro e w2 ⟨rfl, H2⟩; obtain ⟨v0, v1, v2⟩ := H2.first.own; obtain ⟨x0, x2, x4, x5, x6, x7⟩ := H2.facts hop hl rfl rfl))
    have H3 := H2.setA (doA s.L ⟨1, (cellP s.n 0 s.task), 0, 0, 0⟩).1.old
    go_wp2_with fail
    refine (rn_go H3 (q + 1)).mono ?_
    rintro e w4 ⟨rfl, H4⟩
    go_wp2_with fail
    go_ret
    exact ⟨rfl, H4.unbox⟩
  · simp only [if_neg hz]
    have hzb : ((doA s.L ⟨1, (cellP s.n 0 s.task), 0, 0, 0⟩).1.old != 0) = true := by simpa using hz
    clear hz
    go_enter Try.func28, Try.ntmps28
    go_wp2_with fail
    have HW := HH.out
    generalize w.heap.size = tb at HW ⊢
    generalize w.alloc _ = W at HW ⊢
    obtain ⟨z0, z2, z4, z5, z6, z7⟩ := HW.facts hop hl rfl rfl
    obtain ⟨y1, y2, y3⟩ := HW.whose rfl rfl rfl
    obtain ⟨u0, u1, u2⟩ := HW.first.own
    go_region_held3 (fun w' => w'.cell? ⟨r, 1, none⟩ = some (.int .i64 s.n) ∧ w'.cell? ⟨r, 3, none⟩ = some (.int .i64 s.task) ∧ w'.cell? ⟨r, 6, none⟩ = some (.int .u32 s.f.a) ∧ w'.cell? ⟨tb, 0, none⟩ = some (.pointer (some ⟨r, 4, none⟩)))
      (first | (refine RunHas.sees_box (S0 := S0) (w0 := w0) (m := m) (a := a) (rs := .blk g (i64s nl).toArray :: rs) (s := s) ?_; first | with_reducible assumption | with_reducible exact HW.drew))
      (first | (go_at_call 75; refine (HNX.out _).mono ?_; rintro e w1 ⟨rfl, t1⟩; have H1 := RunHas.grow HW.drew t1))
    clear u0 u1 u2 z0 z2 z4 z5 z6 z7 y1 y2 y3
    obtain ⟨x0, x2, x4, x5, x6, x7⟩ := H1.facts hop hl rfl rfl
    obtain ⟨v1, v2, v3⟩ := H1.whose rfl rfl rfl
    obtain ⟨u0, u1, u2⟩ := H1.first.own
    go_wp2_with fail
    have hne2 := H1.ne_first
    go_region_held3 (fun w' => ∀ i, w'.cell? ⟨tb, i, none⟩ = (#[.pointer (some ⟨r, 4, none⟩)] : Array Value)[i]?)
      (first | assumption | (intro i; rw [World.cell?_setCell_far _ _ _ _ (by exact hne2)]; apply_assumption) | (intro i; apply_assumption))
      (first | (go_at_call 53; (with_reducible refine (HLD.out _ _ H1.drew).mono ?_); rintro e w2 ⟨rfl, H2⟩; obtain ⟨v0, v1, v2⟩ := H2.first.own; obtain ⟨x0, x2, x4, x5, x6, x7⟩ := H2.facts hop hl rfl rfl))
    have H3 := H2.setA (doA s.L ⟨1, (cellP s.n 0 s.task), 0, 0, 0⟩).1.old
    go_wp2_with fail
    refine (rn_go H3 (q + 3)).mono ?_
    rintro e w4 ⟨rfl, H4⟩
    go_wp2_with fail
    go_ret
    exact ⟨rfl, H4.unbox⟩

def mxG1 (tail q : Int) (nl : List Int) (s : Rn) : Bool × Rn :=
  if casB s.L tail (mxOwn s) 0 then (true, (s.did (doA s.L ⟨5, tail, mxOwn s, 0, 0⟩)).noted nl) else (false, (s.did (doA s.L ⟨5, tail, mxOwn s, 0, 0⟩)).goto (q + 2))
set_option maxHeartbeats 1600000 in
theorem mx_g1 {S0 : List Nat} {w0 w : World} {m a r : Nat} {rs : List Res} {s : Rn} (tail q : Int) {g nn c : Nat} {nl : List Int} (hnl : nl.length = nn) (hq : 0 ≤ q ∧ q ≤ 100) (hc : s.notes.length + nl.length ≤ 900) (H : RunHas S0 w0 m a r (.blk g (i64s nl).toArray :: rs) s w) {l : Int} (hl : s.f.line = l) (hsub : wrap64 (l - q) = 1) (hn : I64 s.n) (ha : 0 ≤ s.f.a ∧ s.f.a < 4294967296) :
    Calls Try.prog 28 #[.pointer (some ⟨r, 0, none⟩), .int .i64 tail, .int .i64 q, .slice (some ⟨g, 0, none⟩) nn c] w fun e w' => e = .returned (.bool (mxG1 tail q nl s).1) ∧ RunHas S0 w0 m a r (.blk g (i64s nl).toArray :: rs) (mxG1 tail q nl s).2 w' := by
  obtain ⟨o, hop⟩ : ∃ o, s.f.op = o := ⟨_, rfl⟩
  have hne := H.ne_first
  obtain ⟨z0, z2, z4, z5, z6, z7⟩ := H.facts hop hl rfl rfl
  have HA := Lib.hid ha
  have HC := Lib.hid hc
  have HQ := Lib.hid hq
  have HNX := Lib.hid (fun W => mapNext s.n s.task W hn)
  have hcas := fun W rs (H : RunHas S0 w0 m a r rs s W) => rn_cas H tail (mxOwn s) 0 (mxOwn_word s) (by decide)
  have HH := Lib.hid (H.box rfl #[.pointer (some ⟨r, 4, none⟩)] 102)
  clear H ha hc hn
  unfold mxG1
  cases hb : casB s.L tail (mxOwn s) 0 with
  | true =>
    rw [hb] at hcas
    simp only [if_true]
    have HCAS := Lib.hid hcas
    clear hcas hb
    go_enter Try.func28, Try.ntmps28
    go_wp2_with fail
    have HW := HH.out
    generalize w.heap.size = tb at HW ⊢
    generalize w.alloc _ = W at HW ⊢
    obtain ⟨z0, z2, z4, z5, z6, z7⟩ := HW.facts hop hl rfl rfl
    obtain ⟨y1, y2, y3⟩ := HW.whose rfl rfl rfl
    obtain ⟨u0, u1, u2⟩ := HW.first.own
    go_region_held3 (fun w' => w'.cell? ⟨r, 1, none⟩ = some (.int .i64 s.n) ∧ w'.cell? ⟨r, 3, none⟩ = some (.int .i64 s.task) ∧ w'.cell? ⟨r, 6, none⟩ = some (.int .u32 s.f.a) ∧ w'.cell? ⟨tb, 0, none⟩ = some (.pointer (some ⟨r, 4, none⟩)))
      (first | (refine RunHas.sees_box (S0 := S0) (w0 := w0) (m := m) (a := a) (rs := .blk g (i64s nl).toArray :: rs) (s := s) ?_; first | with_reducible assumption | with_reducible exact HW.drew))
      (first | (go_at_call 75; refine (HNX.out _).mono ?_; rintro e w1 ⟨rfl, t1⟩; have H1 := RunHas.grow HW.drew t1))
    clear u0 u1 u2 z0 z2 z4 z5 z6 z7 y1 y2 y3
    obtain ⟨x0, x2, x4, x5, x6, x7⟩ := H1.facts hop hl rfl rfl
    obtain ⟨v1, v2, v3⟩ := H1.whose rfl rfl rfl
    obtain ⟨u0, u1, u2⟩ := H1.first.own
    go_wp2_with fail
    refine (mx_own H1).mono ?_
    rintro e w9 ⟨rfl, rfl⟩
    go_wp2_with fail
    refine (HCAS.out _ _ H1).mono ?_
    rintro e w2 ⟨rfl, H2⟩
    go_wp2_with fail
    refine (mx_noted H2.swap12 hnl (by have := HC.out; simp [Rn.did]; omega)).mono ?_
    rintro e w3 ⟨rfl, H3⟩
    go_wp2_with fail
    go_ret
    exact ⟨rfl, H3.swap12.unbox⟩
  | false =>
    rw [hb] at hcas
    simp only [Bool.false_eq_true, if_false]
    have HCAS := Lib.hid hcas
    clear hcas hb
    go_enter Try.func28, Try.ntmps28
    go_wp2_with fail
    have HW := HH.out
    generalize w.heap.size = tb at HW ⊢
    generalize w.alloc _ = W at HW ⊢
    obtain ⟨z0, z2, z4, z5, z6, z7⟩ := HW.facts hop hl rfl rfl
    obtain ⟨y1, y2, y3⟩ := HW.whose rfl rfl rfl
    obtain ⟨u0, u1, u2⟩ := HW.first.own
    go_region_held3 (fun w' => w'.cell? ⟨r, 1, none⟩ = some (.int .i64 s.n) ∧ w'.cell? ⟨r, 3, none⟩ = some (.int .i64 s.task) ∧ w'.cell? ⟨r, 6, none⟩ = some (.int .u32 s.f.a) ∧ w'.cell? ⟨tb, 0, none⟩ = some (.pointer (some ⟨r, 4, none⟩)))
      (first | (refine RunHas.sees_box (S0 := S0) (w0 := w0) (m := m) (a := a) (rs := .blk g (i64s nl).toArray :: rs) (s := s) ?_; first | with_reducible assumption | with_reducible exact HW.drew))
      (first | (go_at_call 75; refine (HNX.out _).mono ?_; rintro e w1 ⟨rfl, t1⟩; have H1 := RunHas.grow HW.drew t1))
    clear u0 u1 u2 z0 z2 z4 z5 z6 z7 y1 y2 y3
    obtain ⟨x0, x2, x4, x5, x6, x7⟩ := H1.facts hop hl rfl rfl
    obtain ⟨v1, v2, v3⟩ := H1.whose rfl rfl rfl
    obtain ⟨u0, u1, u2⟩ := H1.first.own
    go_wp2_with fail
    refine (mx_own H1).mono ?_
    rintro e w9 ⟨rfl, rfl⟩
    go_wp2_with fail
    refine (HCAS.out _ _ H1).mono ?_
    rintro e w2 ⟨rfl, H2⟩
    go_wp2_with fail
    refine (rn_go H2 (q + 2)).mono ?_
    rintro e w3 ⟨rfl, H3⟩
    go_wp2_with fail
    go_ret
    exact ⟨rfl, H3.unbox⟩

def mxG2 (q : Int) (s : Rn) : Rn :=
  let s1 := (s.keep (waitA s.L s.n s.mode s.task s.f.st (cellP s.n 0 s.task) (fun v => v != 0))).waited (waitA s.L s.n s.mode s.task s.f.st (cellP s.n 0 s.task) (fun v => v != 0))
  if (waitA s.L s.n s.mode s.task s.f.st (cellP s.n 0 s.task) (fun v => v != 0)).done then s1.goto (q + 3) else s1
set_option maxHeartbeats 1600000 in
theorem mx_g2 {S0 : List Nat} {w0 w : World} {m a r : Nat} {rs : List Res} {s : Rn} (tail q : Int) {g nn c : Nat} {nl : List Int} (hnl : nl.length = nn) (hq : 0 ≤ q ∧ q ≤ 100) (hc : s.notes.length + nl.length ≤ 900) (H : RunHas S0 w0 m a r (.blk g (i64s nl).toArray :: rs) s w) {l : Int} (hl : s.f.line = l) (hsub : wrap64 (l - q) = 2) (hn : I64 s.n) (ha : 0 ≤ s.f.a ∧ s.f.a < 4294967296) :
    Calls Try.prog 28 #[.pointer (some ⟨r, 0, none⟩), .int .i64 tail, .int .i64 q, .slice (some ⟨g, 0, none⟩) nn c] w fun e w' => e = .returned (.bool false) ∧ RunHas S0 w0 m a r (.blk g (i64s nl).toArray :: rs) (mxG2 q s) w' := by
  obtain ⟨o, hop⟩ : ∃ o, s.f.op = o := ⟨_, rfl⟩
  have hne := H.ne_first
  obtain ⟨z0, z2, z4, z5, z6, z7⟩ := H.facts hop hl rfl rfl
  have HA := Lib.hid ha
  have HC := Lib.hid hc
  have HQ := Lib.hid hq
  have HNX := Lib.hid (fun W => mapNext s.n s.task W hn)
  have hwt := fun (tb : Nat) W (H : RunHas S0 w0 m a r (.blk tb #[.pointer (some ⟨r, 4, none⟩)] :: .blk g (i64s nl).toArray :: rs) s W) => rn_wait_keep H hn (cellP s.n 0 s.task) 84 #[] #[.pointer (some ⟨tb, 0, none⟩)] (fun v => v != 0) (enters_of Try.func84 (by kernel_rfl) rfl) (fun W nv v h0 h1 HX => mx_keeps v W ⟨h0, h1⟩ HX.blk1 (HX.at_ 3 rfl))
  have HH := Lib.hid (H.box rfl #[.pointer (some ⟨r, 4, none⟩)] 102)
  clear H ha hc hn
  unfold mxG2
  (try dsimp only)
  generalize (waitA s.L s.n s.mode s.task s.f.st (cellP s.n 0 s.task) (fun v => v != 0)).seen = sn at hwt
  cases hd : (waitA s.L s.n s.mode s.task s.f.st (cellP s.n 0 s.task) (fun v => v != 0)).done <;> rw [hd] at hwt <;> simp only [if_true, Bool.false_eq_true, if_false] <;> (have HWT := Lib.hid hwt) <;> clear hwt hd
  · go_enter Try.func28, Try.ntmps28
    go_wp2_with fail
    have HW := HH.out
    generalize w.heap.size = tb at HW ⊢
    generalize w.alloc _ = W at HW ⊢
    obtain ⟨z0, z2, z4, z5, z6, z7⟩ := HW.facts hop hl rfl rfl
    obtain ⟨y1, y2, y3⟩ := HW.whose rfl rfl rfl
    obtain ⟨u0, u1, u2⟩ := HW.first.own
    go_region_held3 (fun w' => w'.cell? ⟨r, 1, none⟩ = some (.int .i64 s.n) ∧ w'.cell? ⟨r, 3, none⟩ = some (.int .i64 s.task) ∧ w'.cell? ⟨r, 6, none⟩ = some (.int .u32 s.f.a) ∧ w'.cell? ⟨tb, 0, none⟩ = some (.pointer (some ⟨r, 4, none⟩)))
      (first | (refine RunHas.sees_box (S0 := S0) (w0 := w0) (m := m) (a := a) (rs := .blk g (i64s nl).toArray :: rs) (s := s) ?_; first | with_reducible assumption | with_reducible exact HW.drew))
      (first | (go_at_call 75; refine (HNX.out _).mono ?_; rintro e w1 ⟨rfl, t1⟩; have H1 := RunHas.grow HW.drew t1))
    clear u0 u1 u2 z0 z2 z4 z5 z6 z7 y1 y2 y3
    obtain ⟨x0, x2, x4, x5, x6, x7⟩ := H1.facts hop hl rfl rfl
    obtain ⟨v1, v2, v3⟩ := H1.whose rfl rfl rfl
    obtain ⟨u0, u1, u2⟩ := H1.first.own
    go_wp2_with fail
    refine (HWT.out _ _ H1).mono ?_
    rintro e w2 ⟨rfl, H2⟩
    go_wp2_with fail
    go_ret
    exact ⟨rfl, H2.unbox⟩
  · go_enter Try.func28, Try.ntmps28
    go_wp2_with fail
    have HW := HH.out
    generalize w.heap.size = tb at HW ⊢
    generalize w.alloc _ = W at HW ⊢
    obtain ⟨z0, z2, z4, z5, z6, z7⟩ := HW.facts hop hl rfl rfl
    obtain ⟨y1, y2, y3⟩ := HW.whose rfl rfl rfl
    obtain ⟨u0, u1, u2⟩ := HW.first.own
    go_region_held3 (fun w' => w'.cell? ⟨r, 1, none⟩ = some (.int .i64 s.n) ∧ w'.cell? ⟨r, 3, none⟩ = some (.int .i64 s.task) ∧ w'.cell? ⟨r, 6, none⟩ = some (.int .u32 s.f.a) ∧ w'.cell? ⟨tb, 0, none⟩ = some (.pointer (some ⟨r, 4, none⟩)))
      (first | (refine RunHas.sees_box (S0 := S0) (w0 := w0) (m := m) (a := a) (rs := .blk g (i64s nl).toArray :: rs) (s := s) ?_; first | with_reducible assumption | with_reducible exact HW.drew))
      (first | (go_at_call 75; refine (HNX.out _).mono ?_; rintro e w1 ⟨rfl, t1⟩; have H1 := RunHas.grow HW.drew t1))
    clear u0 u1 u2 z0 z2 z4 z5 z6 z7 y1 y2 y3
    obtain ⟨x0, x2, x4, x5, x6, x7⟩ := H1.facts hop hl rfl rfl
    obtain ⟨v1, v2, v3⟩ := H1.whose rfl rfl rfl
    obtain ⟨u0, u1, u2⟩ := H1.first.own
    go_wp2_with fail
    refine (HWT.out _ _ H1).mono ?_
    rintro e w2 ⟨rfl, H2⟩
    go_wp2_with fail
    refine (rn_go H2 (q + 3)).mono ?_
    rintro e w3 ⟨rfl, H3⟩
    go_wp2_with fail
    go_ret
    exact ⟨rfl, H3.unbox⟩

def mxG3 (nl : List Int) (s : Rn) : Rn := ((s.did (doA s.L ⟨2, (cellP s.n 1 (s.f.a - 1)), 0, 0, 0⟩)).noted nl).wake (cellP s.n 1 (s.f.a - 1))
set_option maxHeartbeats 1600000 in
theorem mx_g3 {S0 : List Nat} {w0 w : World} {m a r : Nat} {rs : List Res} {s : Rn} (tail q : Int) {g nn c : Nat} {nl : List Int} (hnl : nl.length = nn) (hq : 0 ≤ q ∧ q ≤ 100) (hc : s.notes.length + nl.length ≤ 900) (H : RunHas S0 w0 m a r (.blk g (i64s nl).toArray :: rs) s w) {l : Int} (hl : s.f.line = l) (hsub : wrap64 (l - q) = 3) (hn : I64 s.n) (ha : 0 ≤ s.f.a ∧ s.f.a < 4294967296) :
    Calls Try.prog 28 #[.pointer (some ⟨r, 0, none⟩), .int .i64 tail, .int .i64 q, .slice (some ⟨g, 0, none⟩) nn c] w fun e w' => e = .returned (.bool true) ∧ RunHas S0 w0 m a r (.blk g (i64s nl).toArray :: rs) (mxG3 nl s) w' := by
  obtain ⟨o, hop⟩ : ∃ o, s.f.op = o := ⟨_, rfl⟩
  have hne := H.ne_first
  obtain ⟨z0, z2, z4, z5, z6, z7⟩ := H.facts hop hl rfl rfl
  have HA := Lib.hid ha
  have HC := Lib.hid hc
  have HQ := Lib.hid hq
  have HNX := Lib.hid (fun W => mapNext s.n s.task W hn)
  have HBL := Lib.hid (fun W => mapBlocked s.n (s.f.a - 1) W hn)
  have HH := Lib.hid (H.box rfl #[.pointer (some ⟨r, 4, none⟩)] 102)
  clear H ha hc hn
  unfold mxG3
  go_enter Try.func28, Try.ntmps28
  go_wp2_with fail
  have HW := HH.out
  generalize w.heap.size = tb at HW ⊢
  generalize w.alloc _ = W at HW ⊢
  obtain ⟨z0, z2, z4, z5, z6, z7⟩ := HW.facts hop hl rfl rfl
  obtain ⟨y1, y2, y3⟩ := HW.whose rfl rfl rfl
  obtain ⟨u0, u1, u2⟩ := HW.first.own
  go_region_held3 (fun w' => w'.cell? ⟨r, 1, none⟩ = some (.int .i64 s.n) ∧ w'.cell? ⟨r, 3, none⟩ = some (.int .i64 s.task) ∧ w'.cell? ⟨r, 6, none⟩ = some (.int .u32 s.f.a) ∧ w'.cell? ⟨tb, 0, none⟩ = some (.pointer (some ⟨r, 4, none⟩)))
    (first | (refine RunHas.sees_box (S0 := S0) (w0 := w0) (m := m) (a := a) (rs := .blk g (i64s nl).toArray :: rs) (s := s) ?_; first | with_reducible assumption | with_reducible exact HW.drew | with_reducible exact H1.drew))
    (first | (go_at_call 75; refine (HNX.out _).mono ?_; rintro e w1 ⟨rfl, t1⟩; have H1 := RunHas.grow HW.drew t1))
  clear u0 u1 u2 z0 z2 z4 z5 z6 z7 y1 y2 y3
  obtain ⟨x0, x2, x4, x5, x6, x7⟩ := H1.facts hop hl rfl rfl
  obtain ⟨v1, v2, v3⟩ := H1.whose rfl rfl rfl
  obtain ⟨u0, u1, u2⟩ := H1.first.own
  go_wp2_with fail
  go_region_held3 (fun w' => w'.cell? ⟨r, 1, none⟩ = some (.int .i64 s.n) ∧ w'.cell? ⟨r, 3, none⟩ = some (.int .i64 s.task) ∧ w'.cell? ⟨r, 6, none⟩ = some (.int .u32 s.f.a) ∧ w'.cell? ⟨tb, 0, none⟩ = some (.pointer (some ⟨r, 4, none⟩)))
    (first | (refine RunHas.sees_box (S0 := S0) (w0 := w0) (m := m) (a := a) (rs := .blk g (i64s nl).toArray :: rs) (s := s) ?_; first | with_reducible assumption | with_reducible exact HW.drew | with_reducible exact H1.drew))
    (first | (go_at_call 78; refine (mx_other _ _ HA.out).mono ?_; rintro e w9 ⟨rfl, rfl⟩) | (go_at_call 76; refine (HBL.out _).mono ?_; rintro e w2 ⟨rfl, t2⟩; have H2 := RunHas.grow H1.drew t2))
  obtain ⟨p0, p2, p4, p5, p6, p7⟩ := H2.facts hop hl rfl rfl
  go_wp2_with fail
  refine (rn_store H2 (cellP s.n 1 (s.f.a - 1)) 0 (by decide)).mono ?_
  rintro e w3 ⟨rfl, H3⟩
  go_wp2_with fail
  refine (mx_noted H3.swap12 hnl (by have := HC.out; simp [Rn.did]; omega)).mono ?_
  rintro e w4 ⟨rfl, H4⟩
  go_wp2_with fail
  refine (rn_wake H4.swap12 (cellP s.n 1 (s.f.a - 1))).mono ?_
  rintro e w5 ⟨rfl, H5⟩
  go_wp2_with fail
  go_ret
  exact ⟨rfl, H5.unbox⟩

def mxGnone (s : Rn) : Rn := s
set_option maxHeartbeats 1600000 in
theorem mx_gnone {S0 : List Nat} {w0 w : World} {m a r : Nat} {rs : List Res} {s : Rn} (tail q : Int) {g nn c : Nat} {nl : List Int} (hnl : nl.length = nn) (hq : 0 ≤ q ∧ q ≤ 100) (hc : s.notes.length + nl.length ≤ 900) (H : RunHas S0 w0 m a r (.blk g (i64s nl).toArray :: rs) s w) {l : Int} (hl : s.f.line = l) (k0 : ¬ wrap64 (l - q) = 0) (k1 : ¬ wrap64 (l - q) = 1) (k2 : ¬ wrap64 (l - q) = 2) (k3 : ¬ wrap64 (l - q) = 3) (hn : I64 s.n) (ha : 0 ≤ s.f.a ∧ s.f.a < 4294967296) :
    Calls Try.prog 28 #[.pointer (some ⟨r, 0, none⟩), .int .i64 tail, .int .i64 q, .slice (some ⟨g, 0, none⟩) nn c] w fun e w' => e = .returned (.bool false) ∧ RunHas S0 w0 m a r (.blk g (i64s nl).toArray :: rs) s w' := by
  obtain ⟨o, hop⟩ : ∃ o, s.f.op = o := ⟨_, rfl⟩
  have hne := H.ne_first
  obtain ⟨z0, z2, z4, z5, z6, z7⟩ := H.facts hop hl rfl rfl
  have HA := Lib.hid ha
  have HC := Lib.hid hc
  have HQ := Lib.hid hq
  have HNX := Lib.hid (fun W => mapNext s.n s.task W hn)
  have HH := Lib.hid (H.box rfl #[.pointer (some ⟨r, 4, none⟩)] 102)
  clear H ha hc hn
  go_enter Try.func28, Try.ntmps28
  go_wp2_with fail
  have HW := HH.out
  generalize w.heap.size = tb at HW ⊢
  generalize w.alloc _ = W at HW ⊢
  obtain ⟨z0, z2, z4, z5, z6, z7⟩ := HW.facts hop hl rfl rfl
  obtain ⟨y1, y2, y3⟩ := HW.whose rfl rfl rfl
  obtain ⟨u0, u1, u2⟩ := HW.first.own
  go_region_held3 (fun w' => w'.cell? ⟨r, 1, none⟩ = some (.int .i64 s.n) ∧ w'.cell? ⟨r, 3, none⟩ = some (.int .i64 s.task) ∧ w'.cell? ⟨r, 6, none⟩ = some (.int .u32 s.f.a) ∧ w'.cell? ⟨tb, 0, none⟩ = some (.pointer (some ⟨r, 4, none⟩)))
    (first | (refine RunHas.sees_box (S0 := S0) (w0 := w0) (m := m) (a := a) (rs := .blk g (i64s nl).toArray :: rs) (s := s) ?_; first | with_reducible assumption | with_reducible exact HW.drew))
    (first | (go_at_call 75; refine (HNX.out _).mono ?_; rintro e w1 ⟨rfl, t1⟩; have H1 := RunHas.grow HW.drew t1))
  clear u0 u1 u2 z0 z2 z4 z5 z6 z7 y1 y2 y3
  obtain ⟨x0, x2, x4, x5, x6, x7⟩ := H1.facts hop hl rfl rfl
  obtain ⟨v1, v2, v3⟩ := H1.whose rfl rfl rfl
  obtain ⟨u0, u1, u2⟩ := H1.first.own
  go_wp2_with fail
  go_ret
  exact ⟨rfl, H1.unbox⟩

/-- A line of who gives the queue on. -/
def mxGive (tail q : Int) (nl : List Int) (s : Rn) : Bool × Rn :=
  if wrap64 (s.f.line - q) = 0 then (false, mxG0 q s) else if wrap64 (s.f.line - q) = 1 then mxG1 tail q nl s else if wrap64 (s.f.line - q) = 2 then (false, mxG2 q s) else if wrap64 (s.f.line - q) = 3 then (true, mxG3 nl s) else (false, s)
theorem mx_give {S0 : List Nat} {w0 w : World} {m a r : Nat} {rs : List Res} {s : Rn} (tail q : Int) {g nn c : Nat} {nl : List Int} (hnl : nl.length = nn) (hq : 0 ≤ q ∧ q ≤ 100) (hc : s.notes.length + nl.length ≤ 900) (H : RunHas S0 w0 m a r (.blk g (i64s nl).toArray :: rs) s w) (hn : I64 s.n) (ha : 0 ≤ s.f.a ∧ s.f.a < 4294967296) :
    Calls Try.prog 28 #[.pointer (some ⟨r, 0, none⟩), .int .i64 tail, .int .i64 q, .slice (some ⟨g, 0, none⟩) nn c] w fun e w' => e = .returned (.bool (mxGive tail q nl s).1) ∧ RunHas S0 w0 m a r (.blk g (i64s nl).toArray :: rs) (mxGive tail q nl s).2 w' := by
  unfold mxGive
  split
  · exact mx_g0 tail q hnl hq hc H rfl (by assumption) hn ha
  split
  · exact mx_g1 tail q hnl hq hc H rfl (by assumption) hn ha
  split
  · exact mx_g2 tail q hnl hq hc H rfl (by assumption) hn ha
  split
  · exact mx_g3 tail q hnl hq hc H rfl (by assumption) hn ha
  · exact mx_gnone tail q hnl hq hc H rfl (by assumption) (by assumption) (by assumption) (by assumption) hn ha

end Go.Proofs.Ytlndihdlodempaa.Z

/- The document's answer of layer 12: its small functions, and entering. Written by genxmx.py. -/
set_option linter.unusedVariables false
set_option linter.unusedSimpArgs false
namespace Go.Proofs.Ytlndihdlodempaa.Z
open Go.RowKit

attribute [local go_sem ↓] Go.wp_at_zero Go.wp_at_succ

theorem xn_store {S0 : List Nat} {w0 w : World} {p : Option Addr} {g cap x : Nat} {rs : List Res} {s : Rn} (H : XHas S0 w0 p g cap x rs s w) (c u : Int) (hu : 0 ≤ u ∧ u < 4294967296) :
    Calls Try.prog 64 #[.pointer (some ⟨x, 0, none⟩), .int .i64 c, .int .u32 u] w fun e w' => e = .returned (.tuple #[]) ∧ XHas S0 w0 p g cap x rs (s.did (doA s.L ⟨2, c, u, 0, 0⟩)) w' := by
  obtain ⟨nv, H⟩ := H
  exact (x_store H c u hu).mono fun e w' h => ⟨h.1, nv, h.2⟩
theorem xn_swap {S0 : List Nat} {w0 w : World} {p : Option Addr} {g cap x : Nat} {rs : List Res} {s : Rn} (H : XHas S0 w0 p g cap x rs s w) (c u : Int) (hu : 0 ≤ u ∧ u < 4294967296) :
    Calls Try.prog 66 #[.pointer (some ⟨x, 0, none⟩), .int .i64 c, .int .u32 u] w fun e w' => e = .returned (.int .u32 (doA s.L ⟨4, c, u, 0, 0⟩).1.old) ∧ XHas S0 w0 p g cap x rs (s.did (doA s.L ⟨4, c, u, 0, 0⟩)) w' := by
  obtain ⟨nv, H⟩ := H
  exact (x_swap H c u hu).mono fun e w' h => ⟨h.1, nv, h.2⟩
theorem XHas.whose {S0 : List Nat} {w0 w : World} {p : Option Addr} {g cap x : Nat} {rs : List Res} {s : Rn} (H : XHas S0 w0 p g cap x rs s w) {n mode t : Int} (hn : s.n = n) (hm : s.mode = mode) (ht : s.task = t) :
    w.cell? ⟨x, 1, none⟩ = some (.int .i64 n) ∧ w.cell? ⟨x, 2, none⟩ = some (.int .i64 mode) ∧ w.cell? ⟨x, 3, none⟩ = some (.int .i64 t) := by
  obtain ⟨nv, H⟩ := H
  subst hn hm ht
  obtain ⟨x0, x1, x2⟩ := H.blk1.own
  exact ⟨x1 1, x1 2, x1 3⟩
theorem XHas.old18 {S0 : List Nat} {w0 w : World} {p : Option Addr} {g cap x : Nat} {rs : List Res} {s : Rn} (H : XHas S0 w0 p g cap x rs s w) {o : Int} (ho : s.acc.old = o) : w.cell? ⟨x, 18, none⟩ = some (.int .u32 o) := by
  obtain ⟨nv, H⟩ := H
  subst ho
  exact H.blk1.own.2.1 18

theorem xm_next {S0 : List Nat} {w0 w : World} {p : Option Addr} {g cap x : Nat} {rs : List Res} {s : Rn} (H : XHas S0 w0 p g cap x rs s w) (t : Int) :
    Calls Try.prog 80 #[.pointer (some ⟨x, 0, none⟩), .int .i64 t] w fun e w' => e = .returned (.int .i64 (cellP s.n 0 t)) ∧ w = w' := by
  obtain ⟨y1, y2, y3⟩ := H.whose rfl rfl rfl
  go_enter Try.func80, Try.ntmps80
  go_wp2_with fail
  refine (refCell_any s.n 0 t _ (by decide)).mono ?_
  rintro e w1 ⟨rfl, rfl⟩
  go_wp2_with fail
  go_ret
  exact ⟨rfl, rfl⟩

theorem xm_blocked {S0 : List Nat} {w0 w : World} {p : Option Addr} {g cap x : Nat} {rs : List Res} {s : Rn} (H : XHas S0 w0 p g cap x rs s w) (t : Int) :
    Calls Try.prog 81 #[.pointer (some ⟨x, 0, none⟩), .int .i64 t] w fun e w' => e = .returned (.int .i64 (cellP s.n 1 t)) ∧ w = w' := by
  obtain ⟨y1, y2, y3⟩ := H.whose rfl rfl rfl
  go_enter Try.func81, Try.ntmps81
  go_wp2_with fail
  refine (refCell_any s.n 1 t _ (by decide)).mono ?_
  rintro e w1 ⟨rfl, rfl⟩
  go_wp2_with fail
  go_ret
  exact ⟨rfl, rfl⟩

theorem xm_T {S0 : List Nat} {w0 w : World} {p : Option Addr} {g cap x : Nat} {rs : List Res} {s : Rn} (H : XHas S0 w0 p g cap x rs s w) : Calls Try.prog 82 #[.pointer (some ⟨x, 0, none⟩)] w fun e w' => e = .returned (.int .u32 (mxOwn s)) ∧ w = w' := by
  obtain ⟨y1, y2, y3⟩ := H.whose rfl rfl rfl
  go_enter Try.func82, Try.ntmps82
  go_wp2
  go_ret
  refine ⟨?_, rfl⟩
  show Ending.returned (Value.int .u32 _) = Ending.returned (Value.int .u32 _)
  unfold mxOwn
  congr 2
  omega

set_option maxHeartbeats 800000 in
theorem xm_noted {S0 : List Nat} {w0 w : World} {p : Option Addr} {g cap x : Nat} {rs : List Res} {s : Rn} {A : Option Addr} {nn c : Nat} {l : List Int} (hN : ∀ W s', XHas S0 w0 p g cap x rs s' W → Rd W 1 A nn (i64s l)) (H : XHas S0 w0 p g cap x rs s w) (hn : l.length = nn) (hc : s.notes.length + l.length ≤ 1000) :
    Calls Try.prog 85 #[.pointer (some ⟨x, 0, none⟩), .slice A nn c] w fun e w' => e = .returned (.tuple #[]) ∧ XHas S0 w0 p g cap x rs (s.noted l) w' := by
  subst hn
  have hll : l.length ≤ 1000 := by omega
  have HC := Lib.hid hc
  have HH := Lib.hid H
  clear hc H
  go_enter Try.func85, Try.ntmps85
  go_wp2_with fail
  go_loopw [4] (fun i wr => ∃ k : Nat, k ≤ l.length ∧ i = .int .i64 k ∧ XHas S0 w0 p g cap x rs (s.noted (l.take k)) wr) (fun i _ => l.length - (intOf i).toNat)
  case atStart => exact ⟨0, Nat.zero_le _, rfl, HH.out⟩
  case round =>
    obtain ⟨k, hk, rfl, hH⟩ := hrel
    have HK := Lib.hid hH
    clear hH
    by_cases hlt : k < l.length
    · obtain ⟨b, off, rfl, hbl, hcell⟩ := i64s_at (hN _ _ HK.out) hlt
      obtain ⟨y, hx⟩ : ∃ y, l.getD k 0 = y := ⟨_, rfl⟩
      rw [hx] at hcell
      have HX := Lib.hid hx
      clear hx
      have hi : (k : Int) < (l.length : Int) := by omega
      go_wp2_with fail
      refine (x_note HK.out (by rw [noted_notes]; have := HC.out; simp only [List.length_take]; omega) y 0).mono ?_
      rintro e w1 ⟨rfl, H1⟩
      go_wp2
      exact ⟨⟨k + 1, by omega, by go_num, by rw [noted_succ s l k hlt, HX.out]; exact H1⟩, by simp [intOf]; omega⟩
    · have hkn : k = l.length := by omega
      subst hkn
      have hi : (l.length : Int) ≤ (l.length : Int) := Int.le_refl _
      have H2 := HK.out
      rw [List.take_length] at H2
      clear HK hlt hk
      go_wp2_with fail
      go_end0
      exact ⟨rfl, H2⟩

set_option maxHeartbeats 800000 in
set_option maxRecDepth 100000 in
theorem xm_e0 {S0 : List Nat} {w0 w : World} {p : Option Addr} {g cap x : Nat} {rs : List Res} {s : Rn} (H : XHas S0 w0 p g cap x rs s w) (tail cls : Int) (ha : 0 ≤ s.f.a ∧ s.f.a < 4294967296) (hl : s.f.line = 0) :
    Calls Try.prog 27 #[.pointer (some ⟨x, 0, none⟩), .int .i64 tail, .int .i64 cls] w fun e w' => e = .returned (.bool false) ∧ XHas S0 w0 p g cap x rs (mxE0 s) w' := by
  obtain ⟨o, hop⟩ : ∃ o, s.f.op = o := ⟨_, rfl⟩
  obtain ⟨z0, z2, z4, z5, z6, z7⟩ := H.facts hop hl rfl rfl
  obtain ⟨y1, y2, y3⟩ := H.whose rfl rfl rfl
  have HA := Lib.hid ha
  have HH := Lib.hid H
  clear H ha
  go_enter Try.func27, Try.ntmps27
  go_wp2_with fail
  refine (xm_next HH.out s.task).mono ?_
  rintro e w1 ⟨rfl, rfl⟩
  go_wp2_with fail
  refine (xn_store HH.out (cellP s.n 0 s.task) 0 (by decide)).mono ?_
  rintro e w2 ⟨rfl, H2⟩
  obtain ⟨x0, x2, x4, x5, x6, x7⟩ := H2.facts hop hl rfl rfl
  go_wp2_with fail
  first | go_ret | go_ret2
  exact ⟨rfl, (H2.goto 1)⟩

set_option maxHeartbeats 800000 in
set_option maxRecDepth 100000 in
theorem xm_e1 {S0 : List Nat} {w0 w : World} {p : Option Addr} {g cap x : Nat} {rs : List Res} {s : Rn} (H : XHas S0 w0 p g cap x rs s w) (tail cls : Int) (ha : 0 ≤ s.f.a ∧ s.f.a < 4294967296) (hl : s.f.line = 1) :
    Calls Try.prog 27 #[.pointer (some ⟨x, 0, none⟩), .int .i64 tail, .int .i64 cls] w fun e w' => e = .returned (.bool false) ∧ XHas S0 w0 p g cap x rs (mxE1 s) w' := by
  obtain ⟨o, hop⟩ : ∃ o, s.f.op = o := ⟨_, rfl⟩
  obtain ⟨z0, z2, z4, z5, z6, z7⟩ := H.facts hop hl rfl rfl
  obtain ⟨y1, y2, y3⟩ := H.whose rfl rfl rfl
  have HA := Lib.hid ha
  have HH := Lib.hid H
  clear H ha
  go_enter Try.func27, Try.ntmps27
  go_wp2_with fail
  refine (xm_blocked HH.out s.task).mono ?_
  rintro e w1 ⟨rfl, rfl⟩
  go_wp2_with fail
  refine (xn_store HH.out (cellP s.n 1 s.task) 1 (by decide)).mono ?_
  rintro e w2 ⟨rfl, H2⟩
  obtain ⟨x0, x2, x4, x5, x6, x7⟩ := H2.facts hop hl rfl rfl
  go_wp2_with fail
  first | go_ret | go_ret2
  exact ⟨rfl, (H2.goto 2)⟩

set_option maxHeartbeats 800000 in
set_option maxRecDepth 100000 in
theorem xm_e2 {S0 : List Nat} {w0 w : World} {p : Option Addr} {g cap x : Nat} {rs : List Res} {s : Rn} (H : XHas S0 w0 p g cap x rs s w) (tail cls : Int) (hc : s.notes.length ≤ 900) (ha : 0 ≤ s.f.a ∧ s.f.a < 4294967296) (hl : s.f.line = 2) :
    Calls Try.prog 27 #[.pointer (some ⟨x, 0, none⟩), .int .i64 tail, .int .i64 cls] w fun e w' => e = .returned (.bool (mxE2 tail cls s).1) ∧ XHas S0 w0 p g cap x rs ((mxE2 tail cls s).2) w' := by
  obtain ⟨o, hop⟩ : ∃ o, s.f.op = o := ⟨_, rfl⟩
  obtain ⟨z0, z2, z4, z5, z6, z7⟩ := H.facts hop hl rfl rfl
  obtain ⟨y1, y2, y3⟩ := H.whose rfl rfl rfl
  have HA := Lib.hid ha
  have HH := Lib.hid H
  clear H ha
  have hsw := fun W (H : XHas S0 w0 p g cap x rs s W) => xn_swap H tail (mxOwn s) (mxOwn_word s)
  have HC := Lib.hid hc
  unfold mxE2
  (try dsimp only)
  have HSW := Lib.hid hsw
  clear hsw hc
  by_cases hz : (doA s.L ⟨4, tail, mxOwn s, 0, 0⟩).1.old = 0
  · simp only [if_pos hz]
    have hzb : ((doA s.L ⟨4, tail, mxOwn s, 0, 0⟩).1.old != 0) = false := by simpa using hz
    have hzc : ((doA s.L ⟨4, tail, mxOwn s, 0, 0⟩).1.old == 0) = true := by simpa using hz
    clear hz
    go_enter Try.func27, Try.ntmps27
    go_wp2_with fail
    refine (xm_T HH.out).mono ?_
    rintro e w1 ⟨rfl, rfl⟩
    go_wp2_with fail
    refine (HSW.out _ HH.out).mono ?_
    rintro e w2 ⟨rfl, H2⟩
    obtain ⟨x0, x2, x4, x5, x6, x7⟩ := H2.facts hop hl rfl rfl
    go_wp2_with fail
    refine (x_note (H2.setA (doA s.L ⟨4, tail, mxOwn s, 0, 0⟩).1.old) (by have := HC.out; first | exact Nat.le_trans this (by decide) | (simp [Rn.note, Rn.did, Rn.setA, Rn.setB, Rn.waited, Rn.goto, Rn.noted]; omega)) 2 cls).mono ?_
    rintro e w3 ⟨rfl, H3⟩
    obtain ⟨x0, x2, x4, x5, x6, x7⟩ := H3.facts hop hl (y := (doA s.L ⟨4, tail, mxOwn s, 0, 0⟩).1.old) rfl rfl
    go_wp2_with fail
    first | go_ret | go_ret2
    exact ⟨rfl, H3⟩
  · simp only [if_neg hz]
    have hzb : ((doA s.L ⟨4, tail, mxOwn s, 0, 0⟩).1.old != 0) = true := by simpa using hz
    have hzc : ((doA s.L ⟨4, tail, mxOwn s, 0, 0⟩).1.old == 0) = false := by simpa using hz
    clear hz
    go_enter Try.func27, Try.ntmps27
    go_wp2_with fail
    refine (xm_T HH.out).mono ?_
    rintro e w1 ⟨rfl, rfl⟩
    go_wp2_with fail
    refine (HSW.out _ HH.out).mono ?_
    rintro e w2 ⟨rfl, H2⟩
    obtain ⟨x0, x2, x4, x5, x6, x7⟩ := H2.facts hop hl rfl rfl
    go_wp2_with fail
    refine (x_note (H2.setA (doA s.L ⟨4, tail, mxOwn s, 0, 0⟩).1.old) (by have := HC.out; first | exact Nat.le_trans this (by decide) | (simp [Rn.note, Rn.did, Rn.setA, Rn.setB, Rn.waited, Rn.goto, Rn.noted]; omega)) 2 cls).mono ?_
    rintro e w3 ⟨rfl, H3⟩
    obtain ⟨x0, x2, x4, x5, x6, x7⟩ := H3.facts hop hl (y := (doA s.L ⟨4, tail, mxOwn s, 0, 0⟩).1.old) rfl rfl
    go_wp2_with fail
    first | go_ret | go_ret2
    exact ⟨rfl, (H3.goto 3)⟩

set_option maxHeartbeats 800000 in
set_option maxRecDepth 100000 in
theorem xm_e3 {S0 : List Nat} {w0 w : World} {p : Option Addr} {g cap x : Nat} {rs : List Res} {s : Rn} (H : XHas S0 w0 p g cap x rs s w) (tail cls : Int) (ha : 0 ≤ s.f.a ∧ s.f.a < 4294967296) (hl : s.f.line = 3) :
    Calls Try.prog 27 #[.pointer (some ⟨x, 0, none⟩), .int .i64 tail, .int .i64 cls] w fun e w' => e = .returned (.bool false) ∧ XHas S0 w0 p g cap x rs (mxE3 s) w' := by
  obtain ⟨o, hop⟩ : ∃ o, s.f.op = o := ⟨_, rfl⟩
  obtain ⟨z0, z2, z4, z5, z6, z7⟩ := H.facts hop hl rfl rfl
  obtain ⟨y1, y2, y3⟩ := H.whose rfl rfl rfl
  have hwr : IntKind.i64.wrap (s.f.a - 1) = s.f.a - 1 := IntWalk.i64_in _ (by omega)
  have hb1 : -1 ≤ s.f.a - 1 ∧ s.f.a - 1 < 4294967296 := by omega
  have HA := Lib.hid ha
  have HH := Lib.hid H
  clear H ha
  go_enter Try.func27, Try.ntmps27
  go_wp2_with fail
  refine (xm_next HH.out (s.f.a - 1)).mono ?_
  rintro e w1 ⟨rfl, rfl⟩
  go_wp2_with fail
  refine (xm_T HH.out).mono ?_
  rintro e w2 ⟨rfl, rfl⟩
  go_wp2_with fail
  refine (xn_store HH.out (cellP s.n 0 (s.f.a - 1)) (mxOwn s) (mxOwn_word s)).mono ?_
  rintro e w3 ⟨rfl, H3⟩
  obtain ⟨x0, x2, x4, x5, x6, x7⟩ := H3.facts hop hl rfl rfl
  go_wp2_with fail
  refine (xn_wake H3 (cellP s.n 0 (s.f.a - 1))).mono ?_
  rintro e w4 ⟨rfl, H4⟩
  obtain ⟨x0, x2, x4, x5, x6, x7⟩ := H4.facts hop hl rfl rfl
  go_wp2_with fail
  first | go_ret | go_ret2
  exact ⟨rfl, (H4.goto 4)⟩

set_option maxHeartbeats 800000 in
set_option maxRecDepth 100000 in
theorem xm_e4 {S0 : List Nat} {w0 w : World} {p : Option Addr} {g cap x : Nat} {rs : List Res} {s : Rn} (H : XHas S0 w0 p g cap x rs s w) (tail cls : Int) (ha : 0 ≤ s.f.a ∧ s.f.a < 4294967296) (hl : s.f.line = 4) :
    Calls Try.prog 27 #[.pointer (some ⟨x, 0, none⟩), .int .i64 tail, .int .i64 cls] w fun e w' => e = .returned (.bool (mxE4 s).1) ∧ XHas S0 w0 p g cap x rs ((mxE4 s).2) w' := by
  obtain ⟨o, hop⟩ : ∃ o, s.f.op = o := ⟨_, rfl⟩
  obtain ⟨z0, z2, z4, z5, z6, z7⟩ := H.facts hop hl rfl rfl
  obtain ⟨y1, y2, y3⟩ := H.whose rfl rfl rfl
  have HA := Lib.hid ha
  have HH := Lib.hid H
  clear H ha
  have hwt := fun W (H : XHas S0 w0 p g cap x rs s W) => xn_wait H (cellP s.n 1 s.task) 0 4294967295 0
  rw [waitA_like (q := fun v => v == 0) HH.out.words_ (fun v hv => untilA_all _ hv)] at hwt
  unfold mxE4
  have HWT := Lib.hid hwt
  clear hwt
  go_enter Try.func27, Try.ntmps27
  go_wp2_with fail
  refine (xm_blocked HH.out s.task).mono ?_
  rintro e w1 ⟨rfl, rfl⟩
  go_wp2_with fail
  refine (HWT.out _ HH.out).mono ?_
  rintro e w2 ⟨rfl, H2⟩
  obtain ⟨x0, x2, x4, x5, x6, x7⟩ := H2.facts hop hl rfl rfl
  go_wp2_with fail
  first | go_ret | go_ret2
  exact ⟨rfl, H2⟩

set_option maxHeartbeats 800000 in
theorem xm_en {S0 : List Nat} {w0 w : World} {p : Option Addr} {g cap x : Nat} {rs : List Res} {s : Rn} (H : XHas S0 w0 p g cap x rs s w) (tail cls : Int) {l : Int} (hl : s.f.line = l) (h : l ≠ 0 ∧ l ≠ 1 ∧ l ≠ 2 ∧ l ≠ 3 ∧ l ≠ 4) :
    Calls Try.prog 27 #[.pointer (some ⟨x, 0, none⟩), .int .i64 tail, .int .i64 cls] w fun e w' => e = .returned (.bool false) ∧ XHas S0 w0 p g cap x rs s w' := by
  obtain ⟨z0, z2, z4, z5, z6, z7⟩ := H.facts rfl hl rfl rfl
  obtain ⟨h0, h1, h2, h3, h4⟩ := h
  have b0 : (l == 0) = false := by simpa using h0
  have b1 : (l == 1) = false := by simpa using h1
  have b2 : (l == 2) = false := by simpa using h2
  have b3 : (l == 3) = false := by simpa using h3
  have b4 : (l == 4) = false := by simpa using h4
  have HH := Lib.hid H
  clear H h0 h1 h2 h3 h4 hl
  go_enter Try.func27, Try.ntmps27
  go_wp2_with fail
  go_ret
  exact ⟨rfl, HH.out⟩
/-- Entering, whatever the line. -/
theorem xm_enter {S0 : List Nat} {w0 w : World} {p : Option Addr} {g cap x : Nat} {rs : List Res} {s : Rn} (H : XHas S0 w0 p g cap x rs s w) (tail cls : Int) (ha : 0 ≤ s.f.a ∧ s.f.a < 4294967296) (hc : s.notes.length ≤ 900) :
    Calls Try.prog 27 #[.pointer (some ⟨x, 0, none⟩), .int .i64 tail, .int .i64 cls] w fun e w' => e = .returned (.bool (mxEnter tail cls s).1) ∧ XHas S0 w0 p g cap x rs (mxEnter tail cls s).2 w' := by
  unfold mxEnter
  by_cases h0 : s.f.line = 0
  · simp only [if_pos h0]; exact xm_e0 H tail cls ha h0
  simp only [if_neg h0]
  by_cases h1 : s.f.line = 1
  · simp only [if_pos h1]; exact xm_e1 H tail cls ha h1
  simp only [if_neg h1]
  by_cases h2 : s.f.line = 2
  · simp only [if_pos h2]; exact xm_e2 H tail cls hc ha h2
  simp only [if_neg h2]
  by_cases h3 : s.f.line = 3
  · simp only [if_pos h3]; exact xm_e3 H tail cls ha h3
  simp only [if_neg h3]
  by_cases h4 : s.f.line = 4
  · simp only [if_pos h4]; exact xm_e4 H tail cls ha h4
  simp only [if_neg h4]
  exact xm_en H tail cls rfl ⟨h0, h1, h2, h3, h4⟩

end Go.Proofs.Ytlndihdlodempaa.Z
