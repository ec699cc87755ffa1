/- 6 texts of this claim, joined: what each shows stands at its own head. -/
import Derived.Test.YtlndihdlodempaaZSame
import Derived.Test.YtlndihdlodempaaZM02MutexSteps
import Derived.Test.YtlndihdlodempaaZM01MutexSteps
import Derived.Deep.RegionHeld3
import Derived.Deep.DrawnRows
import Derived.Test.YtlndihdlodempaaZFlat5
import Derived.Test.YtlndihdlodempaaZM00MutexSteps
/- The same notes are the same (stilemanref05.Same). -/
set_option linter.unusedVariables false
set_option linter.unusedSimpArgs false
namespace Go.Proofs.Ytlndihdlodempaa.Z
open Go.RowKit

set_option maxHeartbeats 1600000 in
set_option maxRecDepth 100000 in
theorem same_notes {A B : Option Addr} {n c d : Nat} {l : List Nt} (w : World) (hA : Rd w 4 A n (nts l)) (hB : Rd w 4 B n (nts l)) (hn : n ≤ 1048576) :
    Calls Try.prog 22 #[.slice A n c, .slice B n d] w fun e w' => e = .returned (.bool true) ∧ Touch [] w w' := by
  have hb : ((n : Int) != (n : Int)) = false := by simp
  have HA := Lib.hid hA
  have HB := Lib.hid hB
  clear hA hB
  go_enter Try.func22, Try.ntmps22
  go_wp2_with fail
  go_loopw [5] (fun i wr => ∃ k : Nat, k ≤ n ∧ i = .int .i64 k ∧ Touch [] w wr) (fun i _ => n - (intOf i).toNat)
  case atStart => exact ⟨0, Nat.zero_le _, rfl, Touch.refl _ _⟩
  case round =>
    obtain ⟨k, hk, rfl, hw⟩ := hrel
    by_cases hlt : k < n
    · obtain ⟨b, off, y, rfl, hbb, hy, _⟩ := elem_head (dec := Nt.cells) (size := 4) (by decide) (fun _ => rfl) (HA.out.touch hw (by simp)) hlt
      obtain ⟨b2, off2, y2, rfl, hbb2, hy2, _⟩ := elem_head (dec := Nt.cells) (size := 4) (by decide) (fun _ => rfl) (HB.out.touch hw (by simp)) hlt
      obtain rfl : y = y2 := Option.some.inj (hy.symm.trans hy2)
      obtain ⟨yt, yw, yo, ya⟩ := y
      have hT : ∀ w', Touch [] w w' → Touch [] w w' ∧ (b < w'.heap.size ∧ b2 < w'.heap.size) ∧ (w'.cell? ⟨b, off + k * 4, none⟩ = some (.int .i64 yt)) ∧ (w'.cell? ⟨b, off + k * 4 + 1, none⟩ = some (.int .i64 yw)) ∧ (w'.cell? ⟨b, off + k * 4 + 2, none⟩ = some (.int .i64 yo)) ∧ (w'.cell? ⟨b, off + k * 4 + 3, none⟩ = some (.int .i64 ya)) ∧ (w'.cell? ⟨b2, off2 + k * 4, none⟩ = some (.int .i64 yt)) ∧ (w'.cell? ⟨b2, off2 + k * 4 + 1, none⟩ = some (.int .i64 yw)) ∧ (w'.cell? ⟨b2, off2 + k * 4 + 2, none⟩ = some (.int .i64 yo)) ∧ (w'.cell? ⟨b2, off2 + k * 4 + 3, none⟩ = some (.int .i64 ya)) := fun w' t => by
        obtain ⟨c0, c1⟩ := elem_cells (dec := Nt.cells) (size := 4) (by decide) (fun _ => rfl) (HA.out.touch t (by simp)) hlt hy
        obtain ⟨e0, e1⟩ := elem_cells (dec := Nt.cells) (size := 4) (by decide) (fun _ => rfl) (HB.out.touch t (by simp)) hlt hy
        exact ⟨t, ⟨c0, e0⟩, c1 0 _ rfl, c1 1 _ rfl, c1 2 _ rfl, c1 3 _ rfl, e1 0 _ rfl, e1 1 _ rfl, e1 2 _ rfl, e1 3 _ rfl⟩
      have hi : (k : Int) < (n : Int) := by omega
      go_wp2_with fail
      go_region_held3 (fun w' => Touch [] w w' ∧ (b < w'.heap.size ∧ b2 < w'.heap.size) ∧ (w'.cell? ⟨b, off + k * 4, none⟩ = some (.int .i64 yt)) ∧ (w'.cell? ⟨b, off + k * 4 + 1, none⟩ = some (.int .i64 yw)) ∧ (w'.cell? ⟨b, off + k * 4 + 2, none⟩ = some (.int .i64 yo)) ∧ (w'.cell? ⟨b, off + k * 4 + 3, none⟩ = some (.int .i64 ya)) ∧ (w'.cell? ⟨b2, off2 + k * 4, none⟩ = some (.int .i64 yt)) ∧ (w'.cell? ⟨b2, off2 + k * 4 + 1, none⟩ = some (.int .i64 yw)) ∧ (w'.cell? ⟨b2, off2 + k * 4 + 2, none⟩ = some (.int .i64 yo)) ∧ (w'.cell? ⟨b2, off2 + k * 4 + 3, none⟩ = some (.int .i64 ya)))
        (first | (go_split_ands; refine hT _ ?_; first | assumption | exact Touch.refl _ _ | (with_reducible apply Touch.drew; first | exact Touch.refl _ _ | assumption)))
        (fail)
      go_wp2_with fail
      go_roundw
      case rel => exact ⟨k + 1, by omega, by go_num, by repeat (first | assumption | apply Touch.drewN | apply Touch.drew)⟩
      case measure => simp [intOf]; omega
    · have hkn : k = n := by omega
      have hi : (n : Int) ≤ (k : Int) := by omega
      go_wp2
      go_ret
      exact ⟨rfl, hw⟩

end Go.Proofs.Ytlndihdlodempaa.Z

/- A region that draws its order, walked in an order that is told: one call that makes memory is borne beside loads that may come ahead of it or behind it; sums must be ordered with all. No program is in sight. -/
set_option linter.unusedVariables false
set_option linter.unusedSimpArgs false
namespace Go.Proofs.Ytlndihdlodempaa.Z
open Go

section
variable {P : Program} {ops : Array Oper} {Q : Exit → Act → World → Prop} {c : Nat}

/-- What may come anywhere, sums left out. -/
def blind2 (P : Program) (o : Oper) : Bool :=
  match o.op with
  | .binOp .. => false
  | .convert .. => false
  | _ => blindOp P o

theorem blind2_blind {o : Oper} (h : blind2 P o = true) : blindOp P o = true := by
  unfold blind2 at h
  split at h
  · cases h
  · cases h
  · exact h

theorem blind2_nums {o : Oper} {a : Act} (h : blind2 P o = true) : Nums o a := by
  obtain ⟨dst, op, type, pos, after, guard⟩ := o
  cases op <;> simp only [blind2, Bool.false_eq_true] at h <;> exact trivial

theorem blind2_yields {i : Nat} {oi : Oper} {a : Act} {w : World} {K : Act → World → Prop} (hQ : Calm Q) (hi : ops[i]? = some oi) (hb : blind2 P oi = true) (h : wpOp P ops Q i K a w) :
    ∃ v, Yields P ops oi v a ∧ K (a.put oi.dst v) w :=
  blind_yields hQ hi (blind2_blind hb) ⟨fun o ho _ => by rw [hi] at ho; cases ho; exact blind2_nums hb, h⟩

theorem swap1K {i j : Nat} {oi oj : Oper} {K : Act → World → Prop} {a : Act} {w : World} (hQ : Calm Q) (hi : ops[i]? = some oi) (hj : ops[j]? = some oj)
    (hsi : ∀ cs b, oi.op ≠ .select cs b) (hsj : ∀ cs b, oj.op ≠ .select cs b) (hb : blind2 P oi = true) (hap : oi.apart ops oj = true)
    (h : wpOp P ops Q i (wpOp P ops Q j K) a w) : wpOp P ops Q j (wpOp P ops Q i K) a w := by
  obtain ⟨v, hy, hk⟩ := blind2_yields hQ hi hb h
  have h2 := wpOp_put hj hap hsi hsj (fun c a w h => absurd h (hQ.panic _ _ _)) hy hk
  exact wpOp_mono (fun a' w' h3 => Yields.wpOp hi h3.1 h3.2) h2

theorem swap2K {i j : Nat} {oi oj : Oper} {K : Act → World → Prop} {a : Act} {w : World} (hQ : Calm Q) (hi : ops[i]? = some oi) (hj : ops[j]? = some oj)
    (hsi : ∀ cs b, oi.op ≠ .select cs b) (hsj : ∀ cs b, oj.op ≠ .select cs b) (hb : blind2 P oi = true) (hap : oi.apart ops oj = true)
    (h : wpOp P ops Q j (wpOp P ops Q i K) a w) : wpOp P ops Q i (wpOp P ops Q j K) a w := by
  obtain ⟨a1, a2, a3⟩ := Oper.apart_spec hap
  have hs := wpOp_shape hj h
  obtain ⟨b, wb, hsb, hib⟩ := wpOp_reach hQ hs
  obtain ⟨v, hyb, _⟩ := blind2_yields hQ hi hb hib
  have hy : Yields P ops oi v a := hyb.of_same (shape_exec (ops := ops) hsi a3 hsb).symm (shape_wanted (ops := ops) a3 hsb).symm
  refine Yields.wpOp hi hy ?_
  refine wpOp_unput (i := i) hQ hj hap hsj hs fun a' w' hsh hk => ?_
  obtain ⟨v', hy', hk'⟩ := blind2_yields hQ hi hb hk.2
  have hy2 : Yields P ops oi v a' := hy.of_same (shape_exec (ops := ops) hsi a3 hsh) (shape_wanted (ops := ops) a3 hsh)
  rw [yields_same hy2 hy']
  exact hk'

theorem swap3K {i j : Nat} {oi oj : Oper} {K : Act → World → Prop} {a : Act} {w : World} (hQ : Calm Q) (hi : ops[i]? = some oi) (hj : ops[j]? = some oj)
    (hsi : ∀ cs b, oi.op ≠ .select cs b) (hsj : ∀ cs b, oj.op ≠ .select cs b) (hli : loadOp oi = true) (hlj : loadOp oj = true) (hap : oi.apart ops oj = true)
    (h : wpOp P ops Q j (wpOp P ops Q i K) a w) : wpOp P ops Q i (wpOp P ops Q j K) a w := by
  have h' := swap3 (K := K) hQ hi hj hsi hsj hli hlj hap ⟨fun o ho _ => by rw [hj] at ho; cases ho; exact nums_load hlj, wpOp_mono (fun a w k => ⟨fun o ho _ => by rw [hi] at ho; cases ho; exact nums_load hli, k⟩) h⟩
  exact wpOp_mono (fun a w k => k.2) h'.2

theorem swap4K {i k : Nat} {oi ok : Oper} {K : Act → World → Prop} {a : Act} {w : World} (hQ : Calm Q) (hi : ops[i]? = some oi) (hk : ops[k]? = some ok)
    (hsi : ∀ cs b, oi.op ≠ .select cs b) (hsk : ∀ cs b, ok.op ≠ .select cs b) (hni : newOp oi = true) (hlk : loadOp ok = true) (hap : oi.apart ops ok = true)
    (h : wpOp P ops Q k (wpOp P ops Q i K) a w) : wpOp P ops Q i (wpOp P ops Q k K) a w := by
  have h' := swap4 (K := K) hQ hi hk hsi hsk hni hlk hap ⟨fun o ho _ => by rw [hk] at ho; cases ho; exact nums_load hlk, wpOp_mono (fun a w k => ⟨fun o ho _ => by rw [hi] at ho; cases ho; exact nums_new hni, k⟩) h⟩
  exact wpOp_mono (fun a w k => k.2) h'.2

/-- The call: what it tells may differ from world to world; it makes memory, and no more. -/
def CallK (P : Program) (ops : Array Oper) (o : Oper) (K : Act → World → Prop) (a : Act) (w : World) : Prop :=
  (Region.wanted o (yielded ops a.tmps) = true ∧ (∀ W, Touch [] w W → ∃ f args, (execOp a.eval o).run P W = .ok (.enter f args) W ∧ Calls P f args W fun e w' => ∃ v, e = .returned v ∧ Touch [] W w' ∧ K (a.put o.dst v) w')) ∨ (Region.wanted o (yielded ops a.tmps) = false ∧ K (a.put o.dst undef) w)

theorem CallK.wpOp {i : Nat} {o : Oper} {a : Act} {w : World} {K : Act → World → Prop} (hi : ops[i]? = some o) (h : CallK P ops o K a w) : wpOp P ops Q i K a w := by
  unfold Go.wpOp
  simp only [hi]
  rcases h with ⟨hw, hf⟩ | ⟨hw, hk⟩
  · obtain ⟨f, args, hv, hc⟩ := hf w (Touch.refl _ _)
    simp only [hw, if_true, Oper.wp, hv, Oper.upon]
    refine .inl (Calls.mono hc ?_)
    rintro e w' ⟨v, rfl, _, hk⟩
    exact hk
  · simp only [hw, Bool.false_eq_true, if_false]; exact hk

theorem CallK.mono {o : Oper} {a : Act} {w : World} {K K' : Act → World → Prop} (h : ∀ a w, K a w → K' a w) (hh : CallK P ops o K a w) : CallK P ops o K' a w := by
  rcases hh with ⟨hw, hf⟩ | ⟨hw, hk⟩
  · refine .inl ⟨hw, fun W t => ?_⟩
    obtain ⟨f, args, hv, hc⟩ := hf W t
    exact ⟨f, args, hv, hc.mono fun e w' ⟨v, he, ht, hk⟩ => ⟨v, he, ht, h _ _ hk⟩⟩
  · exact .inr ⟨hw, h _ _ hk⟩

def wpOpK (P : Program) (ops : Array Oper) (c : Nat) (Q : Exit → Act → World → Prop) (i : Nat) (K : Act → World → Prop) (a : Act) (w : World) : Prop :=
  if i = c then ∃ o, ops[i]? = some o ∧ CallK P ops o K a w else wpOp P ops Q i K a w

def wpOpsK (P : Program) (ops : Array Oper) (c : Nat) (Q : Exit → Act → World → Prop) : List Nat → Act → World → Prop
  | [], a, w => Q .normal a w
  | i :: rest, a, w => wpOpK P ops c Q i (wpOpsK P ops c Q rest) a w

theorem wpOpK_mono {i : Nat} {a : Act} {w : World} {K K' : Act → World → Prop} (h : ∀ a w, K a w → K' a w) (hh : wpOpK P ops c Q i K a w) : wpOpK P ops c Q i K' a w := by
  unfold wpOpK at *
  split
  · rename_i hc
    rw [if_pos hc] at hh
    obtain ⟨o, h1, h2⟩ := hh
    exact ⟨o, h1, h2.mono h⟩
  · rename_i hc
    rw [if_neg hc] at hh
    exact wpOp_mono h hh

theorem wpOpK_wpOp {i : Nat} {a : Act} {w : World} {K : Act → World → Prop} (hh : wpOpK P ops c Q i K a w) : wpOp P ops Q i K a w := by
  unfold wpOpK at hh
  split at hh
  · obtain ⟨o, h1, h2⟩ := hh
    exact h2.wpOp h1
  · exact hh

theorem wpOpK_ne {i : Nat} (h : i ≠ c) (K : Act → World → Prop) : wpOpK P ops c Q i K = wpOp P ops Q i K := by
  funext a w
  unfold wpOpK
  rw [if_neg h]

/-- A blind one is first, the call comes ahead of it. -/
theorem swapCb {i : Nat} {oi oj : Oper} {K : Act → World → Prop} {a : Act} {w : World} (hQ : Calm Q) (hi : ops[i]? = some oi) (hj : ops[c]? = some oj)
    (hsi : ∀ cs b, oi.op ≠ .select cs b) (hsj : ∀ cs b, oj.op ≠ .select cs b) (hb : blind2 P oi = true) (hap : oi.apart ops oj = true)
    (h : wpOp P ops Q i (wpOpK P ops c Q c K) a w) : wpOpK P ops c Q c (wpOp P ops Q i K) a w := by
  obtain ⟨v, hy, hk⟩ := blind2_yields hQ hi hb h
  obtain ⟨a1, a2, a3⟩ := Oper.apart_spec hap
  unfold wpOpK at hk ⊢
  rw [if_pos rfl] at hk ⊢
  obtain ⟨o, ho, hk⟩ := hk
  rw [hj] at ho
  cases ho
  refine ⟨oj, hj, ?_⟩
  have step : ∀ (u : Value) (w' : World), K ((a.put oi.dst v).put oj.dst u) w' → Go.wpOp P ops Q i K (a.put oj.dst u) w' := fun u w' hK =>
    Yields.wpOp hi (hy.of_same (execOp_put oi hsi a oj.dst u a3) (wanted_put oi a oj.dst u a3)) (by rw [← Act.put_comm a v u a2]; exact hK)
  unfold CallK at hk ⊢
  rw [wanted_put oj a oi.dst v a1, execOp_put oj hsj a oi.dst v a1] at hk
  rcases hk with ⟨hw, hf⟩ | ⟨hw, hk⟩
  · refine .inl ⟨hw, fun W t => ?_⟩
    obtain ⟨f, args, hv, hc⟩ := hf W t
    exact ⟨f, args, hv, hc.mono fun e w' ⟨u, he, ht, hK⟩ => ⟨u, he, ht, step u w' hK⟩⟩
  · exact .inr ⟨hw, step _ _ hk⟩

/-- A load is first, the call comes ahead of it. -/
theorem swapCl {i : Nat} {oi oj : Oper} {K : Act → World → Prop} {a : Act} {w : World} (hQ : Calm Q) (hi : ops[i]? = some oi) (hj : ops[c]? = some oj)
    (hsi : ∀ cs b, oi.op ≠ .select cs b) (hsj : ∀ cs b, oj.op ≠ .select cs b) (hb : loadOp oi = true) (hap : oi.apart ops oj = true)
    (h : wpOp P ops Q i (wpOpK P ops c Q c K) a w) : wpOpK P ops c Q c (wpOp P ops Q i K) a w := by
  obtain ⟨v, hy, hk⟩ := load_at hQ hi hb h
  obtain ⟨a1, a2, a3⟩ := Oper.apart_spec hap
  unfold wpOpK at hk ⊢
  rw [if_pos rfl] at hk ⊢
  obtain ⟨o, ho, hk⟩ := hk
  rw [hj] at ho
  cases ho
  refine ⟨oj, hj, ?_⟩
  have step : ∀ (u : Value) (w' : World), Touch [] w w' → K ((a.put oi.dst v).put oj.dst u) w' → Go.wpOp P ops Q i K (a.put oj.dst u) w' := fun u w' t hK =>
    LoadsAt.wpOp hi ((hy.grow hb t).of_same (execOp_put oi hsi a oj.dst u a3) (wanted_put oi a oj.dst u a3)) (by rw [← Act.put_comm a v u a2]; exact hK)
  unfold CallK at hk ⊢
  rw [wanted_put oj a oi.dst v a1, execOp_put oj hsj a oi.dst v a1] at hk
  rcases hk with ⟨hw, hf⟩ | ⟨hw, hk⟩
  · refine .inl ⟨hw, fun W t => ?_⟩
    obtain ⟨f, args, hv, hc⟩ := hf W t
    exact ⟨f, args, hv, hc.mono fun e w' ⟨u, he, ht, hK⟩ => ⟨u, he, ht, step u w' (t.trans ht) hK⟩⟩
  · exact .inr ⟨hw, step _ _ (Touch.refl _ _) hk⟩

/-- Two operations that may come in either order (k stands first). -/
def compatK (P : Program) (ops : Array Oper) (c k i : Nat) : Bool :=
  match ops[k]?, ops[i]? with
  | some x, some y => x.apart ops y && y.apart ops x && k != c && (if i = c then blind2 P x || loadOp x else (blind2 P x || blind2 P y || (loadOp x && (loadOp y || newOp y))))
  | _, _ => false

theorem swapAnyK (hQ : Calm Q) (hs : Region.noSelect ops = true) {k i : Nat} (h : compatK P ops c k i = true) {K : Act → World → Prop} {a : Act} {w : World}
    (hh : wpOpK P ops c Q k (wpOpK P ops c Q i K) a w) : wpOpK P ops c Q i (wpOpK P ops c Q k K) a w := by
  unfold compatK at h
  split at h
  · rename_i x y hx hy
    simp only [Bool.and_eq_true, bne_iff_ne, ne_eq] at h
    obtain ⟨⟨⟨h1, h2⟩, hne⟩, h3⟩ := h
    have sx := Region.noSelect_spec hs k x
    have sy := Region.noSelect_spec hs i y
    rw [wpOpK_ne hne] at hh ⊢
    split at h3
    · rename_i hi
      subst hi
      simp only [Bool.or_eq_true] at h3
      rcases h3 with h3 | h3
      · exact swapCb hQ hx hy (fun cs b => sx cs b hx) (fun cs b => sy cs b hy) h3 h1 hh
      · exact swapCl hQ hx hy (fun cs b => sx cs b hx) (fun cs b => sy cs b hy) h3 h1 hh
    · rename_i hi
      rw [wpOpK_ne hi] at hh ⊢
      simp only [Bool.or_eq_true, Bool.and_eq_true] at h3
      rcases h3 with (h3 | h3) | ⟨h3, h4 | h4⟩
      · exact swap1K hQ hx hy (fun cs b => sx cs b hx) (fun cs b => sy cs b hy) h3 h1 hh
      · exact swap2K hQ hy hx (fun cs b => sy cs b hy) (fun cs b => sx cs b hx) h3 h2 hh
      · exact swap3K hQ hy hx (fun cs b => sy cs b hy) (fun cs b => sx cs b hx) h4 h3 h2 hh
      · exact swap4K hQ hy hx (fun cs b => sy cs b hy) (fun cs b => sx cs b hx) h4 h3 h2 hh
  · cases h

theorem moveFirstK (hQ : Calm Q) (hs : Region.noSelect ops = true) {i : Nat} {t2 : List Nat} : ∀ (t1 : List Nat), (∀ k, k ∈ t1 → compatK P ops c k i = true) → ∀ (a : Act) (w : World),
    wpOpsK P ops c Q (t1 ++ i :: t2) a w → wpOpsK P ops c Q (i :: (t1 ++ t2)) a w
  | [], _, a, w, h => h
  | k :: t1, hc, a, w, h => by
    have h1 : wpOpK P ops c Q k (wpOpK P ops c Q i (wpOpsK P ops c Q (t1 ++ t2))) a w :=
      wpOpK_mono (fun a' w' h' => moveFirstK hQ hs t1 (fun k hk => hc k (List.mem_cons_of_mem _ hk)) a' w' h') h
    exact swapAnyK hQ hs (hc k (by simp)) h1

def edgesIn (ops : Array Oper) (pre : List Nat) (i : Nat) : Bool :=
  match ops[i]? with
  | some o => o.after.all fun e => !Region.binds .any e || pre.contains e.on
  | none => false
def maskedOr (P : Program) (ops : Array Oper) (c : Nat) (M : Array Nat) (i k : Nat) : Bool := (decide (k < i) && (M.getD i 0).testBit k) || compatK P ops c k i

/-- An order that is told: what stands first is ordered so, or may come in either order. -/
def ordOk (P : Program) (ops : Array Oper) (c : Nat) (M : Array Nat) : List Nat → List Nat → Bool
  | _, [] => true
  | pre, i :: rest => edgesIn ops pre i && pre.all (maskedOr P ops c M i) && !pre.contains i && ordOk P ops c M (i :: pre) rest

theorem ordOk_at {M : Array Nat} {i : Nat} {q : List Nat} : ∀ (p pre : List Nat), ordOk P ops c M pre (p ++ i :: q) = true →
    (∃ o, ops[i]? = some o ∧ ∀ e ∈ o.after, Region.binds .any e = true → e.on ∈ p ∨ e.on ∈ pre) ∧ (∀ k, k ∈ p ∨ k ∈ pre → maskedOr P ops c M i k = true) ∧ i ∉ pre
  | [], pre, h => by
    rw [List.nil_append] at h
    unfold ordOk at h
    simp only [Bool.and_eq_true, List.all_eq_true, Bool.not_eq_true', List.contains_eq_mem, decide_eq_false_iff_not] at h
    obtain ⟨⟨⟨h1, h2⟩, h3⟩, _⟩ := h
    refine ⟨?_, fun k hk => h2 k (by simpa using hk), h3⟩
    unfold edgesIn at h1
    split at h1
    · rename_i o ho
      refine ⟨o, ho, fun e he hb => .inr ?_⟩
      have := Array.all_eq_true_iff_forall_mem.1 h1 e he
      simpa [hb] using this
    · cases h1
  | j :: p, pre, h => by
    rw [List.cons_append] at h
    unfold ordOk at h
    simp only [Bool.and_eq_true] at h
    obtain ⟨⟨o, ho, h1⟩, h2, h3⟩ := ordOk_at p (j :: pre) h.2
    refine ⟨⟨o, ho, fun e he hb => ?_⟩, fun k hk => h2 k ?_, fun hm => h3 (List.mem_cons_of_mem _ hm)⟩
    · rcases h1 e he hb with h | h
      · exact .inl (List.mem_cons_of_mem _ h)
      · rcases List.mem_cons.1 h with h | h
        · exact .inl (by rw [h]; simp)
        · exact .inr h
    · rcases hk with hk | hk
      · rcases List.mem_cons.1 hk with hk | hk
        · exact .inr (by rw [hk]; simp)
        · exact .inl hk
      · exact .inr (List.mem_cons_of_mem _ hk)

theorem ordOk_nodup {M : Array Nat} : ∀ (l pre : List Nat), ordOk P ops c M pre l = true → l.Nodup ∧ ∀ x, x ∈ l → x ∉ pre
  | [], _, _ => ⟨List.nodup_nil, by simp⟩
  | i :: l, pre, h => by
    unfold ordOk at h
    simp only [Bool.and_eq_true, Bool.not_eq_true', List.contains_eq_mem, decide_eq_false_iff_not] at h
    obtain ⟨h1, h2⟩ := ordOk_nodup l (i :: pre) h.2
    refine ⟨List.nodup_cons.2 ⟨fun hm => h2 i hm (by simp), h1⟩, fun x hx hm => ?_⟩
    rcases List.mem_cons.1 hx with rfl | hx
    · exact h.1.2 hm
    · exact h2 x hx (List.mem_cons_of_mem _ hm)

def backOk (ops : Array Oper) (i : Nat) : Bool :=
  match ops[i]? with
  | some o => o.after.all fun e => !Region.binds .any e || decide (e.on < i)
  | none => true

theorem mask_listed2 {M : Array Nat} (h : (List.range ops.size).all (fun i => backOk ops i && maskOk ops M i) = true) {listed : Array Bool} (hc : Closed ops listed) : ∀ (i : Nat) (o : Oper), ops[i]? = some o → (∀ e ∈ o.after, Region.binds .any e = true → listed.getD e.on false = true) →
    ∀ k, k < i → (M.getD i 0).testBit k = true → listed.getD k false = true := by
  intro i
  induction i using Nat.strongRecOn with
  | ind i ih =>
    intro o ho hd k hk hb
    have h' := h
    simp only [List.all_eq_true, List.mem_range, Bool.and_eq_true] at h'
    obtain ⟨h0, h2⟩ := h' i (Array.getElem?_eq_some_iff.1 ho).1
    unfold backOk at h0
    simp only [ho] at h0
    unfold maskOk at h2
    simp only [List.all_eq_true, List.mem_range, ho] at h2
    have h3 := h2 k hk
    simp only [hb, Bool.not_true, Bool.false_or] at h3
    obtain ⟨e, he, h4⟩ := Array.any_eq_true'.1 h3
    simp only [Bool.and_eq_true, Bool.or_eq_true, beq_iff_eq, decide_eq_true_eq] at h4
    have hlt : e.on < i := by
      have := Array.all_eq_true_iff_forall_mem.1 h0 e he
      simpa [h4.1] using this
    have hl := hd e he h4.1
    rcases h4.2 with h5 | ⟨hke, h5⟩
    · rw [← h5]; exact hl
    · have hn : e.on < ops.size := Nat.lt_trans hlt (Array.getElem?_eq_some_iff.1 ho).1
      exact ih e.on hlt ops[e.on] (Array.getElem?_eq_getElem hn) (hc e.on _ hl (Array.getElem?_eq_getElem hn)) k hke h5

/-- What is still to come, in the order that is told. -/
def restO (ord : List Nat) (listed : Array Bool) : List Nat := ord.filter fun j => !listed.getD j true

theorem restO_split {p q : List Nat} {i : Nat} {listed : Array Bool} (hn : (p ++ i :: q).Nodup) (hi : i < listed.size) (h0 : listed.getD i true = false) :
    restO (p ++ i :: q) listed = restO p listed ++ i :: restO q listed ∧ restO (p ++ i :: q) (listed.setIfInBounds i true) = restO p listed ++ restO q listed := by
  obtain ⟨hp, hq, hpq⟩ := List.nodup_append.1 hn
  have ip : ∀ j, j ∈ p → j ≠ i := fun j hj e => hpq j hj i (by simp) e
  have iq : ∀ j, j ∈ q → j ≠ i := fun j hj e => (List.nodup_cons.1 hq).1 (e ▸ hj)
  constructor
  · unfold restO
    rw [List.filter_append, List.filter_cons]
    simp only [h0, Bool.not_false, if_true]
  · unfold restO
    rw [List.filter_append, List.filter_cons]
    have e1 : (listed.setIfInBounds i true).getD i true = true := by simp [Array.getElem?_setIfInBounds, hi]
    simp only [e1, Bool.not_true, Bool.false_eq_true, if_false]
    congr 1
    · exact List.filter_congr fun j hj => by rw [getD_set_ne true (fun e => ip j hj e.symm)]
    · exact List.filter_congr fun j hj => by rw [getD_set_ne true (fun e => iq j hj e.symm)]

theorem any_of_ord {M : Array Nat} {ord : List Nat} (hQ : Calm Q) (hs : Region.noSelect ops = true) (hM : (List.range ops.size).all (fun i => backOk ops i && maskOk ops M i) = true) (ho : ordOk P ops c M [] ord = true) (hall : ∀ i, i < ops.size → i ∈ ord) :
    ∀ (fuel : Nat) (listed : Array Bool) (a : Act) (w : World), listed.size = ops.size → Closed ops listed → (restO ord listed).length ≤ fuel →
    wpOpsK P ops c Q (restO ord listed) a w → wpAny P .any ops Q fuel listed a w := by
  have hnd := (ordOk_nodup ord [] ho).1
  have hsz0 : ∀ j, j ∈ ord → j < ops.size := fun j hj => by
    obtain ⟨p, q, rfl⟩ := List.append_of_mem hj
    obtain ⟨⟨o, h1, _⟩, _⟩ := ordOk_at p [] ho
    exact (Array.getElem?_eq_some_iff.1 h1).1
  have hready : ∀ (listed : Array Bool), listed.size = ops.size → Region.ready .any ops listed = [] → restO ord listed = [] := by
    intro listed hsz hr
    cases ht : restO ord listed with
    | nil => rfl
    | cons j t =>
      exfalso
      have hj : j ∈ restO ord listed := by rw [ht]; simp
      obtain ⟨hjo, hj0⟩ := List.mem_filter.1 hj
      have hj0 : listed.getD j true = false := by simpa using hj0
      obtain ⟨p, q, rfl⟩ := List.append_of_mem hjo
      obtain ⟨⟨o, ho1, ho2⟩, _, _⟩ := ordOk_at p [] ho
      have hjn : j < listed.size := by rw [hsz]; exact hsz0 j hjo
      have hp : restO p listed = [] := by
        have h1 := (restO_split hnd hjn hj0).1
        rw [ht] at h1
        cases hpp : restO p listed with
        | nil => rfl
        | cons x xs =>
          exfalso
          rw [hpp] at h1
          have hx : x = j := by injection h1 with h1 _; exact h1.symm
          have hxm : x ∈ p := (List.mem_filter.1 (show x ∈ restO p listed by rw [hpp]; simp)).1
          exact (List.nodup_append.1 hnd).2.2 x hxm j (by simp) hx
      have : j ∈ Region.ready .any ops listed := by
        rw [mem_ready]
        refine ⟨hj0, o, ho1, fun e he hb => ?_⟩
        have hep : e.on ∈ p := by
          rcases ho2 e he hb with h | h
          · exact h
          · cases h
        have hes : e.on < listed.size := by rw [hsz]; exact hsz0 _ (List.mem_append_left _ hep)
        have hl : listed.getD e.on true = true := by
          cases h : listed.getD e.on true with
          | true => rfl
          | false =>
            have : e.on ∈ restO p listed := List.mem_filter.2 ⟨hep, by simpa using h⟩
            rw [hp] at this
            cases this
        simpa [hes] using hl
      rw [hr] at this
      cases this
  intro fuel
  induction fuel with
  | zero =>
    intro listed a w hsz hc hl hh
    have hnil : restO ord listed = [] := List.eq_nil_of_length_eq_zero (by omega)
    rw [hnil] at hh
    refine ⟨?_, hh⟩
    cases hr : Region.ready .any ops listed with
    | nil => rfl
    | cons j t =>
      exfalso
      have hj : j ∈ Region.ready .any ops listed := by rw [hr]; simp
      obtain ⟨h0, o, ho, _⟩ := mem_ready.1 hj
      have : j ∈ restO ord listed := List.mem_filter.2 ⟨hall j (Array.getElem?_eq_some_iff.1 ho).1, by simpa using h0⟩
      rw [hnil] at this
      cases this
  | succ fuel ih =>
    intro listed a w hsz hc hl hh
    refine ⟨fun hr => ?_, fun i hi => ?_⟩
    · rw [hready listed hsz hr] at hh
      exact hh
    · obtain ⟨h0, o, hoi, hd⟩ := mem_ready.1 hi
      have hin := (Array.getElem?_eq_some_iff.1 hoi).1
      obtain ⟨p, q, rfl⟩ := List.append_of_mem (hall i hin)
      obtain ⟨e1, e2⟩ := restO_split hnd (by rw [hsz]; exact hin) h0
      obtain ⟨_, hat, _⟩ := ordOk_at p [] ho
      rw [e1] at hh hl
      have hmv := moveFirstK hQ hs (restO p listed) (fun k hk => by
        obtain ⟨hkp, hk0⟩ := List.mem_filter.1 hk
        have hk0 : listed.getD k true = false := by simpa using hk0
        have hm := hat k (.inl hkp)
        unfold maskedOr at hm
        simp only [Bool.or_eq_true, Bool.and_eq_true, decide_eq_true_eq] at hm
        rcases hm with ⟨hki, hb⟩ | hb
        · have := mask_listed2 hM hc i o hoi hd k hki hb
          exfalso
          have hks : k < listed.size := by omega
          simp [hks] at this hk0
          rw [hk0] at this
          cases this
        · exact hb) a w hh
      refine wpOp_mono (fun a' w' h3 => ih _ a' w' (by simpa using hsz) ?_ ?_ ?_) (wpOpK_wpOp hmv)
      · intro x ox hx hox e he hb
        by_cases hxi : i = x
        · subst hxi
          rw [hoi] at hox
          cases hox
          exact getD_set_true (hd e he hb)
        · rw [getD_set_ne false hxi] at hx
          exact getD_set_true (hc x ox hx hox e he hb)
      · rw [e2]
        simp only [List.length_append, List.length_cons] at hl ⊢
        omega
      · rw [e2]
        exact h3

theorem opsK_of_list {R : Exit → Act → World → Prop} {t : List Nat} (hR : ∀ a w, R .normal a w → wpOpsK P ops c (Only Q) t a w) : ∀ (l : List Oper) (is : List Nat), l.map some = is.map (fun i => ops[i]?) → c ∉ is → ∀ (a : Act) (w : World), wpList P ops (Only R) l a w → wpOpsK P ops c (Only Q) (is ++ t) a w
  | [], [], _, _, a, w, h => hR a w h
  | [], _ :: _, h, _, _, _, _ => by simp at h
  | _ :: _, [], h, _, _, _, _ => by simp at h
  | o :: l, k :: is, hm, hc, a, w, h => by
    simp only [List.map_cons, List.cons.injEq] at hm
    obtain ⟨ho, hm⟩ := hm
    have hne : k ≠ c := fun e => hc (by simp [e])
    show wpOpK P ops c (Only Q) k (wpOpsK P ops c (Only Q) (is ++ t)) a w
    rw [wpOpK_ne hne]
    refine wpOp_only (R := R) ?_
    unfold wpList at h
    unfold wpOp
    simp only [← ho]
    split
    · rename_i hw
      simp only [hw, if_true] at h
      exact h.imp (fun h => Oper.wp_mono (fun a' w' h' => opsK_of_list hR l is hm (fun hm => hc (List.mem_cons_of_mem _ hm)) a' w' h') h) id
    · rename_i hw
      simp only [hw] at h
      exact opsK_of_list hR l is hm (fun hm => hc (List.mem_cons_of_mem _ hm)) _ _ h

theorem map_range (l : List Oper) (s k : Nat) (h : s + k ≤ l.length) : ((l.drop s).take k).map some = (List.range' s k).map (fun i => l.toArray[i]?) := by
  refine List.ext_getElem (by simp; omega) fun n h1 h2 => ?_
  simp only [List.length_map, List.length_take, List.length_drop] at h1
  have : s + n < l.length := by omega
  simp [this]

/-- THE CHECK: the call at c comes behind the m operations that stand behind it in the text; what is not ordered may come in either order. -/
def movedOk (P : Program) (ops : Array Oper) (c m : Nat) : Bool :=
  Region.noSelect ops && (List.range ops.size).all (fun i => backOk ops i && maskOk ops (Region.before ops) i) && ordOk P ops c (Region.before ops) [] (List.range' 0 c ++ (List.range' (c + 1) m ++ c :: List.range' (c + 1 + m) (ops.size - c - 1 - m))) && decide (c + 1 + m ≤ ops.size)

def HalfK (P : Program) (ops : Array Oper) (Q : Exit → Act → World → Prop) (o : Oper) (l : List Oper) : Exit → Act → World → Prop := fun _ a w => CallK P ops o (wpList P ops (Only Q) l) a w

/-- THE LAW: a drawn region whose call at c makes memory: walked in the order of its text, but for the call, which comes behind the m operations that stand behind it. -/
theorem region_moved {id : Nat} {l : List Oper} {o : Oper} {a : Act} {w : World} (c m : Nat) (hc : l[c]? = some o) (hm : P.follows .mixedOrders = true) (hok : movedOk P l.toArray c m = true)
    (h : wpList P l.toArray (Only (HalfK P l.toArray Q o (l.drop (c + 1 + m)))) (l.take c ++ (l.drop (c + 1)).take m) a w.drew) : (Code.region id l.toArray true).wp P Q a w := by
  have hcl : c < l.length := (List.getElem?_eq_some_iff.1 hc).1
  unfold movedOk at hok
  simp only [Bool.and_eq_true, decide_eq_true_eq, List.size_toArray] at hok
  obtain ⟨⟨⟨hs, hM⟩, ho⟩, hcm⟩ := hok
  have hall : ∀ i, i < l.toArray.size → i ∈ List.range' 0 c ++ (List.range' (c + 1) m ++ c :: List.range' (c + 1 + m) (l.length - c - 1 - m)) := by
    intro i hi
    simp only [List.size_toArray] at hi
    simp only [List.mem_append, List.mem_cons, List.mem_range'_1]
    omega
  have hr : restO (List.range' 0 c ++ (List.range' (c + 1) m ++ c :: List.range' (c + 1 + m) (l.length - c - 1 - m))) (Array.replicate l.toArray.size false) = (List.range' 0 c ++ List.range' (c + 1) m) ++ (c :: List.range' (c + 1 + m) (l.length - c - 1 - m)) := by
    rw [List.append_assoc]
    unfold restO
    refine List.filter_eq_self.2 fun j hj => ?_
    have : j < l.length := by
      simp only [List.mem_append, List.mem_cons, List.mem_range'_1] at hj
      omega
    simp [this]
  have h0 : ∀ a w, HalfK P l.toArray Q o (l.drop (c + 1 + m)) .normal a w → wpOpsK P l.toArray c (Only Q) (c :: List.range' (c + 1 + m) (l.length - c - 1 - m)) a w := by
    intro a w hk
    show wpOpK P l.toArray c (Only Q) c (wpOpsK P l.toArray c (Only Q) (List.range' (c + 1 + m) (l.length - c - 1 - m))) a w
    unfold wpOpK
    rw [if_pos rfl]
    refine ⟨o, by simpa using hc, CallK.mono (fun a w h2 => ?_) hk⟩
    have := opsK_of_list (P := P) (ops := l.toArray) (c := c) (Q := Q) (R := Q) (t := []) (fun a w h => h) (l.drop (c + 1 + m)) (List.range' (c + 1 + m) (l.length - c - 1 - m)) (by
      rw [← map_range l (c + 1 + m) (l.length - c - 1 - m) (by omega), List.take_of_length_le (by simp; omega)]) (by simp only [List.mem_range'_1]; omega) _ _ h2
    rw [List.append_nil] at this
    exact this
  have h1 := opsK_of_list (P := P) (ops := l.toArray) (c := c) (Q := Q) (R := HalfK P l.toArray Q o (l.drop (c + 1 + m))) h0 (l.take c ++ (l.drop (c + 1)).take m) (List.range' 0 c ++ List.range' (c + 1) m) (by
    rw [List.map_append, List.map_append, ← map_range l 0 c (by omega), ← map_range l (c + 1) m (by omega), List.drop_zero]) (by simp only [List.mem_append, List.mem_range'_1]; omega) a w.drew h
  have h2 : wpAny P .any l.toArray (Only Q) l.toArray.size (Array.replicate l.toArray.size false) a w.drew :=
    any_of_ord calm_only hs hM ho hall _ _ _ _ (by simp) (by
      intro x o hx
      exfalso
      by_cases hx' : x < l.toArray.size
      · simp at hx' hx
        simp [hx'] at hx
      · simp at hx' hx
        simp [Nat.not_lt.2 hx'] at hx) (by rw [hr]; simp; omega) (by rw [hr]; exact h1)
  refine Go.Code.wp_mono (Q := Only Q) ?_ (wp_region_any hm h2)
  intro e a' w' he
  cases e with
  | normal => exact he
  | _ => exact absurd he (by intro h; exact h)

/-- A call of a function by its number, with no guard. -/
theorem callK_static {o : Oper} {l : List Oper} {a : Act} {w : World} {f : FuncId} {args : Array Operand} {ts : Array TypeId} {vs : Array Value} (hw : Region.wanted o (yielded ops a.tmps) = true) (ho : o.op = .call { callee := .value (.func f), args := args, argTypes := ts })
    (eg : ∀ args w, (callFunc f args).run P w = .ok (.enter f args) w) (hv : args.map a.eval = vs) (hc : ∀ W, Touch [] w W → Calls P f vs W fun e w' => ∃ v, e = .returned v ∧ Touch [] W w' ∧ wpList P ops (Only Q) l (a.put o.dst v) w') :
    HalfK P ops Q o l .normal a w :=
  .inl ⟨hw, fun W t => ⟨f, vs, by rw [← hv]; exact run_static ho eg, hc W t⟩⟩

end
end Go.Proofs.Ytlndihdlodempaa.Z

/- What the Steps' last region keeps, and its calls. Written by gensteps.py. -/
set_option linter.unusedVariables false
set_option linter.unusedSimpArgs false
namespace Go.Proofs.Ytlndihdlodempaa.Z
open Go.RowKit

def stepStart (n mode task : Int) (f : Fr) (L : List Int) : Rn := ⟨n, mode, task, f, Acc.zero, [], L⟩

/-- What the last region keeps. -/
def RSKeep (w : World) (m a r : Nat) (p : Option Addr) (g cap x : Nat) (s : Rn) (nv nx : Value) (w' : World) : Prop :=
  Has [] w w' (.row p g cap s.L :: .blk x (xcells p cap s nx) :: .own 98 4 nx s.notes.length (nts s.notes) :: .mem m a s.L :: .blk r (rcells m s nv) :: .own 98 4 nv s.notes.length (nts s.notes) :: [])
section
variable {w : World} {m a r : Nat} {p : Option Addr} {g cap x : Nat} {s : Rn} {nv nx : Value} {w' : World}
theorem rskeep (h : RSKeep w m a r p g cap x s nv nx w') : (r < w'.heap.size ∧ (∀ i, w'.cell? ⟨r, i, none⟩ = (rcells m s nv)[i]?)) ∧ (x < w'.heap.size ∧ (∀ i, w'.cell? ⟨x, i, none⟩ = (xcells p cap s nx)[i]?)) :=
  ⟨⟨(Has.at_ h 4 rfl).lt, (Has.at_ h 4 rfl).cell⟩, (Has.at_ h 1 rfl).lt, (Has.at_ h 1 rfl).cell⟩
theorem RSKeep.grow {w'' : World} (h : RSKeep w m a r p g cap x s nv nx w') (t : Touch [] w' w'') : RSKeep w m a r p g cap x s nv nx w'' := Has.grow h t
theorem RSKeep.drew (h : RSKeep w m a r p g cap x s nv nx w') : RSKeep w m a r p g cap x s nv nx w'.drew := Has.drew h
theorem rsover (h : RSKeep w m a r p g cap x s nv nx w') : Calls Try.prog 20 #[.pointer (some ⟨x, 0, none⟩)] w' fun e w'' => e = .returned (.bool s.over) ∧ RSKeep w m a r p g cap x s nv nx w'' :=
  (x_over h).mono fun e w'' k => ⟨k.1, k.2 ▸ h⟩
theorem rsnotes {pn qn : Option Addr} {c d : Nat} (h : RSKeep w m a r p g cap x s (.slice pn s.notes.length c) (.slice qn s.notes.length d) w') (hn : s.notes.length ≤ 1048576) : Calls Try.prog 22 #[.slice pn s.notes.length c, .slice qn s.notes.length d] w' fun e w'' => e = .returned (.bool true) ∧ RSKeep w m a r p g cap x s (.slice pn s.notes.length c) (.slice qn s.notes.length d) w'' :=
  (same_notes w' (Rd.own (Has.ownAt h 5 rfl)) (Rd.own (Has.ownAt h 2 rfl)) hn).mono fun e w'' k => ⟨k.1, Has.grow h k.2⟩
def RSAll (w : World) (m a r : Nat) (p : Option Addr) (g cap x : Nat) (s : Rn) (nv nx : Value) (w' : World) (e : Ending) (w'' : World) : Prop :=
  ∃ p' cap', e = .returned (.slice p' s.L.length cap') ∧ RSKeep w m a r p g cap x s nv nx w'' ∧ Rd w'' 1 p' s.L.length (u32s s.L) ∧ Touch [] w' w''
theorem rsall (h : RSKeep w m a r p g cap x s nv nx w') : Calls Try.prog 23 #[.pointer (some ⟨m, 0, none⟩)] w' (RSAll w m a r p g cap x s nv nx w') :=
  (all_mem (Has.mem (Has.front h 3 (by simp)))).mono fun e w'' ⟨p', cap', he, ho, t⟩ => ⟨p', cap', he, Has.grow h t, by
    obtain ⟨g', hR, _⟩ := Row.of_owns ho (Has.row h).words
    exact hR.rd, t⟩
theorem rssame (h : RSKeep w m a r p g cap x s nv nx w') {p' : Option Addr} {cap' : Nat} (hr : Rd w' 1 p' s.L.length (u32s s.L)) :
    Calls Try.prog 21 #[.slice p' s.L.length cap', .slice p s.L.length cap] w' fun e w'' => e = .returned (.bool true) ∧ RSKeep w m a r p g cap x s nv nx w'' := by
  have := same_any (c := cap') (d := cap) w' hr (Has.row h).rd (by have := (Has.row h).words.1; omega)
  simp only [decide_true] at this
  exact this.mono fun e w'' k => ⟨k.1, Has.grow h k.2⟩
end
theorem six {S0 : List Nat} {w0 w : World} {a b c d e f : Res} {rs : List Res} (h : Has S0 w0 w (a :: b :: c :: d :: e :: f :: rs)) : Has S0 w0 w (d :: e :: f :: a :: b :: c :: rs) :=
  ((h.front 5 (by simp)).front 5 (by simp)).front 5 (by simp)
theorem drop7 {S0 : List Nat} {w0 w : World} {a b c d e f g : Res} (h : Has S0 w0 w (a :: b :: c :: d :: e :: f :: g :: [])) : Has S0 w0 w (a :: b :: c :: d :: e :: f :: []) :=
  Has.tail (h.front 6 (by simp))
end Go.Proofs.Ytlndihdlodempaa.Z

/- Package mutex: of a nil run nothing is done; what the walks of MutexSteps share. Written by genmxsteps.py. -/
set_option linter.unusedVariables false
set_option linter.unusedSimpArgs false
namespace Go.Proofs.Ytlndihdlodempaa.Z
open Go.RowKit

theorem mx_enter_nil (tail cls : Int) (w : World) : Calls Try.prog 26 #[.pointer none, .int .i64 tail, .int .i64 cls] w fun e w' => e = .returned (.bool false) ∧ w = w' := by
  go_enter Try.func26, Try.ntmps26
  go_wp2
  go_ret
  exact ⟨rfl, rfl⟩
theorem mx_give_nil (tail q : Int) (w : World) : Calls Try.prog 28 #[.pointer none, .int .i64 tail, .int .i64 q, .slice none 0 0] w fun e w' => e = .returned (.bool false) ∧ w = w' := by
  go_enter Try.func28, Try.ntmps28
  go_wp2
  go_ret
  exact ⟨rfl, rfl⟩
theorem mx_try_nil (q : Int) (w : World) : Calls Try.prog 30 #[.pointer none, .int .i64 0, .int .i64 q] w fun e w' => e = .returned (.tuple #[.bool false, .bool false]) ∧ w = w' := by
  go_enter Try.func30, Try.ntmps30
  go_wp2
  refine bodyPost_ret (v := .tuple #[.bool false, .bool false]) (by simp [results, Try.results30, go_sem]) rfl ⟨rfl, rfl⟩
theorem XHas.touch_ {S0 : List Nat} {w0 w : World} {p : Option Addr} {g cap x : Nat} {rs : List Res} {s : Rn} (H : XHas S0 w0 p g cap x rs s w) : Touch S0 w0 w := by
  obtain ⟨nv, H⟩ := H
  exact H.touch
theorem xmTry_notes (tail q : Int) (s : Rn) : (xmTry tail q s).2.2.notes = s.notes := by
  unfold xmTry
  split
  · rfl
  split <;> rfl
end Go.Proofs.Ytlndihdlodempaa.Z

/- Law 12: the statement MutexSteps: its walk, kind 0. Written by genmxsteps.py. -/
set_option linter.unusedVariables false
set_option linter.unusedSimpArgs false
namespace Go.Proofs.Ytlndihdlodempaa.Z
open Go.RowKit
attribute [local go_sem ↓] Go.wp_at_zero Go.wp_at_succ

set_option maxHeartbeats 3200000 in
set_option maxRecDepth 100000 in
theorem mutexSteps_0 {A B : Option Addr} {ln cp nn cn : Nat} {L nl : List Int} (w : World) (hr : Rd w 1 A ln (u32s L)) (hw : Words L) (hnr : Rd w 1 B nn (i64s nl)) (n mode task : Int) (f : Fr) (kind q cls : Int) (hn : I64 n) (ha : 0 ≤ f.a ∧ f.a < 4294967296) (hb : 0 ≤ f.b ∧ f.b < 4294967296)
    (hn10 : nn ≤ 10) (hq : -1000 ≤ q ∧ q ≤ 1000) (hli : -1000 ≤ f.line ∧ f.line ≤ 1000) (ht : task ≠ 9223372036854775807) (hk : kind = 0) :
    Calls Try.prog 4 #[.slice A ln cp, .int .i64 n, .int .i64 mode, .int .i64 task, .agg (Fr.cells f), .int .i64 kind, .int .i64 q, .int .i64 cls, .slice B nn cn] w fun e w' => e = .returned (.bool true) ∧ Touch [] w w' := by
  have hl := len_of_rd hr
  subst hl
  have hnl : nl.length = nn := by have := hnr.1; simpa [i64s] using this
  have h1024 := hw.1
  have i1 : ¬ ((1024 : Int) < (L.length : Int)) := by omega
  have i2 : ¬ ((10 : Int) < (nn : Int)) := by omega
  have i3 : ¬ ((1000 : Int) < q) := by omega
  have i4 : ¬ (q < (-1000 : Int)) := by omega
  obtain ⟨op, line, fa, fb, st, ⟨on, wc, wi, hit⟩, ret⟩ := f
  simp only [Fr.cells] at *
  have i5 : ¬ ((1000 : Int) < line) := by omega
  have i6 : ¬ (line < (-1000 : Int)) := by omega
  have i7 : (task == 9223372036854775807) = false := by simpa using ht
  subst hk
  have HW := Lib.hid hw
  have HN := Lib.hid hn
  have HA := Lib.hid ha
  have HB := Lib.hid hb
  have HQ := Lib.hid hq
  have HLI := Lib.hid hli
  have HNL := Lib.hid hnl
  have HN10 := Lib.hid hn10
  have HNR := Lib.hid hnr
  clear hw hn ha hb hq hli hnl hn10 hnr ht
  go_enter Try.func4, Try.ntmps4
  go_wp2_with fail
  refine (from_has ((Has.start [] w).new1) (hr.touch ((Touch.refl [] _).alloc _) (by simp)) HW.out).mono ?_
  rintro e w1 ⟨m, a, rfl, H1⟩
  obtain ⟨k0', k1', k2'⟩ := H1.blk1.own
  go_wp2_with fail
  refine wp_from (Facts := fun W => RunHas [] w m a w1.heap.size (.blk w.heap.size #[.int .i64 op, .int .i64 line, .int .u32 fa, .int .u32 fb, .int .i64 st, .bool on, .int .i64 wc, .int .i64 wi, .bool hit, .int .i64 ret] :: []) (stepStart n mode task ⟨op, line, fa, fb, st, ⟨on, wc, wi, hit⟩, ret⟩ L) W) ?_ (RunHas.fresh_ (stepStart n mode task ⟨op, line, fa, fb, st, ⟨on, wc, wi, hit⟩, ret⟩ L) H1 rfl 43)
  clear k0' k1' k2' H1
  intro W HR
  generalize w.heap.size = b0 at HR ⊢
  generalize w1.heap.size = r at HR ⊢
  obtain ⟨nv, HR⟩ := HR
  have HR : Has [] w W (.mem m a L :: .blk r (rcells m (stepStart n mode task ⟨op, line, fa, fb, st, ⟨on, wc, wi, hit⟩, ret⟩ L) nv) :: .own 98 4 nv 0 [] :: .blk b0 #[.int .i64 op, .int .i64 line, .int .u32 fa, .int .u32 fb, .int .i64 st, .bool on, .int .i64 wc, .int .i64 wi, .bool hit, .int .i64 ret] :: []) := HR
  have HRD := Lib.hid hr
  clear hr i1 i2 i3 i4 i5 i6 i7
  have hk : ∀ w', Has [] w w' (.mem m a L :: .blk r (rcells m (stepStart n mode task ⟨op, line, fa, fb, st, ⟨on, wc, wi, hit⟩, ret⟩ L) nv) :: .own 98 4 nv 0 [] :: .blk b0 #[.int .i64 op, .int .i64 line, .int .u32 fa, .int .u32 fb, .int .i64 st, .bool on, .int .i64 wc, .int .i64 wi, .bool hit, .int .i64 ret] :: []) → Has [] w w' (.mem m a L :: .blk r (rcells m (stepStart n mode task ⟨op, line, fa, fb, st, ⟨on, wc, wi, hit⟩, ret⟩ L) nv) :: .own 98 4 nv 0 [] :: .blk b0 #[.int .i64 op, .int .i64 line, .int .u32 fa, .int .u32 fb, .int .i64 st, .bool on, .int .i64 wc, .int .i64 wi, .bool hit, .int .i64 ret] :: []) ∧ (∀ i, w'.cell? ⟨b0, i, none⟩ = #[.int .i64 op, .int .i64 line, .int .u32 fa, .int .u32 fb, .int .i64 st, .bool on, .int .i64 wc, .int .i64 wi, .bool hit, .int .i64 ret][i]?) := fun w' h => ⟨h, (Has.at_ h 3 rfl).cell⟩
  have hcopy : ∀ w', Has [] w w' (.mem m a L :: .blk r (rcells m (stepStart n mode task ⟨op, line, fa, fb, st, ⟨on, wc, wi, hit⟩, ret⟩ L) nv) :: .own 98 4 nv 0 [] :: .blk b0 #[.int .i64 op, .int .i64 line, .int .u32 fa, .int .u32 fb, .int .i64 st, .bool on, .int .i64 wc, .int .i64 wi, .bool hit, .int .i64 ret] :: []) → Calls Try.prog 13 #[.slice A L.length cp] w' (HasRow [] w L (.mem m a L :: .blk r (rcells m (stepStart n mode task ⟨op, line, fa, fb, st, ⟨on, wc, wi, hit⟩, ret⟩ L) nv) :: .own 98 4 nv 0 [] :: .blk b0 #[.int .i64 op, .int .i64 line, .int .u32 fa, .int .u32 fb, .int .i64 st, .bool on, .int .i64 wc, .int .i64 wi, .bool hit, .int .i64 ret] :: [])) := fun w' h => copy_has h (HRD.out.touch h.touch (by simp)) HW.out
  go_region_held3 (fun w' => Has [] w w' (.mem m a L :: .blk r (rcells m (stepStart n mode task ⟨op, line, fa, fb, st, ⟨on, wc, wi, hit⟩, ret⟩ L) nv) :: .own 98 4 nv 0 [] :: .blk b0 #[.int .i64 op, .int .i64 line, .int .u32 fa, .int .u32 fb, .int .i64 st, .bool on, .int .i64 wc, .int .i64 wi, .bool hit, .int .i64 ret] :: []) ∧ (∀ i, w'.cell? ⟨b0, i, none⟩ = #[.int .i64 op, .int .i64 line, .int .u32 fa, .int .u32 fb, .int .i64 st, .bool on, .int .i64 wc, .int .i64 wi, .bool hit, .int .i64 ret][i]?))
    (first | (go_split_ands; refine hk _ ?_; first | assumption | exact HR.drew | exact Has.tail (by assumption) | exact (Has.tail (by assumption)).grow ((Touch.refl [] _).alloc _)))
    (first | (go_at_call 13; refine (hcopy _ (by go_split_ands; first | assumption | exact HR.drew)).mono ?_; rintro e w2 ⟨p, g, cap, rfl, H2⟩))
  all_goals
    go_wp2_with fail
    refine calls_from (Facts := fun W => RunHas [] w m a r (.row p g cap L :: .blk w2.heap.size (xcells p cap (stepStart n mode task ⟨op, line, fa, fb, st, ⟨on, wc, wi, hit⟩, ret⟩ L) (.slice none 0 0)) :: .own 98 4 (.slice none 0 0) 0 [] :: .blk b0 #[.int .i64 op, .int .i64 line, .int .u32 fa, .int .u32 fb, .int .i64 st, .bool on, .int .i64 wc, .int .i64 wi, .bool hit, .int .i64 ret] :: []) (stepStart n mode task ⟨op, line, fa, fb, st, ⟨on, wc, wi, hit⟩, ret⟩ L) W) ?_ ⟨nv, six (H2.al1.own_nil _ _)⟩
    clear H2 hk hcopy HR
    intro W2 H4
    generalize w2.heap.size = x at H4 ⊢
    refine (mx_enter H4 0 cls HN.out HA.out (by simp [stepStart])).mono ?_
    rintro e w3 ⟨rfl, nv2, H5⟩
    have H6 : XHas [] w p g cap x _ (stepStart n mode task ⟨op, line, fa, fb, st, ⟨on, wc, wi, hit⟩, ret⟩ L) w3 := ⟨_, six H5⟩
    clear H5 H4
    go_wp2_with fail
    refine (xm_enter H6 0 cls HA.out (by simp [stepStart])).mono ?_
    rintro e w4 ⟨rfl, nx2, H9⟩
    clear H6
    have hso := (mxEnter_fk (s := (stepStart n mode task ⟨op, line, fa, fb, st, ⟨on, wc, wi, hit⟩, ret⟩ L)) 0 cls HW.out ⟨HA.out, HB.out⟩).2.2
    have hso := Nat.le_trans hso (show _ ≤ 20 from by have := HN10.out; have := HNL.out; simp only [stepStart, List.length_nil]; omega)
    generalize mxEnter 0 cls (stepStart n mode task ⟨op, line, fa, fb, st, ⟨on, wc, wi, hit⟩, ret⟩ L) = R at H9 hso ⊢
    obtain ⟨bb, s1⟩ := R
    simp only at H9 hso ⊢
    cases bb
    all_goals
      go_wp2_with fail
      refine (mx_try_nil _ _).mono ?_
      rintro e w5 ⟨rfl, rfl⟩
      go_wp2_with fail
      refine (mx_enter_nil _ _ _).mono ?_
      rintro e w6 ⟨rfl, rfl⟩
      go_wp2_with fail
      refine (mx_give_nil _ _ _).mono ?_
      rintro e w7 ⟨rfl, rfl⟩
      go_wp2_with fail
      refine wp_from (Facts := fun W => RSKeep w m a r p g cap x s1 nv2 nx2 W) ?_ (drop7 H9)
      clear H9
      intro W3 H9
      obtain ⟨pn, cn_, rfl⟩ := owns_slice (Has.ownAt H9 5 rfl)
      obtain ⟨qn, dn, rfl⟩ := owns_slice (Has.ownAt H9 2 rfl)
      obtain ⟨n', mode', task', ⟨op', line', fa', fb', st', ⟨on', wc', wi', hit'⟩, ret'⟩, ⟨ak, ac, ax, ay, ao⟩, notes', L'⟩ := s1
      have HSO := Lib.hid hso
      clear hso
      refine region_moved 43 4 rfl (by kernel_rfl) (by kernel_rfl) ?_
      simp only [List.take_succ_cons, List.take_zero, List.drop_succ_cons, List.drop_zero, List.cons_append, List.nil_append]
      have HK2 := Lib.hid H9.drew
      obtain ⟨⟨zr0, (zr1 : ∀ i, World.cell? _ ⟨r, i, none⟩ = (#[.pointer (some ⟨m, 0, none⟩), .int .i64 n', .int .i64 mode', .int .i64 task', .int .i64 op', .int .i64 line', .int .u32 fa', .int .u32 fb', .int .i64 st', .bool on', .int .i64 wc', .int .i64 wi', .bool hit', .int .i64 ret', .int .i64 ak, .int .i64 ac, .int .u32 ax, .int .u32 ay, .int .u32 ao, (.slice pn notes'.length cn_)] : Array Value)[i]?)⟩, zx0, (zx1 : ∀ i, World.cell? _ ⟨x, i, none⟩ = (#[.slice p L'.length cap, .int .i64 n', .int .i64 mode', .int .i64 task', .int .i64 op', .int .i64 line', .int .u32 fa', .int .u32 fb', .int .i64 st', .bool on', .int .i64 wc', .int .i64 wi', .bool hit', .int .i64 ret', .int .i64 ak, .int .i64 ac, .int .u32 ax, .int .u32 ay, .int .u32 ao, (.slice qn notes'.length dn)] : Array Value)[i]?)⟩ := rskeep H9.drew
      clear H9
      go_wp2_with fail
      refine (rsnotes HK2.out (by have := HSO.out; simp only at this ⊢; omega)).mono ?_
      rintro e w11 ⟨rfl, H11⟩
      obtain ⟨⟨br0, (br1 : ∀ i, World.cell? _ ⟨r, i, none⟩ = (#[.pointer (some ⟨m, 0, none⟩), .int .i64 n', .int .i64 mode', .int .i64 task', .int .i64 op', .int .i64 line', .int .u32 fa', .int .u32 fb', .int .i64 st', .bool on', .int .i64 wc', .int .i64 wi', .bool hit', .int .i64 ret', .int .i64 ak, .int .i64 ac, .int .u32 ax, .int .u32 ay, .int .u32 ao, (.slice pn notes'.length cn_)] : Array Value)[i]?)⟩, bx0, (bx1 : ∀ i, World.cell? _ ⟨x, i, none⟩ = (#[.slice p L'.length cap, .int .i64 n', .int .i64 mode', .int .i64 task', .int .i64 op', .int .i64 line', .int .u32 fa', .int .u32 fb', .int .i64 st', .bool on', .int .i64 wc', .int .i64 wi', .bool hit', .int .i64 ret', .int .i64 ak, .int .i64 ac, .int .u32 ax, .int .u32 ay, .int .u32 ao, (.slice qn notes'.length dn)] : Array Value)[i]?)⟩ := rskeep H11
      have HK3 := Lib.hid H11
      clear H11
      go_wp2_with fail
      rw [only_normal]
      refine callK_static rfl rfl (enters_of Try.func23 (by kernel_rfl) rfl) (by simp [Act.eval]) (fun W tW => (rsall (HK3.out.grow tW)).mono ?_)
      rintro e w12 ⟨p', cap', rfl, H12, hrd12, t12⟩
      refine ⟨_, rfl, t12, ?_⟩
      obtain ⟨⟨cr0, (cr1 : ∀ i, World.cell? _ ⟨r, i, none⟩ = (#[.pointer (some ⟨m, 0, none⟩), .int .i64 n', .int .i64 mode', .int .i64 task', .int .i64 op', .int .i64 line', .int .u32 fa', .int .u32 fb', .int .i64 st', .bool on', .int .i64 wc', .int .i64 wi', .bool hit', .int .i64 ret', .int .i64 ak, .int .i64 ac, .int .u32 ax, .int .u32 ay, .int .u32 ao, (.slice pn notes'.length cn_)] : Array Value)[i]?)⟩, cx0, (cx1 : ∀ i, World.cell? _ ⟨x, i, none⟩ = (#[.slice p L'.length cap, .int .i64 n', .int .i64 mode', .int .i64 task', .int .i64 op', .int .i64 line', .int .u32 fa', .int .u32 fb', .int .i64 st', .bool on', .int .i64 wc', .int .i64 wi', .bool hit', .int .i64 ret', .int .i64 ak, .int .i64 ac, .int .u32 ax, .int .u32 ay, .int .u32 ao, (.slice qn notes'.length dn)] : Array Value)[i]?)⟩ := rskeep H12
      have HK4 := Lib.hid H12
      have HRD4 := Lib.hid hrd12
      clear H12 hrd12
      go_wp2_with fail
      refine (rssame HK4.out HRD4.out).mono ?_
      rintro e w13 ⟨rfl, H13⟩
      have HK5 := Lib.hid H13
      clear H13
      go_wp2_with fail
      refine (mx_awake w13).mono ?_
      rintro e w14 ⟨rfl, t14⟩
      go_wp2_with fail
      rw [only_normal]
      go_wp2_with fail
      go_ret
      exact ⟨rfl, Has.touch (HK5.out.grow t14)⟩
end Go.Proofs.Ytlndihdlodempaa.Z

/- Law 12: the statement MutexSteps: its walk, kind 1. Written by genmxsteps.py. -/
set_option linter.unusedVariables false
set_option linter.unusedSimpArgs false
namespace Go.Proofs.Ytlndihdlodempaa.Z
open Go.RowKit
attribute [local go_sem ↓] Go.wp_at_zero Go.wp_at_succ

set_option maxHeartbeats 3200000 in
set_option maxRecDepth 100000 in
theorem mutexSteps_1 {A B : Option Addr} {ln cp nn cn : Nat} {L nl : List Int} (w : World) (hr : Rd w 1 A ln (u32s L)) (hw : Words L) (hnr : Rd w 1 B nn (i64s nl)) (n mode task : Int) (f : Fr) (kind q cls : Int) (hn : I64 n) (ha : 0 ≤ f.a ∧ f.a < 4294967296) (hb : 0 ≤ f.b ∧ f.b < 4294967296)
    (hn10 : nn ≤ 10) (hq : -1000 ≤ q ∧ q ≤ 1000) (hli : -1000 ≤ f.line ∧ f.line ≤ 1000) (ht : task ≠ 9223372036854775807) (hk : kind = 1) :
    Calls Try.prog 4 #[.slice A ln cp, .int .i64 n, .int .i64 mode, .int .i64 task, .agg (Fr.cells f), .int .i64 kind, .int .i64 q, .int .i64 cls, .slice B nn cn] w fun e w' => e = .returned (.bool true) ∧ Touch [] w w' := by
  have hl := len_of_rd hr
  subst hl
  have hnl : nl.length = nn := by have := hnr.1; simpa [i64s] using this
  have h1024 := hw.1
  have i1 : ¬ ((1024 : Int) < (L.length : Int)) := by omega
  have i2 : ¬ ((10 : Int) < (nn : Int)) := by omega
  have i3 : ¬ ((1000 : Int) < q) := by omega
  have i4 : ¬ (q < (-1000 : Int)) := by omega
  obtain ⟨op, line, fa, fb, st, ⟨on, wc, wi, hit⟩, ret⟩ := f
  simp only [Fr.cells] at *
  have i5 : ¬ ((1000 : Int) < line) := by omega
  have i6 : ¬ (line < (-1000 : Int)) := by omega
  have i7 : (task == 9223372036854775807) = false := by simpa using ht
  subst hk
  have HW := Lib.hid hw
  have HN := Lib.hid hn
  have HA := Lib.hid ha
  have HB := Lib.hid hb
  have HQ := Lib.hid hq
  have HLI := Lib.hid hli
  have HNL := Lib.hid hnl
  have HN10 := Lib.hid hn10
  have HNR := Lib.hid hnr
  clear hw hn ha hb hq hli hnl hn10 hnr ht
  go_enter Try.func4, Try.ntmps4
  go_wp2_with fail
  refine (from_has ((Has.start [] w).new1) (hr.touch ((Touch.refl [] _).alloc _) (by simp)) HW.out).mono ?_
  rintro e w1 ⟨m, a, rfl, H1⟩
  obtain ⟨k0', k1', k2'⟩ := H1.blk1.own
  go_wp2_with fail
  refine wp_from (Facts := fun W => RunHas [] w m a w1.heap.size (.blk w.heap.size #[.int .i64 op, .int .i64 line, .int .u32 fa, .int .u32 fb, .int .i64 st, .bool on, .int .i64 wc, .int .i64 wi, .bool hit, .int .i64 ret] :: []) (stepStart n mode task ⟨op, line, fa, fb, st, ⟨on, wc, wi, hit⟩, ret⟩ L) W) ?_ (RunHas.fresh_ (stepStart n mode task ⟨op, line, fa, fb, st, ⟨on, wc, wi, hit⟩, ret⟩ L) H1 rfl 43)
  clear k0' k1' k2' H1
  intro W HR
  generalize w.heap.size = b0 at HR ⊢
  generalize w1.heap.size = r at HR ⊢
  obtain ⟨nv, HR⟩ := HR
  have HR : Has [] w W (.mem m a L :: .blk r (rcells m (stepStart n mode task ⟨op, line, fa, fb, st, ⟨on, wc, wi, hit⟩, ret⟩ L) nv) :: .own 98 4 nv 0 [] :: .blk b0 #[.int .i64 op, .int .i64 line, .int .u32 fa, .int .u32 fb, .int .i64 st, .bool on, .int .i64 wc, .int .i64 wi, .bool hit, .int .i64 ret] :: []) := HR
  have HRD := Lib.hid hr
  clear hr i1 i2 i3 i4 i5 i6 i7
  have hk : ∀ w', Has [] w w' (.mem m a L :: .blk r (rcells m (stepStart n mode task ⟨op, line, fa, fb, st, ⟨on, wc, wi, hit⟩, ret⟩ L) nv) :: .own 98 4 nv 0 [] :: .blk b0 #[.int .i64 op, .int .i64 line, .int .u32 fa, .int .u32 fb, .int .i64 st, .bool on, .int .i64 wc, .int .i64 wi, .bool hit, .int .i64 ret] :: []) → Has [] w w' (.mem m a L :: .blk r (rcells m (stepStart n mode task ⟨op, line, fa, fb, st, ⟨on, wc, wi, hit⟩, ret⟩ L) nv) :: .own 98 4 nv 0 [] :: .blk b0 #[.int .i64 op, .int .i64 line, .int .u32 fa, .int .u32 fb, .int .i64 st, .bool on, .int .i64 wc, .int .i64 wi, .bool hit, .int .i64 ret] :: []) ∧ (∀ i, w'.cell? ⟨b0, i, none⟩ = #[.int .i64 op, .int .i64 line, .int .u32 fa, .int .u32 fb, .int .i64 st, .bool on, .int .i64 wc, .int .i64 wi, .bool hit, .int .i64 ret][i]?) := fun w' h => ⟨h, (Has.at_ h 3 rfl).cell⟩
  have hcopy : ∀ w', Has [] w w' (.mem m a L :: .blk r (rcells m (stepStart n mode task ⟨op, line, fa, fb, st, ⟨on, wc, wi, hit⟩, ret⟩ L) nv) :: .own 98 4 nv 0 [] :: .blk b0 #[.int .i64 op, .int .i64 line, .int .u32 fa, .int .u32 fb, .int .i64 st, .bool on, .int .i64 wc, .int .i64 wi, .bool hit, .int .i64 ret] :: []) → Calls Try.prog 13 #[.slice A L.length cp] w' (HasRow [] w L (.mem m a L :: .blk r (rcells m (stepStart n mode task ⟨op, line, fa, fb, st, ⟨on, wc, wi, hit⟩, ret⟩ L) nv) :: .own 98 4 nv 0 [] :: .blk b0 #[.int .i64 op, .int .i64 line, .int .u32 fa, .int .u32 fb, .int .i64 st, .bool on, .int .i64 wc, .int .i64 wi, .bool hit, .int .i64 ret] :: [])) := fun w' h => copy_has h (HRD.out.touch h.touch (by simp)) HW.out
  go_region_held3 (fun w' => Has [] w w' (.mem m a L :: .blk r (rcells m (stepStart n mode task ⟨op, line, fa, fb, st, ⟨on, wc, wi, hit⟩, ret⟩ L) nv) :: .own 98 4 nv 0 [] :: .blk b0 #[.int .i64 op, .int .i64 line, .int .u32 fa, .int .u32 fb, .int .i64 st, .bool on, .int .i64 wc, .int .i64 wi, .bool hit, .int .i64 ret] :: []) ∧ (∀ i, w'.cell? ⟨b0, i, none⟩ = #[.int .i64 op, .int .i64 line, .int .u32 fa, .int .u32 fb, .int .i64 st, .bool on, .int .i64 wc, .int .i64 wi, .bool hit, .int .i64 ret][i]?))
    (first | (go_split_ands; refine hk _ ?_; first | assumption | exact HR.drew | exact Has.tail (by assumption) | exact (Has.tail (by assumption)).grow ((Touch.refl [] _).alloc _)))
    (first | (go_at_call 13; refine (hcopy _ (by go_split_ands; first | assumption | exact HR.drew)).mono ?_; rintro e w2 ⟨p, g, cap, rfl, H2⟩))
  all_goals
    go_wp2_with fail
    refine calls_from (Facts := fun W => RunHas [] w m a r (.row p g cap L :: .blk w2.heap.size (xcells p cap (stepStart n mode task ⟨op, line, fa, fb, st, ⟨on, wc, wi, hit⟩, ret⟩ L) (.slice none 0 0)) :: .own 98 4 (.slice none 0 0) 0 [] :: .blk b0 #[.int .i64 op, .int .i64 line, .int .u32 fa, .int .u32 fb, .int .i64 st, .bool on, .int .i64 wc, .int .i64 wi, .bool hit, .int .i64 ret] :: []) (stepStart n mode task ⟨op, line, fa, fb, st, ⟨on, wc, wi, hit⟩, ret⟩ L) W) ?_ ⟨nv, six (H2.al1.own_nil _ _)⟩
    clear H2 hk hcopy HR
    intro W2 H4
    generalize w2.heap.size = x at H4 ⊢
    refine (mg_give (c := cn) 0 q HNL.out HQ.out (fun W s' xs H => HNR.out.touch (RunHas.touch H) (by simp)) (by have := HN10.out; have := HNL.out; simp [stepStart]; omega) H4 HN.out HA.out).mono ?_
    rintro e w3 ⟨rfl, nv2, H5⟩
    have H6 : XHas [] w p g cap x _ (stepStart n mode task ⟨op, line, fa, fb, st, ⟨on, wc, wi, hit⟩, ret⟩ L) w3 := ⟨_, six H5⟩
    clear H5 H4
    go_wp2_with fail
    refine (xm_give H6 0 q HQ.out (c := cn) HNL.out (fun W s' H => HNR.out.touch (XHas.touch_ H) (by simp)) (by have := HN10.out; have := HNL.out; simp [stepStart]; omega) (by have := HLI.out; unfold I64; simp only [stepStart]; omega) HA.out).mono ?_
    rintro e w4 ⟨rfl, nx2, H9⟩
    clear H6
    have hso := (mxGive_fk (s := (stepStart n mode task ⟨op, line, fa, fb, st, ⟨on, wc, wi, hit⟩, ret⟩ L)) 0 q nl HW.out ⟨HA.out, HB.out⟩).2.2
    have hso := Nat.le_trans hso (show _ ≤ 20 from by have := HN10.out; have := HNL.out; simp only [stepStart, List.length_nil]; omega)
    generalize mxGive 0 q nl (stepStart n mode task ⟨op, line, fa, fb, st, ⟨on, wc, wi, hit⟩, ret⟩ L) = R at H9 hso ⊢
    obtain ⟨bb, s1⟩ := R
    simp only at H9 hso ⊢
    cases bb
    all_goals
      go_wp2_with fail
      refine (mx_try_nil _ _).mono ?_
      rintro e w5 ⟨rfl, rfl⟩
      go_wp2_with fail
      refine (mx_enter_nil _ _ _).mono ?_
      rintro e w6 ⟨rfl, rfl⟩
      go_wp2_with fail
      refine (mx_give_nil _ _ _).mono ?_
      rintro e w7 ⟨rfl, rfl⟩
      go_wp2_with fail
      refine wp_from (Facts := fun W => RSKeep w m a r p g cap x s1 nv2 nx2 W) ?_ (drop7 H9)
      clear H9
      intro W3 H9
      obtain ⟨pn, cn_, rfl⟩ := owns_slice (Has.ownAt H9 5 rfl)
      obtain ⟨qn, dn, rfl⟩ := owns_slice (Has.ownAt H9 2 rfl)
      obtain ⟨n', mode', task', ⟨op', line', fa', fb', st', ⟨on', wc', wi', hit'⟩, ret'⟩, ⟨ak, ac, ax, ay, ao⟩, notes', L'⟩ := s1
      have HSO := Lib.hid hso
      clear hso
      refine region_moved 43 4 rfl (by kernel_rfl) (by kernel_rfl) ?_
      simp only [List.take_succ_cons, List.take_zero, List.drop_succ_cons, List.drop_zero, List.cons_append, List.nil_append]
      have HK2 := Lib.hid H9.drew
      obtain ⟨⟨zr0, (zr1 : ∀ i, World.cell? _ ⟨r, i, none⟩ = (#[.pointer (some ⟨m, 0, none⟩), .int .i64 n', .int .i64 mode', .int .i64 task', .int .i64 op', .int .i64 line', .int .u32 fa', .int .u32 fb', .int .i64 st', .bool on', .int .i64 wc', .int .i64 wi', .bool hit', .int .i64 ret', .int .i64 ak, .int .i64 ac, .int .u32 ax, .int .u32 ay, .int .u32 ao, (.slice pn notes'.length cn_)] : Array Value)[i]?)⟩, zx0, (zx1 : ∀ i, World.cell? _ ⟨x, i, none⟩ = (#[.slice p L'.length cap, .int .i64 n', .int .i64 mode', .int .i64 task', .int .i64 op', .int .i64 line', .int .u32 fa', .int .u32 fb', .int .i64 st', .bool on', .int .i64 wc', .int .i64 wi', .bool hit', .int .i64 ret', .int .i64 ak, .int .i64 ac, .int .u32 ax, .int .u32 ay, .int .u32 ao, (.slice qn notes'.length dn)] : Array Value)[i]?)⟩ := rskeep H9.drew
      clear H9
      go_wp2_with fail
      refine (rsnotes HK2.out (by have := HSO.out; simp only at this ⊢; omega)).mono ?_
      rintro e w11 ⟨rfl, H11⟩
      obtain ⟨⟨br0, (br1 : ∀ i, World.cell? _ ⟨r, i, none⟩ = (#[.pointer (some ⟨m, 0, none⟩), .int .i64 n', .int .i64 mode', .int .i64 task', .int .i64 op', .int .i64 line', .int .u32 fa', .int .u32 fb', .int .i64 st', .bool on', .int .i64 wc', .int .i64 wi', .bool hit', .int .i64 ret', .int .i64 ak, .int .i64 ac, .int .u32 ax, .int .u32 ay, .int .u32 ao, (.slice pn notes'.length cn_)] : Array Value)[i]?)⟩, bx0, (bx1 : ∀ i, World.cell? _ ⟨x, i, none⟩ = (#[.slice p L'.length cap, .int .i64 n', .int .i64 mode', .int .i64 task', .int .i64 op', .int .i64 line', .int .u32 fa', .int .u32 fb', .int .i64 st', .bool on', .int .i64 wc', .int .i64 wi', .bool hit', .int .i64 ret', .int .i64 ak, .int .i64 ac, .int .u32 ax, .int .u32 ay, .int .u32 ao, (.slice qn notes'.length dn)] : Array Value)[i]?)⟩ := rskeep H11
      have HK3 := Lib.hid H11
      clear H11
      go_wp2_with fail
      rw [only_normal]
      refine callK_static rfl rfl (enters_of Try.func23 (by kernel_rfl) rfl) (by simp [Act.eval]) (fun W tW => (rsall (HK3.out.grow tW)).mono ?_)
      rintro e w12 ⟨p', cap', rfl, H12, hrd12, t12⟩
      refine ⟨_, rfl, t12, ?_⟩
      obtain ⟨⟨cr0, (cr1 : ∀ i, World.cell? _ ⟨r, i, none⟩ = (#[.pointer (some ⟨m, 0, none⟩), .int .i64 n', .int .i64 mode', .int .i64 task', .int .i64 op', .int .i64 line', .int .u32 fa', .int .u32 fb', .int .i64 st', .bool on', .int .i64 wc', .int .i64 wi', .bool hit', .int .i64 ret', .int .i64 ak, .int .i64 ac, .int .u32 ax, .int .u32 ay, .int .u32 ao, (.slice pn notes'.length cn_)] : Array Value)[i]?)⟩, cx0, (cx1 : ∀ i, World.cell? _ ⟨x, i, none⟩ = (#[.slice p L'.length cap, .int .i64 n', .int .i64 mode', .int .i64 task', .int .i64 op', .int .i64 line', .int .u32 fa', .int .u32 fb', .int .i64 st', .bool on', .int .i64 wc', .int .i64 wi', .bool hit', .int .i64 ret', .int .i64 ak, .int .i64 ac, .int .u32 ax, .int .u32 ay, .int .u32 ao, (.slice qn notes'.length dn)] : Array Value)[i]?)⟩ := rskeep H12
      have HK4 := Lib.hid H12
      have HRD4 := Lib.hid hrd12
      clear H12 hrd12
      go_wp2_with fail
      refine (rssame HK4.out HRD4.out).mono ?_
      rintro e w13 ⟨rfl, H13⟩
      have HK5 := Lib.hid H13
      clear H13
      go_wp2_with fail
      refine (mx_awake w13).mono ?_
      rintro e w14 ⟨rfl, t14⟩
      go_wp2_with fail
      rw [only_normal]
      go_wp2_with fail
      go_ret
      exact ⟨rfl, Has.touch (HK5.out.grow t14)⟩
end Go.Proofs.Ytlndihdlodempaa.Z
