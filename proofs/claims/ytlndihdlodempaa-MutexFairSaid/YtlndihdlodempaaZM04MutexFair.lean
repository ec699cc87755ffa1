/- 6 texts of this claim, joined: what each shows stands at its own head. -/
import Derived.Test.YtlndihdlodempaaZM03MutexFair
import Derived.Test.YtlndihdlodempaaZMat2
import Derived.Deep.DrawnRows
/- The mutex's game: how the tasks begin; a step. -/
set_option linter.unusedVariables false
set_option linter.unusedSimpArgs false
namespace Go.Proofs.Ytlndihdlodempaa.Z
open Go.RowKit
attribute [local go_sem ↓] Go.wp_at_zero Go.wp_at_succ

theorem perm4_ {α : Type} (a b c d : α) (X : List α) : (a :: b :: c :: d :: X).Perm (d :: b :: c :: a :: X) :=
  (perm_front (a :: b :: c :: d :: X) 3 (by simp)).trans (List.Perm.cons d (List.perm_middle (l₁ := [b, c]) (l₂ := X) (a := a)).symm)

def GBeg (w0 : World) (m a : Nat) (n mode : Int) (Z : List Int) (rs : List Res) (tv : Value) (j : Nat) (w : World) : Prop :=
  ∃ ts : List Tk, ts.length = j ∧ (∀ i t, ts[i]? = some t → ∃ r, t = Tk.idle m n mode Z i r) ∧ Has [] w0 w (.mem m a Z :: .own 36 1 tv j (ts.map Tk.ptr) :: (tksRes m ts ++ rs))

theorem game_more {w0 w w' : World} {m a j : Nat} {n mode : Int} {Z : List Int} {rs : List Res} {lv v' : Value} {ts : List Tk} {r lit : Nat} (hl : ts.length = j) (hi : ∀ i t, ts[i]? = some t → ∃ r, t = Tk.idle m n mode Z i r)
    (H : Has [] w0 w (.blk lit #[.pointer (some ⟨r, 0, none⟩)] :: .blk r (rcells m ⟨n, mode, j, Fr.zero, Acc.zero, [], Z⟩ (.slice none 0 0)) :: .mem m a Z :: .own 36 1 lv j (ts.map Tk.ptr) :: (tksRes m ts ++ rs)))
    (hown : w'.ownsRow 0 36 1 v' (j + 1) (ts.map Tk.ptr ++ [.pointer (some ⟨r, 0, none⟩)])) (hg : w.grownBy w' lv.ownBlock) (hat : v'.ownBlock = lv.ownBlock ∨ v'.ownBlock = some w.heap.size) :
    GBeg w0 m a n mode Z rs v' (j + 1) w' := by
  have H1 := Has.grown1 3 (by simp) H rfl hown hg hat
  have H2 : Has [] w0 w' (.own 36 1 v' (j + 1) (ts.map Tk.ptr ++ [.pointer (some ⟨r, 0, none⟩)]) :: .blk lit #[.pointer (some ⟨r, 0, none⟩)] :: .blk r (rcells m ⟨n, mode, j, Fr.zero, Acc.zero, [], Z⟩ (.slice none 0 0)) :: .mem m a Z :: (tksRes m ts ++ rs)) := H1
  have H3 := (H2.drop1).ownNil 98 4
  refine ⟨ts ++ [Tk.idle m n mode Z j r], by simp [hl], fun i t ht => ?_, ?_⟩
  · rcases Nat.lt_or_ge i ts.length with h1 | h1
    · rw [List.getElem?_append_left h1] at ht
      exact hi i t ht
    · rw [List.getElem?_append_right h1] at ht
      have : i = ts.length := by
        rcases Nat.lt_or_ge (i - ts.length) 1 with h2 | h2
        · omega
        · rw [List.getElem?_eq_none (by simpa using h2)] at ht; cases ht
      subst this
      rw [Nat.sub_self] at ht
      simp only [List.getElem?_cons_zero, Option.some.injEq] at ht
      subst ht
      exact ⟨r, by rw [hl]⟩
  · have e1 : (ts ++ [Tk.idle m n mode Z j r]).map Tk.ptr = ts.map Tk.ptr ++ [.pointer (some ⟨r, 0, none⟩)] := by simp [Tk.ptr, Tk.idle]
    have e2 : tksRes m (ts ++ [Tk.idle m n mode Z j r]) ++ rs = tksRes m ts ++ .blk r (rcells m ⟨n, mode, j, Fr.zero, Acc.zero, [], Z⟩ (.slice none 0 0)) :: .own 98 4 (.slice none 0 0) 0 [] :: rs := by simp [tksRes, Tk.res, Tk.idle, nts]
    rw [e1, e2]
    refine H3.perm ((perm4_ _ _ _ _ _).trans (List.Perm.cons _ (List.Perm.cons _ ?_)))
    exact ((List.perm_middle).trans (List.Perm.cons _ List.perm_middle)).symm

def u8s (l : List Int) : List Value := l.map (Value.int .u8)
def game0 (n : Nat) (mode : Int) (Z : List Int) : Gm := ⟨Mt.start n mode Z, List.replicate n 0, [], -1⟩
def gameA (n : Nat) (mode : Int) (Z : List Int) (ps : List Int) : Gm := ps.foldl (fun G x => G.pick ((x % (n : Int)).toNat)) (game0 n mode Z)

theorem gbeg_done {w0 w : World} {m a sb sa ta n : Nat} {mode : Int} {Z : List Int} {tv : Value} {rs : List Res} (h64 : n ≤ 64)
    (H : ∃ ts : List Tk, ts.length = n ∧ (∀ i t, ts[i]? = some t → ∃ r, t = Tk.idle m n mode Z i r) ∧ Has [] w0 w (.mem m a Z :: .own 36 1 tv n (ts.map Tk.ptr) :: .blk sb #[.slice (some ⟨sa, 0, none⟩) n n] :: .blk sa (i64s (List.replicate n 0)).toArray :: .blk ta (i64s (List.replicate n 0)).toArray :: (tksRes m ts ++ rs))) :
    GmHas w0 m a sb sa ta tv rs (game0 n mode Z) w := by
  obtain ⟨ts, hl, hi, H⟩ := H
  refine ⟨ts, ⟨by simp [game0, Mt.start, hl], by simp [game0, Mt.start], fun i t ht => ?_, fun f hf => ?_, ?_, by simpa [game0, Mt.start] using h64⟩, by simp [game0, Mt.start], ?_⟩
  · obtain ⟨r, rfl⟩ := hi i t ht
    have hlt : i < n := by
      rcases Nat.lt_or_ge i ts.length with h1 | h1
      · omega
      · rw [List.getElem?_eq_none h1] at ht; cases ht
    refine ⟨?_, rfl, rfl, rfl⟩
    simp [game0, Mt.start, Tk.idle, hlt]
  · obtain rfl := (List.mem_replicate.1 hf).2
    exact ⟨by simp [Fr.zero], by simp [Fr.zero]⟩
  · show I64 (n : Int)
    unfold I64
    omega
  · have e : (game0 n mode Z).M.fs.length = n := by simp [game0, Mt.start]
    rw [e]
    exact H

/-- A step of a task. -/
theorem gm_step {w0 w : World} {m a r gb kb sb sa ta n k : Nat} {hold times : List Int} {RS : List Res} {s : Rn} (H : RunHas [] w0 m a r (.blk gb #[.bool false] :: .blk kb #[.int .i64 k] :: .blk sb #[.slice (some ⟨sa, 0, none⟩) n n] :: .blk sa (i64s hold).toArray :: RS) s w)
    (hk : k < n) (hl : hold.length = n) (hn64 : n ≤ 64) (hn : I64 s.n) (ha : 0 ≤ s.f.a ∧ s.f.a < 4294967296) {R : Bool × Rn} (hR : gmLine (hold.getD k 0) s.fresh = R) :
    Calls Try.prog 14 #[.pointer (some ⟨r, 0, none⟩), .func (.func 86) #[] #[.pointer (some ⟨sb, 0, none⟩), .pointer (some ⟨kb, 0, none⟩), .pointer (some ⟨gb, 0, none⟩)]] w
      fun e w' => (∃ ov, e = .returned (.bool ov)) ∧ RunHas [] w0 m a r (.blk gb #[.bool R.1] :: .blk kb #[.int .i64 k] :: .blk sb #[.slice (some ⟨sa, 0, none⟩) n n] :: .blk sa (i64s hold).toArray :: RS) R.2 w' := by
  cases hw : s.f.wk.on with
  | true =>
    have e : R = (false, s.woke) := by rw [← hR]; unfold gmLine; rw [if_pos (by exact hw)]; rfl
    subst e
    exact (run_step_wake H hw hn _).mono fun e w' h => ⟨⟨_, h.1⟩, h.2⟩
  | false =>
    have e : R = if hold.getD k 0 = 0 then mxEnter 0 2 s.fresh else mxGive 0 6 [8] s.fresh := by
      rw [← hR]
      unfold gmLine
      rw [if_neg (by show ¬ (s.f.wk.on = true); rw [hw]; decide)]
    subst e
    exact (run_step_lines H hw 86 #[] #[.pointer (some ⟨sb, 0, none⟩), .pointer (some ⟨kb, 0, none⟩), .pointer (some ⟨gb, 0, none⟩)] (enters_of Try.func86 (by kernel_rfl) rfl)
      (fun W HW => gm_fun (ta := ta) (times := times) HW hk hl hn64 hn ha (by simp [Rn.fresh]))).mono fun e w' h => ⟨⟨_, h.1⟩, h.2⟩

end Go.Proofs.Ytlndihdlodempaa.Z

/- The mutex's game: the order grows and gives its first. -/
set_option linter.unusedVariables false
set_option linter.unusedSimpArgs false
namespace Go.Proofs.Ytlndihdlodempaa.Z
open Go.RowKit

theorem ord_new {w0 w w' : World} {A : List Res} {v' : Value} {ys : List Int} (H : Has [] w0 w A) {n : Nat} (hn : n = ys.length) (hown : w'.ownsRow w.heap.size 3 1 v' n (i64s ys)) (hg : w.grownBy w' none) (hne : 0 < n) : ∃ ors', OrdIs v' ys ors' ∧ Has [] w0 w' (A ++ ors') := by
  subst hn
  rcases hown.2 with ⟨_, h0⟩ | ⟨g, cap, cur, rfl, hb, hgc, h1, h2, h3, h4⟩
  · omega
  · refine ⟨[.blk g cur], Or.inr ⟨g, 0, cap, cur, rfl, rfl, h1, by omega, by unfold maxLen at h2; omega, fun j hj => ?_⟩, ?_⟩
    · have h5 := congrArg (fun l => l[j]?) h4
      simp only [Nat.mul_one, List.getElem?_take, if_pos hj] at h5
      rw [Nat.zero_add, ← Array.getElem?_toList, h5]
      simp [i64s, List.getD, hj]
    · exact (H.came (.blk g cur) ((Touch.refl [] w).grown hg (by simp)) (by simp) ⟨_, hgc⟩ (by intro k hk; simp only [Res.foot, List.mem_singleton] at hk; omega)).perm (List.perm_append_singleton _ _).symm

theorem ord_append {ops : Array Oper} {rest : List Oper} {o : Oper} {a : Act} {Q : Exit → Act → World → Prop} {w0 w : World} {A : List Res} {v : Value} {xs : List Int} {ors : List Res} {lit : Nat} {k : Int} (hgd : o.guard = none) (s x : Operand)
    (ho : o.op = .call { callee := .builtin .append, args := #[s, x], argTypes := #[59, 59] }) (j0 : TypeInfo) (h1 : Try.prog.underlying 59 = some (.slice 3)) (hj : Try.prog.info? 3 = some j0 ∧ j0.zero = some (.int .i64 0) ∧ j0.size = 1 ∧ j0.bytes = 8)
    (hs : a.eval s = v) (hx : a.eval x = .slice (some ⟨lit, 0, none⟩) 1 1) (hO : OrdIs v xs ors) (H : Has [] w0 w (A ++ ors)) (hl : w.cell? ⟨lit, 0, none⟩ = some (.int .i64 k)) (hn : xs.length ≤ 100000)
    (h : ∀ v' w' ors', OrdIs v' (xs ++ [k]) ors' → Has [] w0 w' (A ++ ors') → wpList Try.prog ops Q rest (a.put o.dst v') w') : wpList Try.prog ops Q (o :: rest) a w := by
  have hnews : ∀ j u, ([Value.int .i64 k] : List Value)[j]? = some u → w.cell? ((⟨lit, 0, none⟩ : Addr).add j) = some u := by
    intro j u hj
    rcases j with _ | j
    · simp only [List.getElem?_cons_zero, Option.some.injEq] at hj
      subst hj
      exact hl
    · simp at hj
  have hone : ∀ u ∈ ([Value.int .i64 k] : List Value), u.oneCell' = true := by intro u hu; simp only [List.mem_singleton] at hu; subst hu; rfl
  rcases hO with ⟨rfl, rfl, rfl⟩ | ⟨b, off, cap, cs, rfl, rfl, g1, g2, g3, g4⟩
  · refine wpList_append_grows (P := Try.prog) w hgd s x _ ho 3 j0 _ 1 8 h1 hj.1 hj.2.1 hj.2.2.1 hj.2.2.2 rfl (by omega) none 0 0 [] hs (fun _ => ⟨rfl, rfl⟩) rfl (fun b hb => by cases hb) _ 1 1 [.int .i64 k] hx rfl hnews hone (by omega) (by unfold maxLen; omega) (by omega) ?_
    intro v' w' hown hg
    obtain ⟨ors', o1, o2⟩ := ord_new (ys := [k]) (A := A) (by simpa using H) (n := 0 + 1) rfl (by simpa [i64s] using hown) hg (by omega)
    exact h _ _ _ o1 o2
  · have HB := H.perm (List.perm_append_singleton _ _)
    have hB := HB.blk
    refine wpList_append_arg (P := Try.prog) w hgd s x _ ho 3 j0 _ 1 8 h1 hj.1 hj.2.1 hj.2.2.1 hj.2.2.2 rfl (by omega) b off xs.length cap (i64s xs) hs (by simp [i64s]) (fun j u hu => ?_) _ 1 1 [.int .i64 k] hx rfl hnews hone (fun hr j hj => ?_) (by unfold maxLen; omega) (by omega) (fun hr => ?_) (fun hr v' w' hown hg => ?_)
    · have hj : j < xs.length := by
        rcases Nat.lt_or_ge j xs.length with h2 | h2
        · exact h2
        · rw [List.getElem?_eq_none (by simpa [i64s] using h2)] at hu; cases hu
      rw [hB.cell, g4 j hj]
      simp only [i64s, List.getElem?_map] at hu
      simp only [List.getElem?_eq_getElem hj, Option.map_some, Option.some.injEq] at hu
      simp [List.getD, hj, ← hu]
    · have : j = 0 := by simpa using hj
      subst this
      exact ⟨by rw [hB.cell, Array.getElem?_eq_getElem (by omega)]; rfl, hB.free _⟩
    · refine h _ _ [.blk b (cs.setIfInBounds (off + xs.length * 1) (.int .i64 k))] (Or.inr ⟨b, off, cap, _, by simp, rfl, by simp; omega, by simp only [Array.size_setIfInBounds]; exact g2, g3, fun j hj => ?_⟩) ?_
      · simp only [List.length_append, List.length_cons, List.length_nil] at hj
        rw [Nat.mul_one, Array.getElem?_setIfInBounds]
        by_cases he : j = xs.length
        · subst he
          rw [if_pos rfl, if_pos (by omega)]
          simp [List.getD]
        · rw [if_neg (by omega), g4 j (by omega)]
          simp only [List.getD, List.getElem?_append_left (show j < xs.length by omega)]
      · exact (HB.set (off + xs.length * 1) (.int .i64 k)).perm (List.perm_append_singleton _ _).symm
    · obtain ⟨ors', o1, o2⟩ := ord_new (ys := xs ++ [k]) (A := A) HB.tail (n := xs.length + 1) (by simp) (by simpa [i64s] using hown) hg (by omega)
      exact h _ _ _ o1 o2

theorem ord_first {v : Value} {x : Int} {r : List Int} {ors : List Res} (hO : OrdIs v (x :: r) ors) : ∃ b off cap, v = .slice (some ⟨b, off, none⟩) (r.length + 1) cap ∧ r.length + 1 ≤ cap ∧ (∀ w0 w A, Has [] w0 w (A ++ ors) → b < w.heap.size ∧ w.cell? ⟨b, off, none⟩ = some (.int .i64 x)) ∧ OrdIs (.slice (if cap = 1 then some ⟨b, off, none⟩ else some ⟨b, off + 1, none⟩) r.length (cap - 1)) r ors := by
  rcases hO with ⟨_, h, _⟩ | ⟨b, off, cap, cs, rfl, rfl, g1, g2, g3, g4⟩
  · cases h
  · simp only [List.length_cons] at g1 g4
    refine ⟨b, off, cap, rfl, g1, fun w0 w A H => ?_, ?_⟩
    · have hB := (H.perm (List.perm_append_singleton _ _)).blk
      exact ⟨hB.lt, by rw [hB.cell]; exact g4 0 (by omega)⟩
    by_cases hc : cap = 1
    · rw [if_pos hc]
      exact Or.inr ⟨b, off, cap - 1, cs, rfl, rfl, by omega, by omega, by omega, fun j hj => by omega⟩
    · rw [if_neg hc]
      refine Or.inr ⟨b, off + 1, cap - 1, cs, rfl, rfl, by omega, by omega, by omega, fun j hj => ?_⟩
      have := g4 (j + 1) (by omega)
      rw [show off + 1 + j = off + (j + 1) by omega, this]
      rfl

theorem gm_notes (st : Int) (s : Rn) (h : s.notes = []) : (gmLine st s).2.notes = [] ∨ ∃ x, (gmLine st s).2.notes = [x] := by
  unfold gmLine
  split
  · left; simp [Rn.woke, h]
  split
  · unfold mxEnter
    (repeat' split) <;> simp [mxE0, mxE1, mxE2, mxE3, mxE4, Rn.did, Rn.goto, Rn.setA, Rn.note, Rn.wake, Rn.waited, h] <;> (repeat' split) <;> simp [Rn.did, Rn.goto, Rn.setA, Rn.note, Rn.wake, Rn.waited, h]
  · unfold mxGive
    (repeat' split) <;> simp [mxG0, mxG1, mxG2, mxG3, Rn.did, Rn.goto, Rn.setA, Rn.noted, Rn.note, Rn.keep, Rn.wake, Rn.waited, h] <;> (repeat' split) <;> simp [Rn.did, Rn.goto, Rn.setA, Rn.noted, Rn.note, Rn.keep, Rn.wake, Rn.waited, h]
theorem gm_fk {s : Rn} (hw : Words s.L) (h : FrOk s.f) (hn : s.notes = []) (st : Int) : FK 1 s (gmLine st s).2 := by
  unfold gmLine
  split
  · exact ⟨⟨rfl, rfl, rfl⟩, h, by simp [Rn.woke]⟩
  split
  · exact mxEnter_fk 0 2 hw h
  · exact mxGive_fk 0 6 [8] hw h
theorem GmHas.touch {w0 w : World} {m a sb sa ta : Nat} {lv : Value} {rs : List Res} {G : Gm} (H : GmHas w0 m a sb sa ta lv rs G w) : Touch [] w0 w := by
  obtain ⟨ts, _, _, H⟩ := H
  exact H.touch
theorem GmHas.words {w0 w : World} {m a sb sa ta : Nat} {lv : Value} {rs : List Res} {G : Gm} (H : GmHas w0 m a sb sa ta lv rs G w) : Words G.M.L ∧ (∀ f, f ∈ G.M.fs → FrOk f) := by
  obtain ⟨ts, F, _, H⟩ := H
  exact ⟨Mem.words H.mem, F.ok⟩
theorem Has.neAt {S0 : List Nat} {w0 w : World} {rs : List Res} (h : Has S0 w0 w rs) (i j : Nat) (hij : i < j) {a b : Nat} {cs ds : Array Value} (hi : rs[i]? = some (.blk a cs)) (hj : rs[j]? = some (.blk b ds)) : a ≠ b := by
  obtain ⟨hi1, hi2⟩ := List.getElem?_eq_some_iff.1 hi
  obtain ⟨hj1, hj2⟩ := List.getElem?_eq_some_iff.1 hj
  have := List.pairwise_iff_getElem.1 h.apart i j hi1 hj1 hij
  rw [hi2, hj2] at this
  rintro rfl
  exact this a (by simp [Res.foot]) (by simp [Res.foot])
theorem own_slice {w : World} {e : TypeId} {size n : Nat} {v : Value} {xs : List Value} (h : w.ownsRow 0 e size v n xs) : ∃ A c, v = .slice A n c := by
  rcases h.2 with ⟨rfl, rfl⟩ | ⟨g, cap, cur, rfl, _⟩
  · exact ⟨_, _, rfl⟩
  · exact ⟨_, _, rfl⟩
theorem own_cells {w : World} {e : TypeId} {size n : Nat} {A : Option Addr} {c : Nat} {xs : List Value} (h : w.ownsRow 0 e size (.slice A n c) n xs) (h0 : 0 < n) : ∃ nb, A = some ⟨nb, 0, none⟩ ∧ nb < w.heap.size ∧ ∀ j u, xs[j]? = some u → w.cell? ⟨nb, j, none⟩ = some u := by
  rcases h.2 with ⟨_, h1⟩ | ⟨g, cap, cur, hv, _, hg, _, _, _, ht⟩
  · omega
  · simp only [Value.slice.injEq] at hv
    obtain ⟨rfl, _, _⟩ := hv
    have hB : Blk w g cur := ⟨_, hg⟩
    refine ⟨g, rfl, hB.lt, fun j u hj => ?_⟩
    rw [hB.cell, ← hj, ← ht, List.getElem?_take, ← Array.getElem?_toList]
    split
    · rfl
    · rename_i hn
      have h1 := h.1
      rw [List.getElem?_eq_none (by omega)] at hj
      cases hj
theorem i64s_set_ (l : List Int) (i : Nat) (v : Int) : (i64s l).toArray.setIfInBounds i (.int .i64 v) = (i64s (l.set i v)).toArray := by
  simp [i64s, List.map_set]
theorem Has.drop34 {S0 : List Nat} {w0 w : World} {x y z u v : Res} {rs : List Res} (h : Has S0 w0 w (x :: y :: z :: u :: v :: rs)) : Has S0 w0 w (x :: y :: z :: rs) :=
  (h.perm ((List.perm_append_comm (l₁ := [x, y, z]) (l₂ := [u, v])).append_right rs)).tail.tail
theorem i64s_same {l : List Int} {k : Nat} {z : Int} (h : l.getD k 0 = z) (hk : k < l.length) : l.set k z = l := by
  subst h
  simp [List.getD, hk]
theorem fold_gm {α β : Type} {a b : α × β} (h : a = b) : a.2 = b.2 := by rw [h]
end Go.Proofs.Ytlndihdlodempaa.Z

/- The mutex's game: its walk. -/
set_option linter.unusedVariables false
set_option linter.unusedSimpArgs false
namespace Go.Proofs.Ytlndihdlodempaa.Z
open Go.RowKit
attribute [local go_sem ↓] Go.wp_at_zero Go.wp_at_succ

theorem perm5_ {α : Type} (t s a m o : α) (R : List α) : (t :: s :: a :: m :: o :: R).Perm (m :: o :: s :: a :: t :: R) :=
  (perm_front (t :: s :: a :: m :: o :: R) 3 (by simp)).trans (List.Perm.cons m ((perm_front (t :: s :: a :: o :: R) 3 (by simp)).trans (List.Perm.cons o (List.perm_middle (l₁ := [s, a]) (l₂ := R) (a := t)).symm)))
theorem ptr_infoG : (Try.prog.info? 36).map (fun i => (i.zero, i.size, i.bytes)) = some (some (.pointer none), 1, 8) := by kernel_rfl
theorem int_infoG : (Try.prog.info? 3).map (fun i => (i.zero, i.size, i.bytes)) = some (some (.int .i64 0), 1, 8) := by kernel_rfl
theorem u8s_at {w : World} {n i : Nat} {A : Option Addr} {L : List Int} (h : Rd w 1 A n (u8s L)) (hi : i < n) :
    ∃ b off, A = some ⟨b, off, none⟩ ∧ b < w.heap.size ∧ w.cell? ⟨b, off + i, none⟩ = some (.int .u8 (L.getD i 0)) := by
  obtain ⟨b, off, hA, hb, hc⟩ := h.lit (by omega) (by omega)
  have hl : i < L.length := by have := h.1; simp [u8s] at this; omega
  exact ⟨b, off, hA, hb, hc _ _ (by simp [u8s, List.getD, hl])⟩

def gameP (n : Nat) (mode : Int) (Z : List Int) (ps : List Int) (j : Nat) : Gm := gameA n mode Z (ps.take j)
theorem gameP_succ (n : Nat) (mode : Int) (Z : List Int) (ps : List Int) (j : Nat) (h : j < ps.length) : gameP n mode Z ps (j + 1) = (gameP n mode Z ps j).pick ((ps.getD j 0 % (n : Int)).toNat) := by
  unfold gameP gameA
  rw [List.take_succ_eq_append_getElem h, List.foldl_append]
  simp [List.getD, h]

def GRel (w0 : World) (m a sb sa ta n : Nat) (mode : Int) (Z ps : List Int) (lv : Value) (ov iv : Value) (j : Nat) (w : World) : Prop :=
  ∃ (G : Gm) (Q : List Nat) (ors : List Res), G = gameP n mode Z ps j ∧ GInv n G Q ∧ iv = .int .i64 G.inside ∧ OrdIs ov G.order ors ∧ GmHas w0 m a sb sa ta lv ors G w ∧ G.order.length ≤ j ∧ G.M.mode = mode ∧ ∀ i, 0 ≤ G.times.getD i 0 ∧ G.times.getD i 0 ≤ j

def GEnd (w0 : World) (n : Nat) (mode : Int) (Z ps : List Int) (e : Ending) (w : World) : Prop :=
  ∃ ta, e = .returned (.tuple #[.slice (some ⟨ta, 0, none⟩) n n, .bool true]) ∧ Blk w ta (i64s (gameA n mode Z ps).times).toArray ∧ Touch [] w0 w ∧ (gameA n mode Z ps).times.length = n

set_option maxHeartbeats 3200000 in
set_option maxRecDepth 100000 in
theorem game_any {w : World} {A : Option Addr} {np cp n : Nat} {ps : List Int} (hr : Rd w 1 A np (u8s ps)) (hps : ∀ x, x ∈ ps → 0 ≤ x ∧ x < 256) (hnp : np ≤ 100000) (h1 : 1 ≤ n) (h2 : n ≤ 64) (mode : Int)
    (hinv : ∀ Z : List Int, Z = own4 0 ++ List.replicate ((8 + 4 * (n : Int)).toNat - 2) 0 → ∃ Q, GInv n (game0 n mode Z) Q) :
    Calls Try.prog 32 #[.int .i64 n, .int .i64 mode, .slice A np cp] w (GEnd w n mode (own4 0 ++ List.replicate ((8 + 4 * (n : Int)).toNat - 2) 0) ps) := by
  have hf := fun W => first4 n 0 W ⟨by omega, by omega⟩ (by decide)
  have hinv := hinv _ rfl
  generalize own4 0 ++ List.replicate ((8 + 4 * (n : Int)).toNat - 2) 0 = Z at hf hinv ⊢
  obtain ⟨i0, hi0, hz0, hz1, hz2⟩ := info_parts ptr_infoG
  have HI := Lib.hid (show _ ∧ _ ∧ _ ∧ _ from ⟨hi0, hz0, hz1, hz2⟩)
  clear hi0 hz0 hz1 hz2
  obtain ⟨j0, hj0, hy0, hy1, hy2⟩ := info_parts int_infoG
  have HJ := Lib.hid (show _ ∧ _ ∧ _ ∧ _ from ⟨hj0, hy0, hy1, hy2⟩)
  clear hj0 hy0 hy1 hy2
  have HF := Lib.hid hf
  have HIN := Lib.hid hinv
  have HRD := Lib.hid hr
  have HPS := Lib.hid hps
  clear hf hinv hr hps
  go_enter Try.func32, Try.ntmps32
  go_wp2_with fail
  refine (HF.out _).mono ?_
  rintro e w1 g1
  obtain ⟨p, g, cap, rfl, H1⟩ := has_newwords (Has.start [] w) g1
  clear g1
  go_wp2_with fail
  refine (fromRow_has H1 rfl).mono ?_
  rintro e w2 ⟨m, a, rfl, H2⟩
  clear H1
  go_wp2_with fail
  have H3 : GBeg w m a n mode Z [] (.slice none 0 0) 0 w2 := ⟨[], rfl, by simp, ((H2.drop1).ownNil 36 1).swap⟩
  have HS2 := Lib.hid H3
  clear H2 H3
  go_loopw [12, 13] (fun tv i wr => ∃ j : Nat, j ≤ n ∧ i = .int .i64 j ∧ ∃ lv, lv = tv ∧ GBeg w m a n mode Z [] lv j wr) (fun _ i _ => n - (intOf i).toNat)
  case atStart => exact ⟨0, Nat.zero_le _, rfl, _, rfl, HS2.out⟩
  case round =>
    obtain ⟨j, hj, rfl, lv, rfl, hR⟩ := hrel
    clear HS2
    by_cases hjk : j < n
    · obtain ⟨ts, hl, hts, hH⟩ := hR
      have HL := Lib.hid hl
      have HTS := Lib.hid hts
      have HR := Lib.hid hH
      have hi1 : (0 : Int) ≤ (j : Int) := Int.natCast_nonneg _
      have hi2 : (j : Int) < (n : Int) := by omega
      clear hl hts hH
      go_wp2_with (at_builtin; refine wpList_from (Facts := fun W => Has [] w W (.blk (wr.heap.size + 1) #[.pointer (some ⟨wr.heap.size, 0, none⟩)] :: .blk wr.heap.size (rcells m ⟨n, mode, j, Fr.zero, Acc.zero, [], Z⟩ (.slice none 0 0)) :: .mem m a Z :: .own 36 1 lv j (ts.map Tk.ptr) :: (tksRes m ts ++ []))) ?_ ((HR.out.new rfl _ _).new (by simp) _ _); intro W HW; refine wpList_append_rd (P := Try.prog) _ rfl (.tmp 44) (.tmp 52) _ rfl 0 36 i0 _ 1 8 Try.underlying110 HI.out.1 HI.out.2.1 HI.out.2.2.1 HI.out.2.2.2 rfl (by omega) lv j (ts.map Tk.ptr) rfl (Has.ownAt HW 3 rfl) (some ⟨wr.heap.size + 1, 0, none⟩) 1 1 [.pointer (some ⟨wr.heap.size, 0, none⟩)] rfl (rd_cells (HW.at_ 0 rfl)) (by simp [Value.oneCell']) (by simp only [maxLen]; omega) (by omega) (by omega) ?_; intro v' w' hown hg hat; have HB := game_more HL.out HTS.out HW hown hg hat; clear hown hg hat HW)
      exact ⟨⟨j + 1, by omega, by go_num, _, rfl, HB⟩, by simp [intOf]; omega⟩
    · have hjk2 : n = j := by omega
      subst hjk2
      have HR := Lib.hid hR
      clear hR hj hjk
      have hi2 : (n : Int) ≤ (n : Int) := Int.le_refl _
      go_wp2_with (first
        | (at_make; have hmark := hown4; refine wpList_make_full _ rfl _ _ 59 rfl 0 3 j0 _ 1 Try.underlying59 HJ.out.1 HJ.out.2.1 HJ.out.2.2.1 _ _ _ _ n rfl rfl rfl rfl (by rw [HJ.out.2.2.2]; omega) (by unfold maxLen; omega) (Nat.zero_le _) ?_; intro w5 hown5 hg5)
        | (at_make; refine wpList_make_full _ rfl _ _ 59 rfl 0 3 j0 _ 1 Try.underlying59 HJ.out.1 HJ.out.2.1 HJ.out.2.2.1 _ _ _ _ n rfl rfl rfl rfl (by rw [HJ.out.2.2.2]; omega) (by unfold maxLen; omega) (Nat.zero_le _) ?_; intro w4 hown4 hg4))
      have hz : (List.replicate n (Value.int .i64 0)).toArray = (i64s (List.replicate n 0)).toArray := by simp [i64s]
      have hB4 := own_full hown4
      rw [Nat.mul_one, show (madeCells (Value.int IntKind.i64 0).cells n).toList = List.replicate n (Value.int .i64 0) from toList_madeCells_one _ n, hz] at hB4
      have hB5 := own_full hown5
      rw [Nat.mul_one, show (madeCells (Value.int IntKind.i64 0).cells n).toList = List.replicate n (Value.int .i64 0) from toList_madeCells_one _ n, hz] at hB5
      obtain ⟨ts, hl, hts, H5⟩ := HR.out
      have H6 := H5.came (.blk wr.heap.size (i64s (List.replicate n 0)).toArray) ((Touch.refl [] wr).grown hg4 (by simp)) (by simp) hB4 (by intro b hb; simp [Res.foot] at hb; omega)
      have H7 := H6.new rfl #[.slice (some ⟨wr.heap.size, 0, none⟩) n n] 59
      have H8 := H7.came (.blk _ (i64s (List.replicate n 0)).toArray) ((Touch.refl [] _).grown hg5 (by simp)) (by simp) hB5 (by intro b hb; simp only [Res.foot, List.mem_singleton] at hb; omega)
      clear hown4 hown5 hg4 hg5 hB4 hB5 hmark H5 H6 H7 HR hz
      have HG0 := gbeg_done h2 ⟨ts, hl, hts, H8.perm (perm5_ _ _ _ _ _ _)⟩
      rw [show (w4.alloc (.cells #[.slice (some ⟨wr.heap.size, 0, none⟩) n n] 59)).heap.size = w4.heap.size + 1 by simp] at HG0
      have HG : GmHas w m a w4.heap.size wr.heap.size (w4.heap.size + 1) lv [] (game0 n mode Z) w5 := HG0
      clear H8 hl hts HG0
      refine wp_from (Facts := fun W => GmHas w m a w4.heap.size wr.heap.size (w4.heap.size + 1) lv [] (game0 n mode Z) W) ?_ HG
      clear HG
      intro W HG
      generalize w4.heap.size = sb at HG ⊢
      generalize wr.heap.size = sa at HG ⊢
      have HV := Lib.hid HG
      clear HG
      go_loopw [16, 17, 18] (fun ov iv i wr => ∃ j : Nat, j ≤ np ∧ i = .int .i64 j ∧ ∃ ov', ov' = ov ∧ GRel w m a sb sa (sb + 1) n mode Z ps lv ov' iv j wr) (fun _ _ i _ => np - (intOf i).toNat)
      case atStart =>
        obtain ⟨Q, hQ⟩ := HIN.out
        exact ⟨0, Nat.zero_le _, rfl, _, rfl, game0 n mode Z, Q, [], rfl, hQ, rfl, Or.inl ⟨rfl, rfl, rfl⟩, HV.out, Nat.le_refl _, rfl, fun i => by have h0 : (game0 n mode Z).times.getD i 0 = 0 := by { show (List.replicate n (0 : Int)).getD i 0 = 0; simp [List.getD, List.getElem?_replicate]; split <;> rfl }; rw [h0]; omega⟩
      case round =>
        obtain ⟨j, hj, rfl, ov, rfl, G, Q, ors, hG, hI, rfl, hO, hW, hlen, hmode, htms⟩ := hrel
        clear HV
        by_cases hjn : j < np
        · have hlps : ps.length = np := by have := HRD.out.1; simp [u8s] at this; omega
          obtain ⟨pb, po, rfl, hpb, hpc⟩ := u8s_at (HRD.out.touch hW.touch (by simp)) hjn
          have hx0 := HPS.out (ps.getD j 0) (by simp [List.getD, hlps, hjn])
          have hsucc := gameP_succ n mode Z ps j (by rw [hlps]; exact hjn)
          rw [← hG] at hsucc
          clear hG
          generalize ps.getD j 0 = x at hpc hx0 hsucc
          obtain ⟨k, hkx⟩ : ∃ k : Nat, x % (n : Int) = (k : Int) := ⟨(x % (n : Int)).toNat, by have := Int.emod_nonneg x (show (n : Int) ≠ 0 by omega); omega⟩
          have hkn : k < n := by have := Int.emod_lt_of_pos x (show (0 : Int) < (n : Int) by omega); omega
          rw [hkx, Int.toNat_natCast] at hsucc
          obtain ⟨hgood, Q', hI'⟩ := gm_keep hI hkn
          rw [← hsucc] at hI'
          obtain ⟨hwords, hfok⟩ := hW.words
          have hfk : FrOk (G.f k) := hfok _ (by have := hI.fsl; unfold Gm.f; simp [List.getD, this, hkn])
          obtain ⟨r, b, off, lcap, rest, s, rfl, e1, e2, e3, e4, e5, hO2, hptr, hback⟩ := hW.opened (i := k) (by rw [hI.fsl]; exact hkn)
          rw [hI.fsl] at hO2 hptr hback
          obtain ⟨t0, t1⟩ := hptr _ _ _ _ _ hO2
          obtain ⟨sn, smode, stask, ⟨o1, line, fa, fb, st, ⟨on, wc, wi, hit⟩, ret⟩, ⟨ak, ac, ax, ay, ao⟩, notes, L⟩ := s
          simp only at e1 e2 e3 e4 e5
          subst e2 e3 e4 e5
          obtain ⟨nv0, hO3⟩ := hO2
          simp only [rcells] at hO3
          obtain ⟨y0, y1, y2⟩ := hO3.blk1.own
          obtain ⟨z0, z1, z2⟩ := (hO3.at_ 3 rfl).own
          obtain ⟨v0, v1, v2⟩ := (hO3.at_ 4 rfl).own
          have u1 : wr.cell? ⟨sa, k, none⟩ = some (.int .i64 (G.M.hold.getD k 0)) := (v1 k).trans (i64s_get (by have := hI.hol; omega))
          have HH := Lib.hid hO3
          have hne1 : r ≠ sa := hO3.neAt 1 4 (by omega) rfl rfl
          have hne2 : sb ≠ sa := hO3.neAt 3 4 (by omega) rfl rfl
          have hne3 : r ≠ sb := hO3.neAt 1 3 (by omega) rfl rfl
          clear v1 hO3 hpb
          have hi1 : (0 : Int) ≤ (j : Int) := Int.natCast_nonneg _
          have hi2 : (j : Int) < (np : Int) := by omega
          have hk1 : (0 : Int) ≤ (k : Int) := Int.natCast_nonneg _
          have hk2 : (k : Int) < (n : Int) := by omega
          have hkz : ((n : Int) == 0) = false := by have : (n : Int) ≠ 0 := by omega
                                                    simpa using this
          rw [hI.fsl] at *
          have hgst : G.st k = G.M.hold.getD k 0 := rfl
          have HBK := Lib.hid hback
          have HI2 := Lib.hid hI
          have HGD := Lib.hid hgood
          have HI3 := Lib.hid hI'
          have HSU := Lib.hid hsucc
          have HO2 := Lib.hid hO
          have HFK := Lib.hid hfk
          have HWD := Lib.hid hwords
          have HE1 := Lib.hid e1
          have HST := Lib.hid hgst
          have HHL := Lib.hid (show G.M.hold.length = n ∧ G.M.n = n ∧ G.times.length = n from ⟨hI.hol, hI.num, hI.tml⟩)
          have HMD := Lib.hid (show G.order.length ≤ j ∧ G.M.mode = mode ∧ ∀ i, 0 ≤ G.times.getD i 0 ∧ G.times.getD i 0 ≤ j from ⟨hlen, hmode, htms⟩)
          clear hback hI hgood hI' hsucc hO hfk hwords hfok e1 hgst hlen hmode htms hW hptr
          generalize G.M.hold.getD k 0 = z at u1 HST
          by_cases hz1 : z = 1
          · subst hz1
            go_wp2_with fail
            have hp : gameP n mode Z ps (j + 1) = ⟨G.M.put k fr6 2 G.M.L, G.times, G.order, -1⟩ := by
              rw [HSU.out]
              unfold Gm.pick
              rw [if_pos HST.out]
            have H1 := HH.out.set4 k (.int .i64 2)
            rw [i64s_set_] at H1
            have H2 := ((((((((((H1.set1 4 (.int .i64 0)).set1 5 (.int .i64 6)).set1 6 (.int .u32 0)).set1 7 (.int .u32 0)).set1 8 (.int .i64 0)).set1 9 (.bool false)).set1 10 (.int .i64 0)).set1 11 (.int .i64 0)).set1 12 (.bool false)).set1 13 (.int .i64 0))
            simp only [List.setIfInBounds_toArray, List.set_cons_zero, List.set_cons_succ] at H2
            have H3 := (H2.new rfl #[.int .i64 k] 3).tail
            clear H1 H2
            have H4 := HBK.out _ (⟨G.M.n, G.M.mode, k, fr6, ⟨ak, ac, ax, ay, ao⟩, notes, G.M.L⟩ : Rn) 2 G.times G.order (-1) ors ⟨nv0, H3⟩ ⟨by simp [fr6], by simp [fr6]⟩ rfl rfl rfl rfl
            exact ⟨⟨j + 1, by omega, by go_num, _, rfl, ⟨G.M.put k fr6 2 G.M.L, G.times, G.order, -1⟩, Q', ors, hp.symm, by rw [← hp]; exact HI3.out, rfl, HO2.out, H4, by have := HMD.out.1; show G.order.length ≤ j + 1; omega, HMD.out.2.1, fun i => by have := HMD.out.2.2 i; show 0 ≤ G.times.getD i 0 ∧ G.times.getD i 0 ≤ ((j + 1 : Nat) : Int); omega⟩, by simp [intOf]; omega⟩
          · have hzb : (z == 1) = false := by simpa using hz1
            have HZ1 := Lib.hid hz1
            clear hz1
            go_wp2_with fail
            have HR0 : RunHas [] w m a r (.blk sb #[.slice (some ⟨sa, 0, none⟩) n n] :: .blk sa (i64s G.M.hold).toArray :: .blk (sb + 1) (i64s G.times).toArray :: (rest ++ ors)) ⟨G.M.n, G.M.mode, k, ⟨o1, line, fa, fb, st, ⟨on, wc, wi, hit⟩, ret⟩, ⟨ak, ac, ax, ay, ao⟩, notes, G.M.L⟩ wr := ⟨nv0, HH.out⟩
            have HR1 := (HR0.box rfl #[.int .i64 k] 3).box (b := wr.heap.size + 1) (by simp) #[.bool false] 4
            have hRs : gmLine (G.M.hold.getD k 0) (⟨G.M.n, G.M.mode, k, ⟨o1, line, fa, fb, st, ⟨on, wc, wi, hit⟩, ret⟩, ⟨ak, ac, ax, ay, ao⟩, notes, G.M.L⟩ : Rn).fresh = G.step k := by
              unfold Gm.step
              rw [← HE1.out]
              rfl
            have hfk2 := gm_fk (s := G.M.run k (G.f k)) HWD.out HFK.out rfl (G.st k)
            have hnt := gm_notes (G.st k) (G.M.run k (G.f k)) rfl
            have hgd := HGD.out
            have hp : gameP n mode Z ps (j + 1) = gmAfter G k (G.step k).1 (G.step k).2 := by
              rw [HSU.out]
              unfold Gm.pick
              rw [if_neg (by rw [HST.out]; exact HZ1.out)]
            unfold Gm.good at hgd
            change FK 1 _ (G.step k).2 at hfk2
            change (G.step k).2.notes = [] ∨ ∃ x, (G.step k).2.notes = [x] at hnt
            have hI64 : I64 G.M.n := by rw [HHL.out.2.1]; unfold I64; omega
            have hcall := gm_step (ta := sb + 1) (times := G.times) HR1 hkn HHL.out.1 h2 hI64 (by have := HFK.out.1; rw [← HE1.out] at this; exact this) hRs
            rw [HST.out] at hgd
            generalize G.step k = R at hfk2 hnt hgd hp hcall
            obtain ⟨bR, s1⟩ := R
            refine hcall.mono ?_
            rintro e w3 ⟨⟨ovb, rfl⟩, nv1, H3⟩
            obtain ⟨n', mode', task', ⟨o2, line2, fa2, fb2, st2, ⟨on2, wc2, wi2, hit2⟩, ret2⟩, ⟨ak2, ac2, ax2, ay2, ao2⟩, notes2, L2⟩ := s1
            obtain ⟨⟨q1, q2, q3⟩, hfr2, _⟩ := hfk2
            simp only [Mt.run] at q1 q2 q3
            subst q1 q2 q3
            unfold gmAfter at hp
            simp only [HST.out] at hp hgd
            simp only at hnt
            obtain ⟨NA, ncap, rfl⟩ := own_slice (H3.ownAt 2 rfl)
            have hno : (notes2 = [] ∧ gmOrder G k ⟨G.M.n, G.M.mode, k, ⟨o2, line2, fa2, fb2, st2, ⟨on2, wc2, wi2, hit2⟩, ret2⟩, ⟨ak2, ac2, ax2, ay2, ao2⟩, notes2, L2⟩ = G.order) ∨ ∃ x, notes2 = [x] ∧ gmOrder G k ⟨G.M.n, G.M.mode, k, ⟨o2, line2, fa2, fb2, st2, ⟨on2, wc2, wi2, hit2⟩, ret2⟩, ⟨ak2, ac2, ax2, ay2, ao2⟩, notes2, L2⟩ = if x.what = 2 then G.order ++ [(k : Int)] else G.order := by
              rcases hnt with h | ⟨x, h⟩
              · refine Or.inl ⟨h, ?_⟩
                unfold gmOrder regs
                rw [h]
                rfl
              · refine Or.inr ⟨x, h, ?_⟩
                unfold gmOrder regs
                rw [h]
                by_cases hw : x.what = 2 <;> simp [hw]
            generalize gmOrder G k ⟨G.M.n, G.M.mode, k, ⟨o2, line2, fa2, fb2, st2, ⟨on2, wc2, wi2, hit2⟩, ret2⟩, ⟨ak2, ac2, ax2, ay2, ao2⟩, notes2, L2⟩ = o' at hno hgd hp
            have HFR := Lib.hid hfr2
            have HNO := Lib.hid hno
            have HGD2 := Lib.hid hgd
            have HP := Lib.hid hp
            clear hfr2 hno hgd hp hnt hcall hRs HR0 HR1 hI64 HH HGD HSU HFK HWD y0 y1 y2 z0 z1 z2 v0 v2 u1 t0 t1 hpc
            generalize wr.heap.size = kb at H3 ⊢
            obtain ⟨y0, y1, y2⟩ := H3.blk1.own
            have HS3 : Hid (Has [] w w3 (.mem m a L2 :: .blk r (rcells m ⟨G.M.n, G.M.mode, k, ⟨o2, line2, fa2, fb2, st2, ⟨on2, wc2, wi2, hit2⟩, ret2⟩, ⟨ak2, ac2, ax2, ay2, ao2⟩, notes2, L2⟩ (.slice NA notes2.length ncap)) :: .own 98 4 (.slice NA notes2.length ncap) notes2.length (nts notes2) :: .blk (kb + 1) #[.bool bR] :: .blk kb #[.int .i64 k] :: .blk sb #[.slice (some ⟨sa, 0, none⟩) n n] :: .blk sa (i64s G.M.hold).toArray :: .blk (sb + 1) (i64s G.times).toArray :: (rest ++ ors))) := Lib.hid H3
            clear H3
            go_wp2_with fail
            go_loopw [16, 22] (fun ov' i W => ∃ (q : Nat) (xs : List Int) (ors' : List Res), q ≤ notes2.length ∧ i = .int .i64 q ∧ xs = (if q = 0 then G.order else o') ∧ ∃ ov2, ov2 = ov' ∧ OrdIs ov2 xs ors' ∧ Has [] w W (.mem m a L2 :: .blk r (rcells m ⟨G.M.n, G.M.mode, k, ⟨o2, line2, fa2, fb2, st2, ⟨on2, wc2, wi2, hit2⟩, ret2⟩, ⟨ak2, ac2, ax2, ay2, ao2⟩, notes2, L2⟩ (.slice NA notes2.length ncap)) :: .own 98 4 (.slice NA notes2.length ncap) notes2.length (nts notes2) :: .blk (kb + 1) #[.bool bR] :: .blk kb #[.int .i64 k] :: .blk sb #[.slice (some ⟨sa, 0, none⟩) n n] :: .blk sa (i64s G.M.hold).toArray :: .blk (sb + 1) (i64s G.times).toArray :: (rest ++ ors'))) (fun _ i _ => notes2.length - (intOf i).toNat)
            case atStart => exact ⟨0, G.order, ors, Nat.zero_le _, rfl, rfl, _, rfl, HO2.out, HS3.out⟩
            case round =>
              obtain ⟨q, xs, ors', hq, rfl, hxs, ov2, rfl, hO5, H5⟩ := hrel
              clear HS3 y0 y1 y2
              have hq1 : (0 : Int) ≤ (q : Int) := Int.natCast_nonneg _
              by_cases hqn : q < notes2.length
              · obtain ⟨x, hx, ho⟩ := (HNO.out).resolve_left (by rintro ⟨h, _⟩; rw [h] at hqn; simp at hqn)
                have hq0 : q = 0 := by rw [hx] at hqn; simp at hqn; exact hqn
                have hl1 : notes2.length = 1 := by rw [hx]; rfl
                obtain ⟨nb, rfl, hnb, hnc⟩ := own_cells (H5.ownAt 2 rfl) (by omega)
                have hnw := hnc 1 (.int .i64 x.what) (by rw [hx]; rfl)
                rw [show 1 = q * 4 + 1 by omega] at hnw
                clear hnc
                rw [if_pos hq0] at hxs
                subst hxs
                have H5b : Hid (Has [] w wr (.mem m a L2 :: .blk r (rcells m ⟨G.M.n, G.M.mode, k, ⟨o2, line2, fa2, fb2, st2, ⟨on2, wc2, wi2, hit2⟩, ret2⟩, ⟨ak2, ac2, ax2, ay2, ao2⟩, notes2, L2⟩ (.slice (some ⟨nb, 0, none⟩) notes2.length ncap)) :: .own 98 4 (.slice (some ⟨nb, 0, none⟩) notes2.length ncap) notes2.length (nts notes2) :: .blk (kb + 1) #[.bool bR] :: .blk kb #[.int .i64 k] :: .blk sb #[.slice (some ⟨sa, 0, none⟩) n n] :: .blk sa (i64s G.M.hold).toArray :: .blk (sb + 1) (i64s G.times).toArray :: (rest ++ ors'))) := Lib.hid H5
                simp only [rcells] at H5
                obtain ⟨y0, y1, y2⟩ := H5.blk1.own
                obtain ⟨k0, k1, k2⟩ := (H5.at_ 4 rfl).own
                have HO5 := Lib.hid hO5
                have HHO := Lib.hid ho
                have HX := Lib.hid (show notes2 = [x] ∧ q = 0 ∧ notes2.length = 1 from ⟨hx, hq0, hl1⟩)
                have hqi : (q : Int) < (notes2.length : Int) := by omega
                have hqb : (q : Int) ≤ 1 := by omega
                clear H5 hO5 ho hx hq0 hl1 hqn
                by_cases hw : x.what = 2
                · rw [hw] at hnw
                  have HW := Lib.hid hw
                  clear hw
                  go_wp2_with (at_builtin; have HA : Has [] w (wr.alloc (.cells #[.int .i64 k] 3)) ((.blk wr.heap.size #[.int .i64 k] :: (.mem m a L2 :: .blk r (rcells m ⟨G.M.n, G.M.mode, k, ⟨o2, line2, fa2, fb2, st2, ⟨on2, wc2, wi2, hit2⟩, ret2⟩, ⟨ak2, ac2, ax2, ay2, ao2⟩, notes2, L2⟩ (.slice (some ⟨nb, 0, none⟩) notes2.length ncap)) :: .own 98 4 (.slice (some ⟨nb, 0, none⟩) notes2.length ncap) notes2.length (nts notes2) :: .blk (kb + 1) #[.bool bR] :: .blk kb #[.int .i64 k] :: .blk sb #[.slice (some ⟨sa, 0, none⟩) n n] :: .blk sa (i64s G.M.hold).toArray :: .blk (sb + 1) (i64s G.times).toArray :: rest)) ++ ors') := H5b.out.new rfl _ _; refine ord_append rfl (.tmp 108) (.tmp 110) rfl j0 Try.underlying59 HJ.out rfl rfl HO5.out HA ((HA.all (.blk wr.heap.size #[.int .i64 k]) (by simp)).cell 0) (by have := HMD.out.1; omega) ?_; clear HA; intro v6 w6 ors6 hO6 H6; have HO6 := Lib.hid hO6; have HS6 := Lib.hid H6; clear hO6 H6)
                  have H7 : Has [] w w6 (.blk wr.heap.size #[.int .i64 k] :: (.mem m a L2 :: .blk r (rcells m ⟨G.M.n, G.M.mode, k, ⟨o2, line2, fa2, fb2, st2, ⟨on2, wc2, wi2, hit2⟩, ret2⟩, ⟨ak2, ac2, ax2, ay2, ao2⟩, notes2, L2⟩ (.slice (some ⟨nb, 0, none⟩) notes2.length ncap)) :: .own 98 4 (.slice (some ⟨nb, 0, none⟩) notes2.length ncap) notes2.length (nts notes2) :: .blk (kb + 1) #[.bool bR] :: .blk kb #[.int .i64 k] :: .blk sb #[.slice (some ⟨sa, 0, none⟩) n n] :: .blk sa (i64s G.M.hold).toArray :: .blk (sb + 1) (i64s G.times).toArray :: (rest ++ ors6))) := HS6.out
                  exact ⟨⟨q + 1, _, ors6, by omega, by go_num, rfl, _, rfl, by rw [if_neg (by omega), HHO.out, if_pos HW.out]; exact HO6.out, H7.tail⟩, by have := HX.out.2; simp [intOf]; omega⟩
                · have hwb : (x.what == 2) = false := by simpa using hw
                  have HWN := Lib.hid hw
                  clear hw
                  go_wp2_with fail
                  exact ⟨⟨q + 1, _, ors', by omega, by go_num, rfl, _, rfl, by rw [if_neg (by omega), HHO.out, if_neg HWN.out]; exact HO5.out, H5b.out⟩, by have := HX.out.2; simp [intOf]; omega⟩
              · have hq2 : q = notes2.length := by omega
                have hxo : xs = o' := by
                  rw [hxs]
                  rcases HNO.out with ⟨h, h'⟩ | ⟨x, h, h'⟩
                  · rw [if_pos (by rw [hq2, h]; rfl)]; exact h'.symm
                  · rw [if_neg (by rw [hq2, h]; simp)]
                rw [hxo] at hO5
                clear hxs hxo hqn
                have hqi : (notes2.length : Int) ≤ (q : Int) := by omega
                have H5b : Hid (Has [] w wr (.mem m a L2 :: .blk r (rcells m ⟨G.M.n, G.M.mode, k, ⟨o2, line2, fa2, fb2, st2, ⟨on2, wc2, wi2, hit2⟩, ret2⟩, ⟨ak2, ac2, ax2, ay2, ao2⟩, notes2, L2⟩ (.slice NA notes2.length ncap)) :: .own 98 4 (.slice NA notes2.length ncap) notes2.length (nts notes2) :: .blk (kb + 1) #[.bool bR] :: .blk kb #[.int .i64 k] :: .blk sb #[.slice (some ⟨sa, 0, none⟩) n n] :: .blk sa (i64s G.M.hold).toArray :: .blk (sb + 1) (i64s G.times).toArray :: (rest ++ ors'))) := Lib.hid H5
                simp only [rcells] at H5
                have hne1 : r ≠ sa := H5.neAt 1 6 (by omega) rfl rfl
                have hne2 : r ≠ sb + 1 := H5.neAt 1 7 (by omega) rfl rfl
                have hne3 : kb + 1 ≠ sa := H5.neAt 3 6 (by omega) rfl rfl
                have hne4 : kb ≠ sa := H5.neAt 4 6 (by omega) rfl rfl
                have hne5 : sb ≠ sa := H5.neAt 5 6 (by omega) rfl rfl
                have hne6 : sa ≠ sb + 1 := H5.neAt 6 7 (by omega) rfl rfl
                have hne7 : kb ≠ sb + 1 := H5.neAt 4 7 (by omega) rfl rfl
                have hne8 : r ≠ kb := H5.neAt 1 4 (by omega) rfl rfl
                have hne9 : r ≠ sb := H5.neAt 1 5 (by omega) rfl rfl
                have hneA : kb + 1 ≠ sb + 1 := H5.neAt 3 7 (by omega) rfl rfl
                have hneB : r ≠ kb + 1 := H5.neAt 1 3 (by omega) rfl rfl
                obtain ⟨y0, y1, y2⟩ := H5.blk1.own
                obtain ⟨g0, g1, g2⟩ := (H5.at_ 3 rfl).own
                obtain ⟨k0, k1, k2⟩ := (H5.at_ 4 rfl).own
                obtain ⟨z0, z1, z2⟩ := (H5.at_ 5 rfl).own
                obtain ⟨v0, v1, v2⟩ := (H5.at_ 6 rfl).own
                obtain ⟨x0, x1, x2⟩ := (H5.at_ 7 rfl).own
                have u1 : wr.cell? ⟨sa, k, none⟩ = some (.int .i64 (G.M.hold.getD k 0)) := (v1 k).trans (i64s_get (by have := HHL.out.1; omega))
                have u2 : wr.cell? ⟨sb + 1, k, none⟩ = some (.int .i64 (G.times.getD k 0)) := (x1 k).trans (i64s_get (by have := HHL.out.2.2; omega))
                have hzz : G.M.hold.getD k 0 = z := HST.out
                rw [hzz] at u1
                have htb := HMD.out.2.2 k
                have HO5 := Lib.hid hO5
                clear v1 x1 H5 hO5 hzz
                generalize htv : G.times.getD k 0 = tv at u2 htb
                have htb1 := htb.1
                have htb2 : tv ≤ 100000 := by omega
                have HTV := Lib.hid htv
                clear htv
                have hol : o'.length ≤ j + 1 := by
                  have := HMD.out.1
                  rcases HNO.out with ⟨_, h⟩ | ⟨x, _, h⟩
                  · rw [h]; omega
                  · rw [h]
                    split
                    · simp; omega
                    · omega
                have HOL := Lib.hid hol
                clear hol
                by_cases hz0 : z = 0
                · cases bR with
                  | true =>
                    obtain ⟨hin, or', hor⟩ := HGD2.out HZ1.out rfl hz0
                    subst hz0
                    have hO7 := HO5.out
                    rw [hor] at hO7
                    obtain ⟨ob, oo, oc, rfl, hoc, hof, hO8⟩ := ord_first hO7
                    obtain ⟨f0, f1⟩ := hof _ _ (.mem m a L2 :: .blk r (rcells m ⟨G.M.n, G.M.mode, k, ⟨o2, line2, fa2, fb2, st2, ⟨on2, wc2, wi2, hit2⟩, ret2⟩, ⟨ak2, ac2, ax2, ay2, ao2⟩, notes2, L2⟩ (.slice NA notes2.length ncap)) :: .own 98 4 (.slice NA notes2.length ncap) notes2.length (nts notes2) :: .blk (kb + 1) #[.bool true] :: .blk kb #[.int .i64 k] :: .blk sb #[.slice (some ⟨sa, 0, none⟩) n n] :: .blk sa (i64s G.M.hold).toArray :: .blk (sb + 1) (i64s G.times).toArray :: rest) H5b.out
                    have HO8 := Lib.hid hO8
                    have HOR := Lib.hid hor
                    clear hof hO8 hO7 hor HO5
                    rw [hin]
                    go_wp2_with fail
                    have g1d : wr.drew.cell? ⟨kb + 1, 0, none⟩ = some (.bool true) := g1 0
                    have k1d : wr.drew.cell? ⟨kb, 0, none⟩ = some (.int .i64 k) := k1 0
                    have f1d : wr.drew.cell? ⟨ob, oo, none⟩ = some (.int .i64 k) := f1
                    refine region_flat (by kernel_rfl) (by kernel_rfl) ?_
                    simp only [probed, probes, List.nil_append]
                    go_wp2_with fail
                    rw [only_normal]
                    (first | (rename_i hK; refine hK _ _ ?_; clear hK) | (rename_i hK hX; refine hK _ _ ?_; clear hK) | (rename_i hK hX hY; refine hK _ _ ?_; clear hK))
                    go_wp2_with fail
                    have hp2 : gameP n mode Z ps (j + 1) = ⟨G.M.put k Fr.zero 1 L2, G.times.set k (tv + 1), or', k⟩ := by
                      rw [HP.out, if_pos ⟨trivial, trivial⟩, HOR.out, HTV.out]
                      rfl
                    have H6 := H5b.out.drop34
                    simp only [rcells] at H6
                    replace H6 := H6.set4 k (.int .i64 1)
                    rw [i64s_set_] at H6
                    replace H6 := H6.set5 k (.int .i64 (tv + 1))
                    rw [i64s_set_] at H6
                    replace H6 := ((((((((((H6.set1 4 (.int .i64 0)).set1 5 (.int .i64 0)).set1 6 (.int .u32 0)).set1 7 (.int .u32 0)).set1 8 (.int .i64 0)).set1 9 (.bool false)).set1 10 (.int .i64 0)).set1 11 (.int .i64 0)).set1 12 (.bool false)).set1 13 (.int .i64 0)).drew
                    simp only [List.setIfInBounds_toArray, List.set_cons_zero, List.set_cons_succ] at H6
                    have H9 := HBK.out _ (⟨G.M.n, G.M.mode, k, Fr.zero, ⟨ak2, ac2, ax2, ay2, ao2⟩, notes2, L2⟩ : Rn) (1) (G.times.set k (tv + 1)) (or') (k) ors' ⟨_, H6⟩ ⟨by simp [Fr.zero], by simp [Fr.zero]⟩ rfl rfl rfl (by simp)
                    exact ⟨⟨j + 1, by omega, by go_num, _, rfl, ⟨G.M.put k Fr.zero 1 L2, G.times.set k (tv + 1), or', k⟩, Q', ors', hp2.symm, by rw [← hp2]; exact HI3.out, rfl, HO8.out, H9, (by have h0 := HOL.out; rw [HOR.out] at h0; simp only [List.length_cons] at h0; show or'.length ≤ j + 1; omega), HMD.out.2.1, fun i => by show 0 ≤ (G.times.set k (tv + 1)).getD i 0 ∧ (G.times.set k (tv + 1)).getD i 0 ≤ ((j + 1 : Nat) : Int); rw [getDsetG (by rw [HHL.out.2.2]; exact hkn)]; have h0 := HMD.out.2.2 i; split <;> omega⟩, by simp [intOf]; omega⟩
                  | false =>
                    subst hz0
                    go_wp2_with fail
                    have hp2 : gameP n mode Z ps (j + 1) = ⟨G.M.put k ⟨o2, line2, fa2, fb2, st2, ⟨on2, wc2, wi2, hit2⟩, ret2⟩ 0 L2, G.times, o', G.inside⟩ := by
                      rw [HP.out, if_neg (by simp), if_neg (by simp)]
                      rfl
                    have H6 := H5b.out.drop34
                    rw [← i64s_same HST.out (by rw [HHL.out.1]; exact hkn)] at H6
                    have H9 := HBK.out _ (⟨G.M.n, G.M.mode, k, ⟨o2, line2, fa2, fb2, st2, ⟨on2, wc2, wi2, hit2⟩, ret2⟩, ⟨ak2, ac2, ax2, ay2, ao2⟩, notes2, L2⟩ : Rn) (0) (G.times) (o') (G.inside) ors' ⟨_, H6⟩ HFR.out rfl rfl rfl rfl
                    exact ⟨⟨j + 1, by omega, by go_num, _, rfl, ⟨G.M.put k ⟨o2, line2, fa2, fb2, st2, ⟨on2, wc2, wi2, hit2⟩, ret2⟩ 0 L2, G.times, o', G.inside⟩, Q', ors', hp2.symm, by rw [← hp2]; exact HI3.out, rfl, HO5.out, H9, HOL.out, HMD.out.2.1, fun i => by have := HMD.out.2.2 i; show 0 ≤ G.times.getD i 0 ∧ G.times.getD i 0 ≤ ((j + 1 : Nat) : Int); omega⟩, by simp [intOf]; omega⟩
                · have hzc : (z == 0) = false := by simpa using hz0
                  have HZ0 := Lib.hid hz0
                  clear hz0
                  cases bR with
                  | true =>
                    cases on2 with
                    | true =>
                      go_wp2_with fail
                      have hp2 : gameP n mode Z ps (j + 1) = ⟨G.M.put k ⟨o2, line2, fa2, fb2, st2, ⟨true, wc2, wi2, hit2⟩, ret2⟩ 3 L2, G.times, o', G.inside⟩ := by
                        rw [HP.out, if_neg (by simp [HZ0.out]), if_neg (by simp)]
                        rfl
                      have H6 := H5b.out.drop34
                      replace H6 := H6.set4 k (.int .i64 3)
                      rw [i64s_set_] at H6
                      have H9 := HBK.out _ (⟨G.M.n, G.M.mode, k, ⟨o2, line2, fa2, fb2, st2, ⟨true, wc2, wi2, hit2⟩, ret2⟩, ⟨ak2, ac2, ax2, ay2, ao2⟩, notes2, L2⟩ : Rn) (3) (G.times) (o') (G.inside) ors' ⟨_, H6⟩ HFR.out rfl rfl rfl rfl
                      exact ⟨⟨j + 1, by omega, by go_num, _, rfl, ⟨G.M.put k ⟨o2, line2, fa2, fb2, st2, ⟨true, wc2, wi2, hit2⟩, ret2⟩ 3 L2, G.times, o', G.inside⟩, Q', ors', hp2.symm, by rw [← hp2]; exact HI3.out, rfl, HO5.out, H9, HOL.out, HMD.out.2.1, fun i => by have := HMD.out.2.2 i; show 0 ≤ G.times.getD i 0 ∧ G.times.getD i 0 ≤ ((j + 1 : Nat) : Int); omega⟩, by simp [intOf]; omega⟩
                    | false =>
                      go_wp2_with fail
                      have hp2 : gameP n mode Z ps (j + 1) = ⟨G.M.put k Fr.zero 0 L2, G.times, o', G.inside⟩ := by
                        rw [HP.out, if_neg (by simp [HZ0.out]), if_pos (by simp)]
                      have H6 := H5b.out.drop34
                      simp only [rcells] at H6
                      replace H6 := H6.set4 k (.int .i64 3)
                      rw [i64s_set_] at H6
                      replace H6 := H6.set4 k (.int .i64 0)
                      rw [i64s_set_] at H6
                      rw [List.set_set] at H6
                      replace H6 := ((((((((((H6.set1 4 (.int .i64 0)).set1 5 (.int .i64 0)).set1 6 (.int .u32 0)).set1 7 (.int .u32 0)).set1 8 (.int .i64 0)).set1 9 (.bool false)).set1 10 (.int .i64 0)).set1 11 (.int .i64 0)).set1 12 (.bool false)).set1 13 (.int .i64 0))
                      simp only [List.setIfInBounds_toArray, List.set_cons_zero, List.set_cons_succ] at H6
                      have H9 := HBK.out _ (⟨G.M.n, G.M.mode, k, Fr.zero, ⟨ak2, ac2, ax2, ay2, ao2⟩, notes2, L2⟩ : Rn) (0) (G.times) (o') (G.inside) ors' ⟨_, H6⟩ ⟨by simp [Fr.zero], by simp [Fr.zero]⟩ rfl rfl rfl rfl
                      exact ⟨⟨j + 1, by omega, by go_num, _, rfl, ⟨G.M.put k Fr.zero 0 L2, G.times, o', G.inside⟩, Q', ors', hp2.symm, by rw [← hp2]; exact HI3.out, rfl, HO5.out, H9, HOL.out, HMD.out.2.1, fun i => by have := HMD.out.2.2 i; show 0 ≤ G.times.getD i 0 ∧ G.times.getD i 0 ≤ ((j + 1 : Nat) : Int); omega⟩, by simp [intOf]; omega⟩
                  | false =>
                    by_cases hz3 : z = 3
                    · subst hz3
                      cases on2 with
                      | true =>
                        go_wp2_with fail
                        have hp2 : gameP n mode Z ps (j + 1) = ⟨G.M.put k ⟨o2, line2, fa2, fb2, st2, ⟨true, wc2, wi2, hit2⟩, ret2⟩ 3 L2, G.times, o', G.inside⟩ := by
                          rw [HP.out, if_neg (by simp), if_neg (by simp)]
                          rfl
                        have H6 := H5b.out.drop34
                        rw [← i64s_same HST.out (by rw [HHL.out.1]; exact hkn)] at H6
                        have H9 := HBK.out _ (⟨G.M.n, G.M.mode, k, ⟨o2, line2, fa2, fb2, st2, ⟨true, wc2, wi2, hit2⟩, ret2⟩, ⟨ak2, ac2, ax2, ay2, ao2⟩, notes2, L2⟩ : Rn) (3) (G.times) (o') (G.inside) ors' ⟨_, H6⟩ HFR.out rfl rfl rfl rfl
                        exact ⟨⟨j + 1, by omega, by go_num, _, rfl, ⟨G.M.put k ⟨o2, line2, fa2, fb2, st2, ⟨true, wc2, wi2, hit2⟩, ret2⟩ 3 L2, G.times, o', G.inside⟩, Q', ors', hp2.symm, by rw [← hp2]; exact HI3.out, rfl, HO5.out, H9, HOL.out, HMD.out.2.1, fun i => by have := HMD.out.2.2 i; show 0 ≤ G.times.getD i 0 ∧ G.times.getD i 0 ≤ ((j + 1 : Nat) : Int); omega⟩, by simp [intOf]; omega⟩
                      | false =>
                        go_wp2_with fail
                        have hp2 : gameP n mode Z ps (j + 1) = ⟨G.M.put k Fr.zero 0 L2, G.times, o', G.inside⟩ := by
                          rw [HP.out, if_neg (by simp), if_pos (by simp)]
                        have H6 := H5b.out.drop34
                        simp only [rcells] at H6
                        replace H6 := H6.set4 k (.int .i64 0)
                        rw [i64s_set_] at H6
                        replace H6 := ((((((((((H6.set1 4 (.int .i64 0)).set1 5 (.int .i64 0)).set1 6 (.int .u32 0)).set1 7 (.int .u32 0)).set1 8 (.int .i64 0)).set1 9 (.bool false)).set1 10 (.int .i64 0)).set1 11 (.int .i64 0)).set1 12 (.bool false)).set1 13 (.int .i64 0))
                        simp only [List.setIfInBounds_toArray, List.set_cons_zero, List.set_cons_succ] at H6
                        have H9 := HBK.out _ (⟨G.M.n, G.M.mode, k, Fr.zero, ⟨ak2, ac2, ax2, ay2, ao2⟩, notes2, L2⟩ : Rn) (0) (G.times) (o') (G.inside) ors' ⟨_, H6⟩ ⟨by simp [Fr.zero], by simp [Fr.zero]⟩ rfl rfl rfl rfl
                        exact ⟨⟨j + 1, by omega, by go_num, _, rfl, ⟨G.M.put k Fr.zero 0 L2, G.times, o', G.inside⟩, Q', ors', hp2.symm, by rw [← hp2]; exact HI3.out, rfl, HO5.out, H9, HOL.out, HMD.out.2.1, fun i => by have := HMD.out.2.2 i; show 0 ≤ G.times.getD i 0 ∧ G.times.getD i 0 ≤ ((j + 1 : Nat) : Int); omega⟩, by simp [intOf]; omega⟩
                    · have hzd : (z == 3) = false := by simpa using hz3
                      have HZ3 := Lib.hid hz3
                      clear hz3
                      go_wp2_with fail
                      have hp2 : gameP n mode Z ps (j + 1) = ⟨G.M.put k ⟨o2, line2, fa2, fb2, st2, ⟨on2, wc2, wi2, hit2⟩, ret2⟩ z L2, G.times, o', G.inside⟩ := by
                        rw [HP.out, if_neg (by simp), if_neg (by simp [HZ3.out])]
                        rfl
                      have H6 := H5b.out.drop34
                      rw [← i64s_same HST.out (by rw [HHL.out.1]; exact hkn)] at H6
                      have H9 := HBK.out _ (⟨G.M.n, G.M.mode, k, ⟨o2, line2, fa2, fb2, st2, ⟨on2, wc2, wi2, hit2⟩, ret2⟩, ⟨ak2, ac2, ax2, ay2, ao2⟩, notes2, L2⟩ : Rn) (z) (G.times) (o') (G.inside) ors' ⟨_, H6⟩ HFR.out rfl rfl rfl rfl
                      exact ⟨⟨j + 1, by omega, by go_num, _, rfl, ⟨G.M.put k ⟨o2, line2, fa2, fb2, st2, ⟨on2, wc2, wi2, hit2⟩, ret2⟩ z L2, G.times, o', G.inside⟩, Q', ors', hp2.symm, by rw [← hp2]; exact HI3.out, rfl, HO5.out, H9, HOL.out, HMD.out.2.1, fun i => by have := HMD.out.2.2 i; show 0 ≤ G.times.getD i 0 ∧ G.times.getD i 0 ≤ ((j + 1 : Nat) : Int); omega⟩, by simp [intOf]; omega⟩
        · have hjn2 : j = np := by omega
          have hi2 : (np : Int) ≤ (j : Int) := by omega
          have HW := Lib.hid hW
          clear hW
          go_wp2_with fail
          refine bodyPost_ret (results_tmp2 rfl _ _ _) rfl ?_
          obtain ⟨ts, F, ht, H⟩ := HW.out
          have hlps : ps.length = np := by have := HRD.out.1; simp [u8s] at this; omega
          have hGA : gameA n mode Z ps = G := by
            rw [hG]
            unfold gameP
            rw [List.take_of_length_le (by omega)]
          refine ⟨sb + 1, rfl, ?_, H.touch, ?_⟩
          · rw [hGA]; exact H.at_ 4 rfl
          · rw [hGA]; exact hI.tml
end Go.Proofs.Ytlndihdlodempaa.Z

/- The mutex's game in rounds: its picks; a round more never takes away. -/
set_option linter.unusedVariables false
set_option linter.unusedSimpArgs false
namespace Go.Proofs.Ytlndihdlodempaa.Z
open Go.RowKit

def fairX (k r rd i : Nat) : Int := (((i * (1 + r % 3) + rd * r + i / 2) % k : Nat) : Int)
def fairRow (k r rd : Nat) : List Int := (List.range k).map (fairX k r rd) ++ (List.range k).map (fun i : Nat => (i : Int))
def fairN (k r R : Nat) : List Int := (List.range R).flatMap (fairRow k r)
def stepG (k : Nat) (G : Gm) (x : Int) : Gm := G.pick ((x % (k : Int)).toNat)
def enoughG (G : Gm) : Bool := G.times.all (fun t => decide (2 ≤ t))
def reachG (k r : Nat) : Nat → Nat → Gm → Bool
  | 0, _, G => enoughG G
  | f + 1, rd, G => if enoughG G then true else reachG k r f (rd + 1) ((fairRow k r rd).foldl (stepG k) G)
def runG (k r : Nat) : Nat → Nat → Gm → Gm
  | 0, _, G => G
  | f + 1, rd, G => runG k r f (rd + 1) ((fairRow k r rd).foldl (stepG k) G)
def beginG (k : Nat) (mode : Int) : Gm := game0 k mode (List.replicate (8 + 4 * k) 0)

theorem fairN_succ (k r R : Nat) : fairN k r (R + 1) = fairN k r R ++ fairRow k r R := by simp [fairN, List.range_succ]
theorem runG_is (k r : Nat) : ∀ (f rd : Nat) (G : Gm), (fairN k r (rd + f)).foldl (stepG k) G = runG k r f rd ((fairN k r rd).foldl (stepG k) G)
  | 0, rd, G => rfl
  | f + 1, rd, G => by
    show _ = runG k r f (rd + 1) ((fairRow k r rd).foldl (stepG k) ((fairN k r rd).foldl (stepG k) G))
    rw [← List.foldl_append, ← fairN_succ, ← runG_is k r f (rd + 1), show rd + 1 + f = rd + (f + 1) by omega]

theorem pick_more (G : Gm) (k : Nat) (h : enoughG G = true) : enoughG (G.pick k) = true := by
  have hs : ∀ v : Int, 2 ≤ v → (G.times.set k v).all (fun t => decide (2 ≤ t)) = true := fun v hv => by
    rw [List.all_eq_true]
    intro x hx
    rcases List.mem_or_eq_of_mem_set hx with h1 | rfl
    · exact List.all_eq_true.1 h x h1
    · simpa using hv
  unfold Gm.pick
  split
  · exact h
  unfold gmAfter
  split
  · show (G.times.set k (G.times.getD k 0 + 1)).all _ = true
    by_cases hk : k < G.times.length
    · refine hs _ ?_
      have := List.all_eq_true.1 h (G.times.getD k 0) (by simp [List.getD, hk])
      simp only [decide_eq_true_eq] at this
      omega
    · rw [List.set_eq_of_length_le (by omega)]
      exact h
  (repeat' split) <;> exact h
theorem fold_more (k : Nat) : ∀ (l : List Int) (G : Gm), enoughG G = true → enoughG (l.foldl (stepG k) G) = true
  | [], _, h => h
  | x :: l, G, h => fold_more k l _ (pick_more G _ h)
theorem run_more (k r : Nat) : ∀ (f rd : Nat) (G : Gm), enoughG G = true → enoughG (runG k r f rd G) = true
  | 0, _, _, h => h
  | f + 1, rd, G, h => run_more k r f (rd + 1) _ (fold_more k _ G h)
theorem reach_run (k r : Nat) : ∀ (f rd : Nat) (G : Gm), reachG k r f rd G = true → enoughG (runG k r f rd G) = true
  | 0, _, _, h => h
  | f + 1, rd, G, h => by
    unfold reachG at h
    split at h
    · rename_i h1
      exact run_more k r (f + 1) rd G h1
    · exact reach_run k r f (rd + 1) _ h

/-- The turn counts as far as its remainder does. -/
theorem fairX_mod (k t rd i : Nat) : fairX k t rd i = fairX k (t % (3 * k)) rd i := by
  unfold fairX
  have h3 : t % (3 * k) % 3 = t % 3 := Nat.mod_mod_of_dvd t (Nat.dvd_mul_right 3 k)
  have hk : t % (3 * k) % k = t % k := Nat.mod_mod_of_dvd t (Nat.dvd_mul_left k 3)
  rw [h3]
  have hB : rd * t % k = rd * (t % (3 * k)) % k := (Nat.mul_mod rd t k).trans (by rw [← hk]; exact (Nat.mul_mod rd (t % (3 * k)) k).symm)
  have hAB : (i * (1 + t % 3) + rd * t) % k = (i * (1 + t % 3) + rd * (t % (3 * k))) % k := by rw [Nat.add_mod (i * (1 + t % 3)) (rd * t), hB, ← Nat.add_mod (i * (1 + t % 3)) (rd * (t % (3 * k)))]
  congr 1
  rw [Nat.add_mod (i * (1 + t % 3) + rd * t) (i / 2), hAB, ← Nat.add_mod (i * (1 + t % 3) + rd * (t % (3 * k))) (i / 2)]
theorem fairN_mod (k t R : Nat) : fairN k t R = fairN k (t % (3 * k)) R := by
  have : fairRow k t = fairRow k (t % (3 * k)) := by
    funext rd
    unfold fairRow
    rw [show fairX k t rd = fairX k (t % (3 * k)) rd from funext (fairX_mod k t rd)]
  unfold fairN
  rw [this]

def Rn.md (s : Rn) (b : Int) : Rn := { s with mode := b }
def Gm.md (G : Gm) (b : Int) : Gm := { G with M := { G.M with mode := b } }
theorem beginA_md {a b : Int} (ha : a ≠ 2) (hb : b ≠ 2) (c : Int) : beginA b c = beginA a c := by unfold beginA; rw [if_neg ha, if_neg hb]
theorem stageA_md {a b : Int} (ha : a ≠ 2) (hb : b ≠ 2) (c : Int) : stageA b c = stageA a c := by unfold stageA; rw [if_neg (fun h => hb h.1), if_neg (fun h => ha h.1)]
theorem waitA_md {a b : Int} (ha : a ≠ 2) (hb : b ≠ 2) (L : List Int) (n t st c : Int) (p : Int → Bool) : waitA L n b t st c p = waitA L n a t st c p := by
  unfold waitA
  rw [stageA_md ha hb, if_neg ha, if_neg hb]
def Pm (b : Int) (p : Bool × Rn) : Bool × Rn := (p.1, p.2.md b)
theorem ite_pm {c : Prop} [Decidable c] (b : Int) (A B : Bool × Rn) : Pm b (if c then A else B) = if c then Pm b A else Pm b B := by split <;> rfl
theorem ite_rmd {c : Prop} [Decidable c] (b : Int) (A B : Rn) : (if c then A else B).md b = if c then A.md b else B.md b := by split <;> rfl
theorem ite_gmd {c : Prop} [Decidable c] (b : Int) (A B : Gm) : (if c then A else B).md b = if c then A.md b else B.md b := by split <;> rfl
section
variable {b : Int} {s : Rn}
theorem wake_md (ha : s.mode ≠ 2) (hb : b ≠ 2) (c : Int) : (s.md b).wake c = (s.wake c).md b := by
  show ({ s.md b with f := { s.f with wk := beginA b c } } : Rn) = ({ s with f := { s.f with wk := beginA s.mode c } } : Rn).md b
  rw [beginA_md ha hb]
  rfl
theorem keep_md (W : WaitR) : (s.md b).keep W = (s.keep W).md b := by unfold Rn.keep; split <;> rfl
theorem e2_md : mxE2 0 2 (s.md b) = Pm b (mxE2 0 2 s) := by unfold mxE2; dsimp only; rw [ite_pm]; rfl
theorem e3_md (ha : s.mode ≠ 2) (hb : b ≠ 2) : mxE3 (s.md b) = (mxE3 s).md b := by
  show (((s.did (doA s.L ⟨2, cellP s.n 0 (s.f.a - 1), mxOwn s, 0, 0⟩)).md b).wake (cellP s.n 0 (s.f.a - 1))).goto 4 = _
  rw [wake_md (by exact ha) hb]
  rfl
theorem e4_md (ha : s.mode ≠ 2) (hb : b ≠ 2) : mxE4 (s.md b) = Pm b (mxE4 s) := by
  show ((waitA s.L s.n b s.task s.f.st (cellP s.n 1 s.task) (fun v => v == 0)).done, (s.md b).waited (waitA s.L s.n b s.task s.f.st (cellP s.n 1 s.task) (fun v => v == 0))) = _
  rw [waitA_md ha hb]
  rfl
theorem enter_md (ha : s.mode ≠ 2) (hb : b ≠ 2) : mxEnter 0 2 (s.md b) = Pm b (mxEnter 0 2 s) := by
  unfold mxEnter
  simp only [ite_pm]
  rw [e2_md, e3_md ha hb, e4_md ha hb]
  rfl
theorem g0_md : mxG0 6 (s.md b) = (mxG0 6 s).md b := by unfold mxG0; dsimp only; rw [ite_rmd]; rfl
theorem g1_md : mxG1 0 6 [8] (s.md b) = Pm b (mxG1 0 6 [8] s) := by unfold mxG1; rw [ite_pm]; rfl
theorem g2_md (ha : s.mode ≠ 2) (hb : b ≠ 2) : mxG2 6 (s.md b) = (mxG2 6 s).md b := by
  have e := waitA_md ha hb s.L s.n s.task s.f.st (cellP s.n 0 s.task) (fun v => v != 0)
  show (if (waitA s.L s.n b s.task s.f.st (cellP s.n 0 s.task) (fun v => v != 0)).done = true then (((s.md b).keep (waitA s.L s.n b s.task s.f.st (cellP s.n 0 s.task) (fun v => v != 0))).waited (waitA s.L s.n b s.task s.f.st (cellP s.n 0 s.task) (fun v => v != 0))).goto (6 + 3) else ((s.md b).keep (waitA s.L s.n b s.task s.f.st (cellP s.n 0 s.task) (fun v => v != 0))).waited (waitA s.L s.n b s.task s.f.st (cellP s.n 0 s.task) (fun v => v != 0))) = _
  rw [e, keep_md]
  unfold mxG2
  dsimp only
  rw [ite_rmd]
  rfl
theorem g3_md (ha : s.mode ≠ 2) (hb : b ≠ 2) : mxG3 [8] (s.md b) = (mxG3 [8] s).md b := by
  show (((s.did (doA s.L ⟨2, cellP s.n 1 (s.f.a - 1), 0, 0, 0⟩)).noted [8]).md b).wake (cellP s.n 1 (s.f.a - 1)) = _
  rw [wake_md (by exact ha) hb]
  rfl
theorem give_md (ha : s.mode ≠ 2) (hb : b ≠ 2) : mxGive 0 6 [8] (s.md b) = Pm b (mxGive 0 6 [8] s) := by
  unfold mxGive
  simp only [ite_pm]
  rw [g0_md, g1_md, g2_md ha hb, g3_md ha hb]
  rfl
theorem line_md (ha : s.mode ≠ 2) (hb : b ≠ 2) (st : Int) : gmLine st (s.md b) = Pm b (gmLine st s) := by
  unfold gmLine
  simp only [ite_pm]
  rw [enter_md ha hb, give_md ha hb]
  rfl
end
theorem pick_mode (G : Gm) (k : Nat) : (G.pick k).M.mode = G.M.mode := by
  unfold Gm.pick
  split
  · rfl
  unfold gmAfter
  (repeat' split) <;> rfl
theorem after_md (G : Gm) (b : Int) (k : Nat) (p : Bool × Rn) : gmAfter (G.md b) k (Pm b p).1 (Pm b p).2 = (gmAfter G k p.1 p.2).md b := by
  unfold gmAfter
  rw [ite_gmd, ite_gmd]
  rfl
theorem pick_md {a b : Int} (ha : a ≠ 2) (hb : b ≠ 2) (G : Gm) (hG : G.M.mode = a) (k : Nat) : (G.md b).pick k = (G.pick k).md b ∧ (G.pick k).M.mode = a := by
  refine ⟨?_, (pick_mode G k).trans hG⟩
  have hs : (G.md b).step k = Pm b (G.step k) := line_md (s := G.M.run k (G.f k)) (by show G.M.mode ≠ 2; rw [hG]; exact ha) hb (G.st k)
  unfold Gm.pick
  rw [ite_gmd, hs, after_md]
  rfl
theorem fold_md {a b : Int} (ha : a ≠ 2) (hb : b ≠ 2) (k : Nat) : ∀ (l : List Int) (G : Gm), G.M.mode = a → l.foldl (stepG k) (G.md b) = (l.foldl (stepG k) G).md b
  | [], _, _ => rfl
  | x :: l, G, hG => by
    obtain ⟨h1, h2⟩ := pick_md ha hb G hG ((x % (k : Int)).toNat)
    show l.foldl (stepG k) (stepG k (G.md b) x) = _
    unfold stepG at *
    rw [h1]
    exact fold_md ha hb k l _ h2

/-- OFTEN ENOUGH, for every mode, if for the parked one and one other. -/
theorem fair_all {k : Nat} (h0 : ∀ r, r < 3 * k → reachG k r (60 * k) 0 (beginG k 0) = true) (h2 : ∀ r, r < 3 * k → reachG k r (60 * k) 0 (beginG k 2) = true) (h1 : 1 ≤ k) (t : Nat) (mode : Int) :
    enoughG ((fairN k t (60 * k)).foldl (stepG k) (beginG k mode)) = true := by
  have hr : t % (3 * k) < 3 * k := Nat.mod_lt _ (by omega)
  have key : ∀ m, (∀ r, r < 3 * k → reachG k r (60 * k) 0 (beginG k m) = true) → enoughG ((fairN k t (60 * k)).foldl (stepG k) (beginG k m)) = true := fun m hm => by
    have h := reach_run k _ _ _ _ (hm _ hr)
    have e := runG_is k (t % (3 * k)) (60 * k) 0 (beginG k m)
    rw [Nat.zero_add] at e
    rw [fairN_mod, e]
    exact h
  by_cases hm : mode = 2
  · subst hm
    exact key 2 h2
  · have e : beginG k mode = (beginG k 0).md mode := rfl
    rw [e, fold_md (a := 0) (by decide) hm k _ _ rfl]
    exact key 0 h0
end Go.Proofs.Ytlndihdlodempaa.Z

/- Law 12: the statement MutexPlay, whatever the input. -/
set_option linter.unusedVariables false
set_option linter.unusedSimpArgs false
namespace Go.Proofs.Ytlndihdlodempaa.Z
open Go.RowKit

theorem zeroZ (n : Nat) (h1 : 1 ≤ n) : own4 0 ++ List.replicate ((8 + 4 * (n : Int)).toNat - 2) 0 = List.replicate (8 + 4 * n) 0 := by
  rw [show (8 + 4 * (n : Int)).toNat - 2 = 8 + 4 * n - 2 by omega]
  show [0, 0] ++ _ = _
  rw [show ([0, 0] : List Int) = List.replicate 2 0 from rfl, List.replicate_append_replicate]
  congr 1
  omega
theorem zero_getD (k i : Nat) : (List.replicate k (0 : Int)).getD i 0 = 0 := by
  simp only [List.getD, List.getElem?_replicate]
  split <;> rfl
theorem gm_start (n : Nat) (h1 : 1 ≤ n) (h2 : n ≤ 64) (mode : Int) (Z : List Int) (hZ : Z = own4 0 ++ List.replicate ((8 + 4 * (n : Int)).toNat - 2) 0) : ∃ Q, GInv n (game0 n mode Z) Q := by
  rw [zeroZ n h1] at hZ
  subst hZ
  have hm : ∀ j, mainOf n (List.replicate (8 + 4 * n) 0) j = 0 := fun j => by
    unfold mainOf
    split
    · exact zero_getD _ _
    · rfl
  have hst : ∀ j, (game0 n mode (List.replicate (8 + 4 * n) 0)).st j = 0 := fun j => zero_getD _ _
  have hf : ∀ j, (game0 n mode (List.replicate (8 + 4 * n) 0)).f j = Fr.zero := fun j => by
    show (List.replicate n Fr.zero).getD j Fr.zero = Fr.zero
    simp only [List.getD, List.getElem?_replicate]
    split <;> rfl
  have hmk : ∀ j, mkG ((game0 n mode (List.replicate (8 + 4 * n) 0)).st j) ((game0 n mode (List.replicate (8 + 4 * n) 0)).f j) = .out := fun j => by rw [hst, hf]; rfl
  refine ⟨[], rfl, h1, h2, by simp [game0, Mt.start], by simp [game0, Mt.start], by simp [game0], by simp [game0, Mt.start], fun j hj => ?_, ?_, ?_, Or.inl ⟨rfl, fun j hj => by rw [hst]; decide⟩⟩
  · rw [hst, hf]
    exact ⟨Or.inl ⟨rfl, by decide, by decide⟩, (fun h => by cases h), fun _ => rfl, (fun _ h => by cases h), (fun h => by cases h)⟩
  · refine ⟨List.nodup_nil, fun x hx => by simp at hx, fun i hi => ?_, hm 0, trivial, trivial, fun i hi => ?_⟩
    · rw [hmk]; simp [Mk.inq]
    · rw [hmk]
      exact ⟨(fun h => by rcases h with h | h <;> cases h), (fun h => by cases h)⟩
  · exact ⟨(fun x r h => by cases h), fun _ => rfl⟩

theorem u8s_flatMap (L : List Int) : (L.flatMap fun x => [Value.int .u8 x]) = u8s L := by
  unfold u8s
  induction L with
  | nil => rfl
  | cons x l ih => rw [List.flatMap_cons, ih]; rfl

set_option maxHeartbeats 1600000 in
/-- WHATEVER THE INPUT. -/
theorem mutexPlay_any {A : Option Addr} {np cp : Nat} {ps : List Int} (w : World) (hr : Rd w 1 A np (ps.flatMap fun x => [Value.int .u8 x])) (hps : ∀ x, x ∈ ps → 0 ≤ x ∧ x < 256) (n mode : Int) (hn : 0 ≤ n ∧ n < 256) :
    Calls Try.prog 5 #[.int .u8 n, .int .i64 mode, .slice A np cp] w fun e w' => e = .returned (.bool true) ∧ Touch [] w w' := by
  rw [u8s_flatMap] at hr
  by_cases h6 : 600 < np
  · have h6' : (600 : Int) < (np : Int) := by omega
    go_enter Try.func5, Try.ntmps5
    go_wp2_with fail
    refine (mx_awake w).mono ?_
    rintro e w9 ⟨rfl, t9⟩
    go_wp2_with fail
    go_ret
    exact ⟨rfl, t9⟩
  · have h6' : ¬ (600 : Int) < (np : Int) := by omega
    obtain ⟨k, hk⟩ : ∃ k : Nat, 1 + n % 8 = (k : Int) := ⟨(1 + n % 8).toNat, by omega⟩
    have hg := game_any (cp := cp) hr hps (by omega) (n := k) (by omega) (by omega) mode (gm_start k (by omega) (by omega) mode)
    generalize own4 0 ++ List.replicate ((8 + 4 * (k : Int)).toNat - 2) 0 = Z at hg
    have HG := Lib.hid hg
    have HK := Lib.hid hk
    clear hg hk
    go_enter Try.func5, Try.ntmps5
    go_wp2_with fail
    rw [HK.out]
    refine HG.out.mono ?_
    rintro e w1 ⟨ta, rfl, _, t1, _⟩
    go_wp2_with fail
    refine (mx_awake w1).mono ?_
    rintro e w9 ⟨rfl, t9⟩
    go_wp2_with fail
    go_ret
    exact ⟨rfl, t1.trans t9⟩
end Go.Proofs.Ytlndihdlodempaa.Z

/- Law 12: the statement MutexFair, whatever the input: its walk. -/
set_option linter.unusedVariables false
set_option linter.unusedSimpArgs false
namespace Go.Proofs.Ytlndihdlodempaa.Z
open Go.RowKit
attribute [local go_sem ↓] Go.wp_at_zero Go.wp_at_succ

theorem fairRow_len (k t rd : Nat) : (fairRow k t rd).length = 2 * k := by simp [fairRow]; omega
theorem fairN_len (k t : Nat) : ∀ R, (fairN k t R).length = R * (2 * k)
  | 0 => by simp [fairN]
  | R + 1 => by rw [fairN_succ, List.length_append, fairN_len k t R, fairRow_len, Nat.add_mul]; omega
theorem fairX_range (k t rd i : Nat) (h1 : 1 ≤ k) (h8 : k ≤ 8) : 0 ≤ fairX k t rd i ∧ fairX k t rd i < 8 := by
  unfold fairX
  have := Nat.mod_lt (i * (1 + t % 3) + rd * t + i / 2) (show 0 < k by omega)
  omega
theorem fairN_range (k t R : Nat) (h1 : 1 ≤ k) (h8 : k ≤ 8) : ∀ x, x ∈ fairN k t R → 0 ≤ x ∧ x < 256 := by
  intro x hx
  obtain ⟨rd, _, hx⟩ := List.mem_flatMap.1 hx
  rcases List.mem_append.1 hx with h | h
  · obtain ⟨i, _, rfl⟩ := List.mem_map.1 h
    have := fairX_range k t rd i h1 h8
    omega
  · obtain ⟨i, hi, rfl⟩ := List.mem_map.1 h
    have := List.mem_range.1 hi
    omega
theorem rd_own {w : World} {e : TypeId} {size n : Nat} {A : Option Addr} {c : Nat} {xs : List Value} (h : w.ownsRow 0 e size (.slice A n c) n xs) : Rd w size A n xs :=
  ⟨h.1, fun hn => by
    obtain ⟨nb, rfl, h1, h2⟩ := own_cells h hn
    exact ⟨_, rfl, h1, fun j u hj => by rw [Addr.add_lit, Nat.zero_add]; exact h2 j u hj⟩⟩
theorem u8_infoG : (Try.prog.info? 5).map (fun i => (i.zero, i.size, i.bytes)) = some (some (.int .u8 0), 1, 1) := by kernel_rfl

/-- The picks so far. -/
def FHas (w : World) (v : Value) (ps : List Int) (W : World) : Prop := Has [] w W [.own 5 1 v ps.length (u8s ps)]
theorem FHas.more {w W w' : World} {v v' : Value} {ps : List Int} {x : Int} {c0 : Array Value} {t0 : TypeId} (H : FHas w v ps W) (hown : w'.ownsRow 0 5 1 v' (ps.length + 1) (u8s ps ++ [.int .u8 x])) (hg : (W.alloc (.cells c0 t0)).grownBy w' v.ownBlock)
    (hat : v'.ownBlock = v.ownBlock ∨ v'.ownBlock = some (W.alloc (.cells c0 t0)).heap.size) : FHas w v' (ps ++ [x]) w' := by
  have H1 : Has [] w (W.alloc (.cells c0 t0)) (.blk W.heap.size c0 :: [.own 5 1 v ps.length (u8s ps)]) := Has.new1 H
  have H2 := Has.grown H1.swap hown hg hat
  have H3 : Has [] w w' [.own 5 1 v' (ps.length + 1) (u8s ps ++ [.int .u8 x])] := H2.swap.tail
  unfold FHas
  rw [show (ps ++ [x]).length = ps.length + 1 by simp, show u8s (ps ++ [x]) = u8s ps ++ [.int .u8 x] by simp [u8s]]
  exact H3

set_option maxHeartbeats 3200000 in
set_option maxRecDepth 100000 in
theorem mutexFair_walk (w : World) (n mode : Int) (t k : Nat) (hk : 1 + n % 8 = (k : Int)) (hn : 0 ≤ n ∧ n < 256) (ht : t < 256)
    (hpure : enoughG ((fairN k t (60 * k)).foldl (stepG k) (beginG k mode)) = true) :
    Calls Try.prog 6 #[.int .u8 n, .int .i64 mode, .int .u8 t] w fun e w' => e = .returned (.bool true) ∧ Touch [] w w' := by
  have hk1 : 1 ≤ k := by omega
  have hk8 : k ≤ 8 := by omega
  obtain ⟨j0, hj0, hy0, hy1, hy2⟩ := info_parts u8_infoG
  have HU := Lib.hid (show _ ∧ _ ∧ _ ∧ _ from ⟨hj0, hy0, hy1, hy2⟩)
  have HP := Lib.hid hpure
  have HK := Lib.hid hk
  have H0 : FHas w (.slice none 0 0) [] w := (Has.start [] w).ownNil 5 1
  have HS := Lib.hid H0
  have HN := Lib.hid hn
  have ht1 : (0 : Int) ≤ (t : Int) := Int.natCast_nonneg _
  have ht2 : (t : Int) < 256 := by omega
  have hq1 : (1 : Int) ≤ (k : Int) := by omega
  have hq2 : (k : Int) ≤ 8 := by omega
  have hkz : ((k : Int) == 0) = false := by have : (k : Int) ≠ 0 := by omega
                                            simpa using this
  clear hj0 hy0 hy1 hy2 hpure hk H0
  go_enter Try.func6, Try.ntmps6
  go_wp2_with fail
  rw [HK.out]
  go_loopw [8, 9] (fun pv i W => ∃ rd : Nat, rd ≤ 60 * k ∧ i = .int .i64 rd ∧ ∃ lv, lv = pv ∧ FHas w lv (fairN k t rd) W) (fun _ i _ => 60 * k - (intOf i).toNat)
  case atStart => exact ⟨0, Nat.zero_le _, rfl, _, rfl, HS.out⟩
  case round =>
    obtain ⟨rd, hrd, rfl, lv, rfl, hR⟩ := hrel
    clear HS
    have hr1 : (0 : Int) ≤ (rd : Int) := Int.natCast_nonneg _
    have HR := Lib.hid hR
    clear hR
    by_cases hrk : rd < 60 * k
    · have hr2 : (rd : Int) < 60 * (k : Int) := by omega
      have hlenN : (fairN k t rd).length ≤ 7680 := by
        rw [fairN_len]
        exact Nat.le_trans (Nat.mul_le_mul (show rd ≤ 480 by omega) (show 2 * k ≤ 16 by omega)) (by omega)
      go_wp2_with fail
      go_loopw [8, 10] (fun pv i W => ∃ j : Nat, j ≤ k ∧ i = .int .i64 j ∧ ∃ lv, lv = pv ∧ FHas w lv (fairN k t rd ++ (List.range j).map (fairX k t rd)) W) (fun _ i _ => k - (intOf i).toNat)
      case atStart => exact ⟨0, Nat.zero_le _, rfl, _, rfl, by simpa using HR.out⟩
      case round =>
        obtain ⟨j, hj, rfl, lv1, rfl, hR1⟩ := hrel
        clear HR
        have HR1 := Lib.hid hR1
        clear hR1
        have hj1 : (0 : Int) ≤ (j : Int) := Int.natCast_nonneg _
        by_cases hjk : j < k
        · have hj2 : (j : Int) < (k : Int) := by omega
          have hlen : (fairN k t rd ++ (List.range j).map (fairX k t rd)).length ≤ 7700 := by simp only [List.length_append, List.length_map, List.length_range]; omega
          have hXE : fairX k t rd j = (((j * (1 + t % 3) + rd * t + j / 2) % k : Nat) : Int) := rfl
          have b1 : j * (1 + t % 3) ≤ 24 := Nat.le_trans (Nat.mul_le_mul (show j ≤ 8 by omega) (show 1 + t % 3 ≤ 3 by omega)) (by omega)
          have b2 : rd * t ≤ 122400 := Nat.le_trans (Nat.mul_le_mul (show rd ≤ 480 by omega) (show t ≤ 255 by omega)) (by omega)
          have m1 : (j : Int) * (1 + (t : Int) % 3) = ((j * (1 + t % 3) : Nat) : Int) := by push_cast; rfl
          have m2 : (rd : Int) * (t : Int) = ((rd * t : Nat) : Int) := by push_cast; rfl
          generalize j * (1 + t % 3) = A at hXE b1 m1
          generalize rd * t = B at hXE b2 m2
          have m3 : ((A : Int) + (B : Int) + (j : Int) / 2) % (k : Int) = (((A + B + j / 2) % k : Nat) : Int) := by push_cast; rfl
          have b3 : (A + B + j / 2) % k < 8 := by have := Nat.mod_lt (A + B + j / 2) (show 0 < k by omega); omega
          generalize (A + B + j / 2) % k = X at hXE m3 b3
          have c1 : (0 : Int) ≤ (A : Int) := Int.natCast_nonneg _
          have c2 : (A : Int) ≤ 24 := by omega
          have c3 : (0 : Int) ≤ (B : Int) := Int.natCast_nonneg _
          have c4 : (B : Int) ≤ 122400 := by omega
          have c5 : (0 : Int) ≤ (X : Int) := Int.natCast_nonneg _
          have c6 : (X : Int) < 8 := by omega
          have HXE := Lib.hid hXE
          clear hXE b1 b2 b3
          go_wp2_with (at_builtin; refine wpList_append_rd (P := Try.prog) _ rfl (.tmp 30) (.tmp 48) _ rfl 0 5 j0 _ 1 1 Try.underlying68 HU.out.1 HU.out.2.1 HU.out.2.2.1 HU.out.2.2.2 rfl (by omega) _ _ _ rfl (Has.ownAt (Has.new1 HR1.out) 1 rfl) (some ⟨wr.heap.size, 0, none⟩) 1 1 [.int .u8 X] rfl (rd_cells (Blk.new _ _ _)) (by simp [Value.oneCell']) (by unfold maxLen; have := hlen; omega) (by have := hlen; omega) (by omega) ?_; intro v' w' hown hg hat; have HB := FHas.more HR1.out hown hg hat; clear hown hg hat)
          exact ⟨⟨j + 1, by omega, by go_num, _, rfl, by rw [List.range_succ, List.map_append, ← List.append_assoc]; show FHas w _ (_ ++ [fairX k t rd j]) _; rw [HXE.out]; exact HB⟩, by simp [intOf]; omega⟩
        · have hjk2 : j = k := by omega
          have hj2 : (k : Int) ≤ (j : Int) := by omega
          have HJK := Lib.hid hjk2
          clear hjk2
          go_wp2_with fail
          go_loopw [8, 11] (fun pv i W => ∃ j : Nat, j ≤ k ∧ i = .int .i64 j ∧ ∃ lv, lv = pv ∧ FHas w lv (fairN k t rd ++ (List.range k).map (fairX k t rd) ++ (List.range j).map (fun i : Nat => (i : Int))) W) (fun _ i _ => k - (intOf i).toNat)
          case atStart => exact ⟨0, Nat.zero_le _, rfl, _, rfl, by have h := HR1.out; rw [HJK.out] at h; simpa using h⟩
          case round =>
            obtain ⟨i, hi, rfl, lv2, rfl, hR2⟩ := hrel
            clear HR1
            have HR2 := Lib.hid hR2
            clear hR2
            have hi1 : (0 : Int) ≤ (i : Int) := Int.natCast_nonneg _
            by_cases hik : i < k
            · have hi2 : (i : Int) < (k : Int) := by omega
              have hlen : (fairN k t rd ++ (List.range k).map (fairX k t rd) ++ (List.range i).map (fun i : Nat => (i : Int))).length ≤ 7710 := by simp only [List.length_append, List.length_map, List.length_range]; omega
              go_wp2_with (at_builtin; refine wpList_append_rd (P := Try.prog) _ rfl (.tmp 55) (.tmp 58) _ rfl 0 5 j0 _ 1 1 Try.underlying68 HU.out.1 HU.out.2.1 HU.out.2.2.1 HU.out.2.2.2 rfl (by omega) _ _ _ rfl (Has.ownAt (Has.new1 HR2.out) 1 rfl) (some ⟨wr.heap.size, 0, none⟩) 1 1 [.int .u8 i] rfl (rd_cells (Blk.new _ _ _)) (by simp [Value.oneCell']) (by unfold maxLen; have := hlen; omega) (by have := hlen; omega) (by omega) ?_; intro v' w' hown hg hat; have HB := FHas.more HR2.out hown hg hat; clear hown hg hat)
              exact ⟨⟨i + 1, by omega, by go_num, _, rfl, by rw [List.range_succ, List.map_append, ← List.append_assoc]; exact HB⟩, by simp [intOf]; omega⟩
            · have hik2 : i = k := by omega
              have hi2 : (k : Int) ≤ (i : Int) := by omega
              have HIK := Lib.hid hik2
              clear hik2
              go_wp2_with fail
              exact ⟨⟨rd + 1, by omega, by go_num, _, rfl, by have h := HR2.out; rw [HIK.out] at h; rw [fairN_succ]; unfold fairRow; rw [← List.append_assoc]; exact h⟩, by simp [intOf]; omega⟩
    · have hrd2 : rd = 60 * k := by omega
      have hr2 : 60 * (k : Int) ≤ (rd : Int) := by omega
      have hH := HR.out
      clear HR
      have hown : wr.ownsRow 0 5 1 lv _ (u8s (fairN k t rd)) := Has.ownAt hH 0 rfl
      obtain ⟨A, c, rfl⟩ := own_slice hown
      have HT := Lib.hid (show Touch [] w wr from hH.touch)
      have hrd3 := rd_own hown
      clear hH hown
      have hgame := game_any (cp := c) hrd3 (fairN_range k t rd hk1 hk8) (by rw [fairN_len]; exact Nat.le_trans (Nat.mul_le_mul (show rd ≤ 480 by omega) (show 2 * k ≤ 16 by omega)) (by omega)) (n := k) hk1 (by omega) mode (gm_start k hk1 (by omega) mode)
      rw [zeroZ k hk1] at hgame
      have hen0 : enoughG (gameA k mode (List.replicate (8 + 4 * k) 0) (fairN k t rd)) = true := by rw [hrd2]; exact HP.out
      generalize (fairN k t rd).length = np at hgame ⊢
      generalize List.replicate (8 + 4 * k) (0 : Int) = Z at hgame hen0
      generalize fairN k t rd = ps at hgame hen0
      have HEN := Lib.hid hen0
      clear hen0
      have HG := Lib.hid hgame
      clear hrd3 hgame
      go_wp2_with fail
      refine HG.out.mono ?_
      rintro e w1 ⟨ta, rfl, hta, t1, htl⟩
      have hen := HEN.out
      clear HEN
      generalize gameA k mode Z ps = GE at hta htl hen
      have hge : ∀ j, j < k → 2 ≤ GE.times.getD j 0 := fun j hj => by
        have := List.all_eq_true.1 hen (GE.times.getD j 0) (by simp [List.getD, htl, hj])
        simpa using this
      obtain ⟨x0, x1, x2⟩ := hta.own
      have HGE := Lib.hid hge
      have HX := Lib.hid x1
      have HTL := Lib.hid htl
      have HT1 := Lib.hid t1
      clear HG hen hge x1 x2 htl t1 hta
      go_wp2_with fail
      go_loopw [14] (fun i W => W = w1 ∧ ∃ j : Nat, j ≤ k ∧ i = .int .i64 j) (fun i _ => k - (intOf i).toNat)
      case atStart => exact ⟨rfl, 0, Nat.zero_le _, rfl⟩
      case round =>
        obtain ⟨rfl, j, hj, rfl⟩ := hrel
        have hj1 : (0 : Int) ≤ (j : Int) := Int.natCast_nonneg _
        by_cases hjk : j < k
        · have hj2 : (j : Int) < (k : Int) := by omega
          have y1 := (HX.out j).trans (i64s_get (show j < GE.times.length by rw [HTL.out]; exact hjk))
          have hg2 := HGE.out j hjk
          have hg3 : ¬ GE.times.getD j 0 < 2 := by omega
          generalize GE.times.getD j 0 = tv at y1 hg2 hg3
          go_wp2_with fail
          exact ⟨⟨trivial, j + 1, by omega, by go_num⟩, by simp [intOf]; omega⟩
        · have hj2 : (k : Int) ≤ (j : Int) := by omega
          go_wp2_with fail
          refine (mx_awake _).mono ?_
          rintro e w9 ⟨rfl, t9⟩
          go_wp2_with fail
          go_ret
          exact ⟨rfl, (HT.out.trans HT1.out).trans t9⟩
end Go.Proofs.Ytlndihdlodempaa.Z
