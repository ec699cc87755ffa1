/- A function's end, where boxes were made in whatever order; append at a step of a region that draws its order. No program is in sight. -/
import Derived.Test.YtlndihdlodempaaZHas2
import Derived.Test.YtlndihdlodempaaZRead
import Derived.Deep.AppendLies
import Derived.Deep.RegionLaw
set_option linter.unusedVariables false
set_option linter.unusedSimpArgs false
namespace Go.Proofs.Ytlndihdlodempaa.Z
open Go Go.RowKit

/-- The second thing is a block that has turned; the boxes behind it are left. -/
theorem Has.fin {S0 : List Nat} {w0 w w' : World} {y : Res} {x : Nat} {cs cs' : Array Value} (ys : List Res) {rs : List Res} (h : Has S0 w0 w (y :: .blk x cs :: (ys ++ rs))) (t : Touch (x :: foots ys) w w') (hb : Blk w' x cs') :
    Has S0 w0 w' (y :: .blk x cs' :: rs) := by
  have h1 : Has S0 w0 w ((.blk x cs :: ys) ++ (y :: rs)) := h.perm ((List.Perm.swap _ _ _).trans (List.Perm.cons _ List.perm_middle.symm))
  have h2 := Has.upd (xs := .blk x cs :: ys) (rs := y :: rs) [.blk x cs'] (S := x :: foots ys) h1 t (fun k hk => Or.inl (by simpa [foots, Res.foot] using hk)) (by intro r hr; simp only [List.mem_singleton] at hr; subst hr; exact hb) (by simp) (by simp [foots, Res.foot])
  exact h2.swap

/-- A new empty slice that is owned, first. -/
theorem Has.ownNew {S0 : List Nat} {w0 w : World} {rs : List Res} (h : Has S0 w0 w rs) {b : Nat} (hb : w.heap.size = b) (e size : Nat) : Has S0 w0 (w.alloc (.cells #[] e)) (.own e size (.slice (some ⟨b, 0, none⟩) 0 0) 0 [] :: rs) := by
  subst hb
  refine Has.upd (xs := []) (rs := rs) [.own e size (.slice (some ⟨w.heap.size, 0, none⟩) 0 0) 0 []] (S := []) h ((Touch.refl [] w).alloc _) (by simp) ?_ (by simp) ?_
  · intro r hr
    simp only [List.mem_singleton] at hr
    subst hr
    refine ⟨by simp, .inr ⟨w.heap.size, 0, #[], rfl, Nat.zero_le _, ?_, Nat.le_refl _, by decide, by simp, by simp⟩⟩
    show (w.heap.push _)[w.heap.size]? = _
    simp
  · intro r hr k hk
    simp only [List.mem_singleton] at hr
    subst hr
    simp only [Res.foot, Value.ownBlock, Option.toList, List.mem_singleton] at hk
    exact Or.inr (by omega)

theorem Blk.setNe2 {w : World} {b : Nat} {cs : Array Value} {p : Addr} {v : Value} (hne : b ≠ p.block) (h : Blk w b cs) : Blk (w.setCell p v) b cs := h.setNe hne v

/-- A note was appended: the run's block tells of the new slice. -/
theorem Has.noteEnd {S0 : List Nat} {w0 w : World} {o n r d : Res} {x : Nat} {cs : Array Value} {rs : List Res} (h : Has S0 w0 w (o :: n :: r :: .blk x cs :: d :: rs)) (i : Nat) (v : Value) :
    Has S0 w0 (w.setCell ⟨x, i, none⟩ v) (r :: .blk x (cs.setIfInBounds i v) :: o :: rs) := by
  have h1 := h.set3 i v
  have h2 : Has S0 w0 (w.setCell ⟨x, i, none⟩ v) (o :: n :: r :: .blk x (cs.setIfInBounds i v) :: rs) := (h1.perm (perm_front _ 4 (by simp))).tail
  have h3 : Has S0 w0 (w.setCell ⟨x, i, none⟩ v) (o :: r :: .blk x (cs.setIfInBounds i v) :: rs) := h2.drop1
  exact h3.swap.perm (List.Perm.cons _ (List.Perm.swap _ _ _))

theorem Has.own0 {S0 : List Nat} {w0 w : World} {e size n : Nat} {v : Value} {xs : List Value} {rs : List Res} (h : Has S0 w0 w (.own e size v n xs :: rs)) : w.ownsRow 0 e size v n xs := h.all (.own e size v n xs) (by simp)
theorem Has.ownAt {S0 : List Nat} {w0 w : World} {e size n : Nat} {v : Value} {xs : List Value} {rs : List Res} (h : Has S0 w0 w rs) (i : Nat) (hi : rs[i]? = some (.own e size v n xs)) : w.ownsRow 0 e size v n xs := h.all _ (List.mem_of_getElem? hi)

section
variable {P : Program} {w : World}
theorem wp_append_rd {o : Oper} {a : Act} {K : Act → World → Prop} {Q : Exit → Act → World → Prop} (s x : Operand) (t : TypeId)
    (ho : o.op = .call { callee := .builtin .append, args := #[s, x], argTypes := #[t, t] })
    (base : Nat) (e : TypeId) (i : TypeInfo) (z : Value) (size bytes : Nat) (ht : P.underlying t = some (.slice e)) (hi : P.info? e = some i) (hz : i.zero = some z)
    (hsize : i.size = size) (hby : i.bytes = bytes) (hzs : z.cells.size = size) (hsz : 0 < size)
    (v : Value) (n : Nat) (xs : List Value) (hs : a.eval s = v) (hown : w.ownsRow base e size v n xs)
    (A : Option Addr) (m c : Nat) (news : List Value) (hx : a.eval x = .slice A m c) (hr : Rd w size A m news) (h1 : ∀ u ∈ news, u.oneCell' = true)
    (h63 : n + m ≤ maxLen) (hbytes : (n + m) * bytes ≤ 140737488355328) (hbase : base ≤ w.heap.size)
    (h : ∀ v' w', w'.ownsRow base e size v' (n + m) (xs ++ news) → w.grownBy w' v.ownBlock → (v'.ownBlock = v.ownBlock ∨ v'.ownBlock = some w.heap.size) → K (a.put o.dst v') w') : Oper.wp P o a w K Q := by
  obtain ⟨v', w', hrun, h2, h3, h4⟩ := run_append_rd (P := P) w base t o.type e i z size bytes ht hi hz hsize hby hzs hsz v n xs hown A m c news hr h1 h63 hbytes hbase
  unfold Oper.wp execOp
  simp only [ho, resolve, invoke, builtin, Sem.run_bind, Sem.run_pure, Result.andThen_ok, List.map_toArray, List.map_cons, List.map_nil, hs, hx, hrun]
  exact h v' w' h2 h3 h4

theorem step_append_rd {ops : Array Oper} {o : Oper} {a : Act} {K : Act → World → Prop} {Q : Exit → Act → World → Prop} {E : Prop} (hgd : o.guard = none) (s x : Operand) (t : TypeId)
    (ho : o.op = .call { callee := .builtin .append, args := #[s, x], argTypes := #[t, t] })
    (base : Nat) (e : TypeId) (i : TypeInfo) (z : Value) (size bytes : Nat) (ht : P.underlying t = some (.slice e)) (hi : P.info? e = some i) (hz : i.zero = some z)
    (hsize : i.size = size) (hby : i.bytes = bytes) (hzs : z.cells.size = size) (hsz : 0 < size)
    (v : Value) (n : Nat) (xs : List Value) (hs : a.eval s = v) (hown : w.ownsRow base e size v n xs)
    (A : Option Addr) (m c : Nat) (news : List Value) (hx : a.eval x = .slice A m c) (hr : Rd w size A m news) (h1 : ∀ u ∈ news, u.oneCell' = true)
    (h63 : n + m ≤ maxLen) (hbytes : (n + m) * bytes ≤ 140737488355328) (hbase : base ≤ w.heap.size)
    (h : ∀ v' w', w'.ownsRow base e size v' (n + m) (xs ++ news) → w.grownBy w' v.ownBlock → (v'.ownBlock = v.ownBlock ∨ v'.ownBlock = some w.heap.size) → K (a.put o.dst v') w') :
    if Region.wanted o (yielded ops a.tmps) = true then Oper.wp P o a w K Q else E := by
  have hw : Region.wanted o (yielded ops a.tmps) = true := by simp [Region.wanted, hgd]
  rw [if_pos hw]
  exact wp_append_rd s x t ho base e i z size bytes ht hi hz hsize hby hzs hsz v n xs hs hown A m c news hx hr h1 h63 hbytes hbase h
end

end Go.Proofs.Ytlndihdlodempaa.Z
