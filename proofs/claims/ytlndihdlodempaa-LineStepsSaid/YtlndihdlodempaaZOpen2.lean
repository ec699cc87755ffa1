/- Arguments opened: slices of slices. No statement is in sight. -/
import Derived.Test.YtlndihdlodempaaZOpen
set_option linter.unusedVariables false
set_option linter.unusedSimpArgs false
namespace Go.Proofs.Ytlndihdlodempaa.Z
open Go.RowKit Go.ChangeShapes Go.WideShapes Go.ChangeAt Go.Deep

/-- A slice's value opened, whatever its elements: what reads as an element has the form 'dec'. -/
theorem open_core {P : Program} {H : Type} {enc : TypeId × Value → H} {w : World} {t e : TypeId} {α : Type} {dec : α → List Value} {ok : α → Prop} {size : Nat} {spare : Nat → Bool} {held : Bool} {fuel : Nat} {cs : List Value} {x : DataW H × List MemPlace}
    (ht : P.underlying t = some (.slice e)) (hF : ∀ (fuel : Nat) (cs : List Value) (x : DataW H × List MemPlace), DataW.trod enc P w 0 spare held fuel e cs = some x → ∃ a, ok a ∧ cs = dec a) (hC : P.cellsOf e = size) (hs : 0 < size) (hlen : ∀ a, (dec a).length = size)
    (hf : DataW.trod enc P w 0 spare held fuel t cs = some x) :
    ∃ (A : Option Addr) (n c : Nat) (l : List α), cs = [.slice A n c] ∧ l.length = n ∧ (∀ a, a ∈ l → ok a) ∧ Rd w size A n (l.flatMap dec) ∧ n ≤ c ∧ c ≤ 9223372036854775807 := by
  rcases open_slice ht hf with ⟨rfl, _⟩ | ⟨a, n, c, m, n', D, Pl, rfl, hb, hl, hm, hmm, hx, hi⟩
  · exact ⟨none, 0, 0, [], rfl, rfl, by simp, Rd.nil _ _ _, Nat.le_refl _, by decide⟩
  · have hnm : n ≤ m := by rw [hmm]; split <;> omega
    have hE : ∀ i, i < n → ∃ y : α, ok y ∧ ∀ j, j < size → w.cell? (a.add (i * size + j)) = (dec y)[j]? := by
      intro i hin
      obtain ⟨cs', hc, htr⟩ := hi i (by omega)
      obtain ⟨y, hy, rfl⟩ := hF n' cs' _ htr
      rw [hC] at hc
      obtain ⟨_, hcl, hat⟩ := World.cells?_some hc
      exact ⟨y, hy, fun j hj => by rw [← Go.Deep.add_add]; exact hat j hj⟩
    have hL : ∀ n0, n0 ≤ n → ∃ l : List α, l.length = n0 ∧ ∀ i (h : i < l.length), ok l[i] ∧ ∀ j, j < size → w.cell? (a.add (i * size + j)) = (dec l[i])[j]? := by
      intro n0
      induction n0 with
      | zero => intro _; exact ⟨[], rfl, fun i h => by simp at h⟩
      | succ k ih =>
        intro hk
        obtain ⟨l, hl, hlp⟩ := ih (by omega)
        obtain ⟨y, hy, hyc⟩ := hE k (by omega)
        refine ⟨l ++ [y], by simp [hl], fun i h => ?_⟩
        by_cases hik : i < l.length
        · rw [List.getElem_append_left hik]; exact hlp i hik
        · have : i = k := by simp at h; omega
          subst this
          rw [List.getElem_append_right (by omega)]
          simp [hl]
          exact ⟨hy, hyc⟩
    obtain ⟨l, hll, hlp⟩ := hL n (Nat.le_refl _)
    refine ⟨some a, n, c, l, rfl, hll, fun y hy => ?_, ⟨by rw [flatMap_length hlen, hll], fun h0 => ⟨a, rfl, ?_, fun j u hu => ?_⟩⟩, hl, hm⟩
    · obtain ⟨i, hi, rfl⟩ := List.getElem_of_mem hy
      exact (hlp i hi).1
    · have := (hlp 0 (by omega)).2 0 hs
      have h1 : (dec l[0])[0]? = some ((dec l[0])[0]'(by rw [hlen]; exact hs)) := List.getElem?_eq_getElem _
      rw [h1] at this
      have := World.block_lt_of_cell? w _ this
      rw [addr_block] at this
      exact this
    · have hj : j < l.length * size := by
        have := (List.getElem?_eq_some_iff.1 hu).1
        rwa [flatMap_length hlen] at this
      have e := Nat.div_add_mod j size
      have hd : j / size < l.length := Nat.div_lt_of_lt_mul (by rw [Nat.mul_comm]; exact hj)
      have hm := Nat.mod_lt j hs
      rw [Nat.mul_comm] at e
      have := (hlp _ hd).2 _ hm
      rw [e] at this
      rw [this, ← flatMap_at hs hlen l _ _ hd hm, e, hu]

/-- A slice of slices of flat elements. -/
def Inner {α : Type} (w : World) (dec : α → List Value) (ok : α → Prop) (size : Nat) (x : Value × List α) : Prop :=
  (∀ a, a ∈ x.2 → ok a) ∧ ∃ (A : Option Addr) (c : Nat), x.1 = .slice A x.2.length c ∧ x.2.length ≤ c ∧ c ≤ 9223372036854775807 ∧ Rd w size A x.2.length (x.2.flatMap dec)
theorem Inner.touch {α : Type} {w w' : World} {dec : α → List Value} {ok : α → Prop} {size : Nat} {x : Value × List α} (h : Inner w dec ok size x) (t : Touch [] w w') : Inner w' dec ok size x := by
  obtain ⟨h1, A, c, h2, h3, h4, h5⟩ := h
  exact ⟨h1, A, c, h2, h3, h4, h5.touch t (by simp)⟩
theorem open_lists {P : Program} {H : Type} {enc : TypeId × Value → H} {w : World} {t e1 e : TypeId} {α : Type} {dec : α → List Value} {ok : α → Prop} {size : Nat} {A : Option Addr} {n c : Nat} {d : DataW H} {p : List MemPlace}
    (ht : P.underlying t = some (.slice e1)) (ht1 : P.underlying e1 = some (.slice e)) (hC1 : P.cellsOf e1 = 1) (hF : Flat P e (fun cs => ∃ a, ok a ∧ cs = dec a)) (hC : P.cellsOf e = size) (hs : 0 < size) (hlen : ∀ a, (dec a).length = size)
    (h : DataW.Trod enc P w 0 (fun _ => true) true t (.slice A n c) d p) :
    ∃ ls : List (Value × List α), ls.length = n ∧ (∀ x, x ∈ ls → Inner w dec ok size x) ∧ Rd w 1 A n (ls.map Prod.fst) := by
  obtain ⟨fuel, hf⟩ := h
  obtain ⟨A', n', c', ls, hcs, hl, hok, hr, _, _⟩ := open_core (α := Value × List α) (dec := fun x => [x.1]) (ok := Inner w dec ok size) (size := 1) ht (fun fuel cs x htr => by
    obtain ⟨A1, n1, c1, l, rfl, g1, g2, g3, g4, g5⟩ := open_core (α := α) (dec := dec) (ok := ok) ht1 (fun fuel cs x h0 => hF H enc w 0 _ _ fuel cs x h0) hC hs hlen htr
    subst g1
    exact ⟨(.slice A1 l.length c1, l), ⟨g2, A1, c1, rfl, g4, g5, g3⟩, rfl⟩) hC1 (by decide) (fun _ => rfl) hf
  simp [Value.cells] at hcs
  obtain ⟨rfl, rfl, rfl⟩ := hcs
  refine ⟨ls, hl, hok, ?_⟩
  have e : ls.map Prod.fst = ls.flatMap (fun x => [x.1]) := by
    clear hl hok hr hf
    induction ls with
    | nil => rfl
    | cons y l ih => rw [List.map_cons, List.flatMap_cons, ih]; rfl
  rw [e]
  exact hr
end Go.Proofs.Ytlndihdlodempaa.Z
