/- 2 texts of this claim, joined: what each shows stands at its own head. -/
import Derived.Test.YtdffdppkdbbdoaaZM04RfTogether
/- What a world holds, as a list of things that lie apart; what came since a beginning has changed only some old blocks. No program is in sight. -/
set_option linter.unusedVariables false
set_option linter.unusedSimpArgs false
namespace Go.Proofs.Ytdffdppkdbbdoaa.Z
open Go.RowKit

/-- A thing that lies in the world: a block of cells, a memory, a slice of words, a slice that is owned. -/
inductive Res where
  | blk (b : Nat) (cs : Array Value)
  | mem (m a : Nat) (L : List Int)
  | row (p : Option Addr) (g cap : Nat) (L : List Int)
  | own (e size : Nat) (v : Value) (n : Nat) (xs : List Value)

/-- The blocks in which it lies. -/
def Res.foot : Res → List Nat
  | .blk b _ => [b]
  | .mem m a L => m :: lv a L
  | .row _ g _ L => lv g L
  | .own _ _ v _ _ => v.ownBlock.toList

def Res.holds (w : World) : Res → Prop
  | .blk b cs => Blk w b cs
  | .mem m a L => Mem w m a L
  | .row p g cap L => Row w p g L ∧ L.length ≤ cap ∧ cap ≤ 9223372036854775807
  | .own e size v n xs => w.ownsRow 0 e size v n xs

theorem Res.lt {w : World} {r : Res} (h : r.holds w) : ∀ k, k ∈ r.foot → k < w.heap.size := by
  intro k hk
  cases r with
  | blk b cs => simp only [Res.foot, List.mem_singleton] at hk; subst hk; exact Blk.lt h
  | mem m a L =>
    simp only [Res.foot, List.mem_cons] at hk
    have := Mem.lt h
    rcases hk with rfl | hk
    · exact this.1
    · obtain ⟨rfl, h0⟩ := mem_lv hk; exact this.2 h0
  | row p g cap L =>
    obtain ⟨rfl, h0⟩ := mem_lv hk
    exact h.1.lt h0
  | own e size v n xs =>
    rcases owns_block h with rfl | ⟨g, c, rfl, _, hg, _⟩
    · simp [Res.foot, Value.ownBlock] at hk
    · simp [Res.foot, Value.ownBlock] at hk; omega

theorem Res.keep {w w' : World} {r : Res} {S : List Nat} (h : r.holds w) (t : Touch S w w') (hs : ∀ k, k ∈ r.foot → k ∉ S) : r.holds w' := by
  cases r with
  | blk b cs => exact t.blk h (hs b (by simp [Res.foot]))
  | mem m a L =>
    obtain ⟨p, cap, hb, r⟩ := Mem.head h
    refine ⟨Mem.ne h, Mem.words h, ⟨p, cap, t.blk hb (hs m (by simp [Res.foot])), r⟩, fun h0 => ?_⟩
    obtain ⟨rest, hr⟩ := Mem.body h h0
    exact ⟨rest, t.blk hr (hs a (by simp [Res.foot, lv, h0]))⟩
  | row p g cap L =>
    refine ⟨⟨h.1.words, h.1.at_, fun h0 => ?_⟩, h.2⟩
    obtain ⟨rest, hr⟩ := h.1.body h0
    exact ⟨rest, t.blk hr (hs g (by simp [Res.foot, lv, h0]))⟩
  | own e size v n xs =>
    refine owns_touch h t (fun g hg => hs g ?_)
    simp [Res.foot, hg]

/-- The blocks of some things. -/
def foots (rs : List Res) : List Nat := rs.flatMap Res.foot

theorem mem_foots {rs : List Res} {k : Nat} : k ∈ foots rs ↔ ∃ r, r ∈ rs ∧ k ∈ r.foot := by simp [foots]

def Apart (r s : Res) : Prop := ∀ k, k ∈ r.foot → k ∉ s.foot
theorem Apart.symm {r s : Res} (h : Apart r s) : Apart s r := fun k hs hr => h k hr hs

/-- The world holds these, apart from one another; of the beginning's blocks only those of S0 have changed. -/
structure Has (S0 : List Nat) (w0 w : World) (rs : List Res) : Prop where
  touch : Touch S0 w0 w
  all : ∀ r, r ∈ rs → r.holds w
  apart : rs.Pairwise Apart
  fresh : ∀ r, r ∈ rs → ∀ k, k ∈ r.foot → k ∈ S0 ∨ w0.heap.size ≤ k

theorem Has.start (S0 : List Nat) (w : World) : Has S0 w w [] := ⟨Touch.refl _ _, by simp, List.Pairwise.nil, by simp⟩

theorem Has.lt {S0 : List Nat} {w0 w : World} {rs : List Res} (h : Has S0 w0 w rs) : ∀ r, r ∈ rs → ∀ k, k ∈ r.foot → k < w.heap.size := fun r hr => Res.lt (h.all r hr)

/-- WHAT COMES: some things have turned to others, in their own blocks or in new ones; all else is as it was. -/
theorem Has.upd {S0 : List Nat} {w0 w w' : World} {xs rs : List Res} (ys : List Res) {S : List Nat} (h : Has S0 w0 w (xs ++ rs)) (t : Touch S w w')
    (hS : ∀ k, k ∈ S → k ∈ foots xs ∨ w.heap.size ≤ k) (hy : ∀ r, r ∈ ys → r.holds w') (ha : ys.Pairwise Apart) (hf : ∀ r, r ∈ ys → ∀ k, k ∈ r.foot → k ∈ foots xs ∨ w.heap.size ≤ k) : Has S0 w0 w' (ys ++ rs) := by
  obtain ⟨h1, h2, h3⟩ := List.pairwise_append.1 h.apart
  have far : ∀ r, r ∈ rs → ∀ k, k ∈ r.foot → k ∉ foots xs := fun r hr k hk hm => by
    obtain ⟨s, hs, hks⟩ := mem_foots.1 hm
    exact h3 s hs r hr k hks hk
  have old : ∀ k, k ∈ foots xs → k ∈ S0 ∨ w0.heap.size ≤ k := fun k hk => by
    obtain ⟨s, hs, hks⟩ := mem_foots.1 hk
    exact h.fresh s (List.mem_append_left _ hs) k hks
  have ht : Touch S0 w0 w' := by
    refine ⟨t.os.trans h.touch.os, t.tape.trans h.touch.tape, t.output.trans h.touch.output, Nat.le_trans h.touch.size t.size, fun k hk hs => ?_⟩
    refine (t.block k (Nat.lt_of_lt_of_le hk h.touch.size) (fun hm => ?_)).trans (h.touch.block k hk hs)
    have := h.touch.size
    rcases hS k hm with h' | h'
    · rcases old k h' with h'' | h''
      · exact hs h''
      · omega
    · omega
  refine ⟨ht, fun r hr => ?_, List.pairwise_append.2 ⟨ha, h2, fun y hyy r hr k hk hkr => ?_⟩, fun r hr k hk => ?_⟩
  · rcases List.mem_append.1 hr with hr | hr
    · exact hy r hr
    · refine Res.keep (h.all r (List.mem_append_right _ hr)) t (fun k hk hm => ?_)
      have := h.lt r (List.mem_append_right _ hr) k hk
      rcases hS k hm with h' | h'
      · exact far r hr k hk h'
      · omega
  · have := h.lt r (List.mem_append_right _ hr) k hkr
    rcases hf y hyy k hk with h' | h'
    · exact far r hr k hkr h'
    · omega
  · rcases List.mem_append.1 hr with hr | hr
    · rcases hf r hr k hk with h' | h'
      · exact old k h'
      · exact Or.inr (Nat.le_trans h.touch.size h')
    · exact h.fresh r (List.mem_append_right _ hr) k hk

theorem Has.perm {S0 : List Nat} {w0 w : World} {rs rs' : List Res} (h : Has S0 w0 w rs) (p : rs.Perm rs') : Has S0 w0 w rs' :=
  ⟨h.touch, fun r hr => h.all r (p.mem_iff.2 hr), (p.pairwise_iff (fun h => Apart.symm h)).1 h.apart, fun r hr => h.fresh r (p.mem_iff.2 hr)⟩

theorem perm_front {α : Type} : ∀ (l : List α) (i : Nat) (hi : i < l.length), l.Perm (l[i] :: l.eraseIdx i)
  | [], i, hi => by simp at hi
  | x :: l, 0, _ => by simp
  | x :: l, i + 1, hi => by
    simp only [List.getElem_cons_succ, List.eraseIdx_cons_succ]
    exact ((perm_front l i (by simpa using hi)).cons x).trans (List.Perm.swap _ _ _)

/-- The i-th comes first. -/
theorem Has.front {S0 : List Nat} {w0 w : World} {rs : List Res} (h : Has S0 w0 w rs) (i : Nat) (hi : i < rs.length) : Has S0 w0 w (rs[i] :: rs.eraseIdx i) :=
  h.perm (perm_front rs i hi)

theorem Has.swap {S0 : List Nat} {w0 w : World} {x y : Res} {rs : List Res} (h : Has S0 w0 w (x :: y :: rs)) : Has S0 w0 w (y :: x :: rs) := h.perm (List.Perm.swap y x rs)
theorem Has.rot3 {S0 : List Nat} {w0 w : World} {x y z : Res} {rs : List Res} (h : Has S0 w0 w (x :: y :: z :: rs)) : Has S0 w0 w (z :: x :: y :: rs) := h.front 2 (by simp)
theorem Has.back3 {S0 : List Nat} {w0 w : World} {x y z : Res} {rs : List Res} (h : Has S0 w0 w (z :: x :: y :: rs)) : Has S0 w0 w (x :: y :: z :: rs) := h.rot3.rot3

theorem Has.tail {S0 : List Nat} {w0 w : World} {x : Res} {rs : List Res} (h : Has S0 w0 w (x :: rs)) : Has S0 w0 w rs :=
  ⟨h.touch, fun r hr => h.all r (List.mem_cons_of_mem _ hr), (List.pairwise_cons.1 h.apart).2, fun r hr => h.fresh r (List.mem_cons_of_mem _ hr)⟩

theorem Has.drop1 {S0 : List Nat} {w0 w : World} {x y : Res} {rs : List Res} (h : Has S0 w0 w (x :: y :: rs)) : Has S0 w0 w (x :: rs) := h.swap.tail

theorem Has.drew {S0 : List Nat} {w0 w : World} {rs : List Res} (h : Has S0 w0 w rs) : Has S0 w0 w.drew rs := by
  have := Has.upd (xs := []) (rs := rs) [] (S := []) h ((Touch.refl [] w).drew) (by simp) (by simp) List.Pairwise.nil (by simp)
  exact this

theorem Has.drewN {S0 : List Nat} {w0 w : World} {rs : List Res} (h : Has S0 w0 w rs) (n : Nat) : Has S0 w0 (w.drewN n) rs := by
  have := Has.upd (xs := []) (rs := rs) [] (S := []) h ((Touch.refl [] w).drewN n) (by simp) (by simp) List.Pairwise.nil (by simp)
  exact this

/-- What makes memory, and no more. -/
theorem Has.grow {S0 : List Nat} {w0 w w' : World} {rs : List Res} (h : Has S0 w0 w rs) (t : Touch [] w w') : Has S0 w0 w' rs := by
  have := Has.upd (xs := []) (rs := rs) [] (S := []) h t (by simp) (by simp) List.Pairwise.nil (by simp)
  exact this

/-- A new block, first. -/
theorem Has.new {S0 : List Nat} {w0 w : World} {rs : List Res} (h : Has S0 w0 w rs) {b : Nat} (hb : w.heap.size = b) (cs : Array Value) (T : TypeId) : Has S0 w0 (w.alloc (.cells cs T)) (.blk b cs :: rs) := by
  subst hb
  exact Has.upd (xs := []) (rs := rs) [.blk w.heap.size cs] (S := []) h ((Touch.refl [] w).alloc _) (by simp) (by simp [Res.holds]; exact Blk.new _ _ _) (by simp) (by simp [Res.foot])

/-- A new block, second. -/
theorem Has.al {S0 : List Nat} {w0 w : World} {x : Res} {rs : List Res} (h : Has S0 w0 w (x :: rs)) {b : Nat} (hb : w.heap.size = b) (cs : Array Value) (T : TypeId) : Has S0 w0 (w.alloc (.cells cs T)) (x :: .blk b cs :: rs) := (h.new hb cs T).swap

/-- A store, into the first block. -/
theorem Has.set {S0 : List Nat} {w0 w : World} {b : Nat} {cs : Array Value} {rs : List Res} (h : Has S0 w0 w (.blk b cs :: rs)) (i : Nat) (v : Value) : Has S0 w0 (w.setCell ⟨b, i, none⟩ v) (.blk b (cs.setIfInBounds i v) :: rs) :=
  Has.upd (xs := [.blk b cs]) (rs := rs) [.blk b (cs.setIfInBounds i v)] (S := [b]) h ((Touch.refl [b] w).set (by simp) v) (by simp [foots, Res.foot]) (by simp [Res.holds]; exact (h.all (.blk b cs) (by simp)).set i v) (by simp) (by simp [foots, Res.foot])

/-- A store, into the second block. -/
theorem Has.set1 {S0 : List Nat} {w0 w : World} {x : Res} {b : Nat} {cs : Array Value} {rs : List Res} (h : Has S0 w0 w (x :: .blk b cs :: rs)) (i : Nat) (v : Value) : Has S0 w0 (w.setCell ⟨b, i, none⟩ v) (x :: .blk b (cs.setIfInBounds i v) :: rs) :=
  (h.swap.set i v).swap

theorem Has.blk {S0 : List Nat} {w0 w : World} {b : Nat} {cs : Array Value} {rs : List Res} (h : Has S0 w0 w (.blk b cs :: rs)) : Blk w b cs := h.all (.blk b cs) (by simp)
theorem Has.blk1 {S0 : List Nat} {w0 w : World} {x : Res} {b : Nat} {cs : Array Value} {rs : List Res} (h : Has S0 w0 w (x :: .blk b cs :: rs)) : Blk w b cs := h.all (.blk b cs) (by simp)
theorem Has.blk2 {S0 : List Nat} {w0 w : World} {x y : Res} {b : Nat} {cs : Array Value} {rs : List Res} (h : Has S0 w0 w (x :: y :: .blk b cs :: rs)) : Blk w b cs := h.all (.blk b cs) (by simp)
theorem Has.blk3 {S0 : List Nat} {w0 w : World} {x y z : Res} {b : Nat} {cs : Array Value} {rs : List Res} (h : Has S0 w0 w (x :: y :: z :: .blk b cs :: rs)) : Blk w b cs := h.all (.blk b cs) (by simp)
theorem Has.blk4 {S0 : List Nat} {w0 w : World} {x y z u : Res} {b : Nat} {cs : Array Value} {rs : List Res} (h : Has S0 w0 w (x :: y :: z :: u :: .blk b cs :: rs)) : Blk w b cs := h.all (.blk b cs) (by simp)
theorem Has.blk5 {S0 : List Nat} {w0 w : World} {x y z u v : Res} {b : Nat} {cs : Array Value} {rs : List Res} (h : Has S0 w0 w (x :: y :: z :: u :: v :: .blk b cs :: rs)) : Blk w b cs := h.all (.blk b cs) (by simp)
theorem Has.mem {S0 : List Nat} {w0 w : World} {m a : Nat} {L : List Int} {rs : List Res} (h : Has S0 w0 w (.mem m a L :: rs)) : Mem w m a L := h.all (.mem m a L) (by simp)
theorem Has.row {S0 : List Nat} {w0 w : World} {p : Option Addr} {g cap : Nat} {L : List Int} {rs : List Res} (h : Has S0 w0 w (.row p g cap L :: rs)) : Row w p g L := (h.all (.row p g cap L) (by simp)).1
theorem Has.row1 {S0 : List Nat} {w0 w : World} {x : Res} {p : Option Addr} {g cap : Nat} {L : List Int} {rs : List Res} (h : Has S0 w0 w (x :: .row p g cap L :: rs)) : Row w p g L := (h.all (.row p g cap L) (by simp)).1
theorem Has.cap {S0 : List Nat} {w0 w : World} {p : Option Addr} {g cap : Nat} {L : List Int} {rs : List Res} (h : Has S0 w0 w (.row p g cap L :: rs)) : L.length ≤ cap ∧ cap ≤ 9223372036854775807 := (h.all (.row p g cap L) (by simp)).2
theorem Has.cap1 {S0 : List Nat} {w0 w : World} {x : Res} {p : Option Addr} {g cap : Nat} {L : List Int} {rs : List Res} (h : Has S0 w0 w (x :: .row p g cap L :: rs)) : L.length ≤ cap ∧ cap ≤ 9223372036854775807 := (h.all (.row p g cap L) (by simp)).2

theorem Has.ne01 {S0 : List Nat} {w0 w : World} {b c : Nat} {cs ds : Array Value} {rs : List Res} (h : Has S0 w0 w (.blk b cs :: .blk c ds :: rs)) : b ≠ c := by
  have := (List.pairwise_cons.1 h.apart).1 (.blk c ds) (by simp)
  intro e
  exact this b (by simp [Res.foot]) (by simp [Res.foot, e])

/-- The words have turned. -/
theorem Has.words {S0 : List Nat} {w0 w w' : World} {m a : Nat} {L L' : List Int} {rs : List Res} (h : Has S0 w0 w (.mem m a L :: rs)) (hM : Mem w' m a L') (hl : L'.length = L.length) (t : Touch (lv a L) w w') : Has S0 w0 w' (.mem m a L' :: rs) :=
  Has.upd (xs := [.mem m a L]) (rs := rs) [.mem m a L'] (S := lv a L) h t (fun k hk => Or.inl (by simp [foots, Res.foot, hk])) (by simp [Res.holds]; exact hM) (by simp) (by intro r hr k hk; simp only [List.mem_singleton] at hr; subst hr; left; simpa [foots, Res.foot, lv, hl] using hk)

theorem Has.wordsRow {S0 : List Nat} {w0 w w' : World} {p : Option Addr} {g cap : Nat} {L L' : List Int} {rs : List Res} (h : Has S0 w0 w (.row p g cap L :: rs)) (hM : Row w' p g L') (hl : L'.length = L.length) (t : Touch (lv g L) w w') : Has S0 w0 w' (.row p g cap L' :: rs) :=
  Has.upd (xs := [.row p g cap L]) (rs := rs) [.row p g cap L'] (S := lv g L) h t (fun k hk => Or.inl (by simp [foots, Res.foot, hk])) (by simp [Res.holds]; exact ⟨hM, by have := h.cap; omega⟩) (by simp) (by intro r hr k hk; simp only [List.mem_singleton] at hr; subst hr; left; simpa [foots, Res.foot, lv, hl] using hk)

/-- A memory that was there already is taken in. -/
theorem Has.take {S0 : List Nat} {w : World} {r : Res} {rs : List Res} (h : Has S0 w w rs) (hr : r.holds w) (hf : ∀ k, k ∈ r.foot → k ∈ S0) (ha : ∀ s, s ∈ rs → Apart r s) : Has S0 w w (r :: rs) :=
  ⟨h.touch, fun s hs => by
    rcases List.mem_cons.1 hs with rfl | hs
    · exact hr
    · exact h.all s hs, List.pairwise_cons.2 ⟨ha, h.apart⟩, fun s hs k hk => by
    rcases List.mem_cons.1 hs with rfl | hs
    · exact Or.inl (hf k hk)
    · exact h.fresh s hs k hk⟩

/-- What has come is taken in: it lies in new blocks. -/
theorem Has.came {S0 : List Nat} {w0 w w' : World} {rs : List Res} (r : Res) {S : List Nat} (h : Has S0 w0 w rs) (t : Touch S w w') (hS : ∀ k, k ∈ S → w.heap.size ≤ k) (hr : r.holds w') (hf : ∀ k, k ∈ r.foot → w.heap.size ≤ k) : Has S0 w0 w' (r :: rs) :=
  Has.upd (xs := []) (rs := rs) [r] (S := S) h t (fun k hk => Or.inr (hS k hk)) (by simp; exact hr) (by simp) (by simp; exact fun k hk => Or.inr (hf k hk))

end Go.Proofs.Ytdffdppkdbbdoaa.Z

/- Several new blocks at once. No program is in sight. -/
set_option linter.unusedVariables false
set_option linter.unusedSimpArgs false
namespace Go.Proofs.Ytdffdppkdbbdoaa.Z
open Go.RowKit

theorem perm_past1 {α : Type} (x : α) : ∀ (ys rs : List α), (ys ++ x :: rs).Perm (x :: (ys ++ rs)) := fun ys rs => List.perm_middle
theorem perm_past2 {α : Type} (x y : α) (ys rs : List α) : (ys ++ x :: y :: rs).Perm (x :: y :: (ys ++ rs)) :=
  List.perm_middle.trans (List.Perm.cons x List.perm_middle)
theorem perm_past3 {α : Type} (x y z : α) (ys rs : List α) : (ys ++ x :: y :: z :: rs).Perm (x :: y :: z :: (ys ++ rs)) :=
  List.perm_middle.trans (List.Perm.cons x (perm_past2 y z ys rs))
theorem perm_past4 {α : Type} (x y z u : α) (ys rs : List α) : (ys ++ x :: y :: z :: u :: rs).Perm (x :: y :: z :: u :: (ys ++ rs)) :=
  List.perm_middle.trans (List.Perm.cons x (perm_past3 y z u ys rs))
/-- Some things are left behind; what comes changes them alone. -/
theorem Has.leave {S0 : List Nat} {w0 w w' : World} {ys rs : List Res} {S : List Nat} (h : Has S0 w0 w (ys ++ rs)) (t : Touch S w w') (hS : ∀ k, k ∈ S → k ∈ foots ys) : Has S0 w0 w' rs := by
  have := Has.upd (xs := ys) (rs := rs) [] (S := S) h t (fun k hk => Or.inl (hS k hk)) (by simp) List.Pairwise.nil (by simp)
  exact this
theorem size_add {w : World} {k : Nat} (o : Obj) {n : Nat} (h : w.heap.size = n + k) : (w.alloc o).heap.size = n + (k + 1) := by simp [h]; omega

theorem Has.new1 {S0 : List Nat} {w0 w : World} {rs : List Res} (h : Has S0 w0 w rs) {c0 : Array Value} {t0 : TypeId} : Has S0 w0 (w.alloc (.cells c0 t0)) (.blk w.heap.size c0 :: rs) := by
  exact h.new rfl _ _
theorem Has.al1 {S0 : List Nat} {w0 w : World} {x : Res} {rs : List Res} (h : Has S0 w0 w (x :: rs)) {c0 : Array Value} {t0 : TypeId} : Has S0 w0 (w.alloc (.cells c0 t0)) (x :: .blk w.heap.size c0 :: rs) :=
  h.new1.perm (perm_past1 x [.blk w.heap.size c0] rs)
theorem Has.al31 {S0 : List Nat} {w0 w : World} {x y z : Res} {rs : List Res} (h : Has S0 w0 w (x :: y :: z :: rs)) {c0 : Array Value} {t0 : TypeId} : Has S0 w0 (w.alloc (.cells c0 t0)) (x :: y :: z :: .blk w.heap.size c0 :: rs) :=
  h.new1.perm (perm_past3 x y z [.blk w.heap.size c0] rs)
theorem Has.al21 {S0 : List Nat} {w0 w : World} {x y : Res} {rs : List Res} (h : Has S0 w0 w (x :: y :: rs)) {c0 : Array Value} {t0 : TypeId} : Has S0 w0 (w.alloc (.cells c0 t0)) (x :: y :: .blk w.heap.size c0 :: rs) :=
  h.new1.perm (perm_past2 x y [.blk w.heap.size c0] rs)
theorem Has.new2 {S0 : List Nat} {w0 w : World} {rs : List Res} (h : Has S0 w0 w rs) {c0 c1 : Array Value} {t0 t1 : TypeId} : Has S0 w0 ((w.alloc (.cells c0 t0)).alloc (.cells c1 t1)) (.blk (w.heap.size + 1) c1 :: .blk w.heap.size c0 :: rs) := by
  exact (h.new1).new (by simp) _ _
theorem Has.al2 {S0 : List Nat} {w0 w : World} {x : Res} {rs : List Res} (h : Has S0 w0 w (x :: rs)) {c0 c1 : Array Value} {t0 t1 : TypeId} : Has S0 w0 ((w.alloc (.cells c0 t0)).alloc (.cells c1 t1)) (x :: .blk (w.heap.size + 1) c1 :: .blk w.heap.size c0 :: rs) :=
  h.new2.perm (perm_past1 x [.blk (w.heap.size + 1) c1, .blk w.heap.size c0] rs)
theorem Has.al32 {S0 : List Nat} {w0 w : World} {x y z : Res} {rs : List Res} (h : Has S0 w0 w (x :: y :: z :: rs)) {c0 c1 : Array Value} {t0 t1 : TypeId} : Has S0 w0 ((w.alloc (.cells c0 t0)).alloc (.cells c1 t1)) (x :: y :: z :: .blk (w.heap.size + 1) c1 :: .blk w.heap.size c0 :: rs) :=
  h.new2.perm (perm_past3 x y z [.blk (w.heap.size + 1) c1, .blk w.heap.size c0] rs)
theorem Has.al22 {S0 : List Nat} {w0 w : World} {x y : Res} {rs : List Res} (h : Has S0 w0 w (x :: y :: rs)) {c0 c1 : Array Value} {t0 t1 : TypeId} : Has S0 w0 ((w.alloc (.cells c0 t0)).alloc (.cells c1 t1)) (x :: y :: .blk (w.heap.size + 1) c1 :: .blk w.heap.size c0 :: rs) :=
  h.new2.perm (perm_past2 x y [.blk (w.heap.size + 1) c1, .blk w.heap.size c0] rs)
theorem Has.new3 {S0 : List Nat} {w0 w : World} {rs : List Res} (h : Has S0 w0 w rs) {c0 c1 c2 : Array Value} {t0 t1 t2 : TypeId} : Has S0 w0 (((w.alloc (.cells c0 t0)).alloc (.cells c1 t1)).alloc (.cells c2 t2)) (.blk (w.heap.size + 2) c2 :: .blk (w.heap.size + 1) c1 :: .blk w.heap.size c0 :: rs) := by
  exact (h.new2).new (by simp) _ _
theorem Has.al3 {S0 : List Nat} {w0 w : World} {x : Res} {rs : List Res} (h : Has S0 w0 w (x :: rs)) {c0 c1 c2 : Array Value} {t0 t1 t2 : TypeId} : Has S0 w0 (((w.alloc (.cells c0 t0)).alloc (.cells c1 t1)).alloc (.cells c2 t2)) (x :: .blk (w.heap.size + 2) c2 :: .blk (w.heap.size + 1) c1 :: .blk w.heap.size c0 :: rs) :=
  h.new3.perm (perm_past1 x [.blk (w.heap.size + 2) c2, .blk (w.heap.size + 1) c1, .blk w.heap.size c0] rs)
theorem Has.al33 {S0 : List Nat} {w0 w : World} {x y z : Res} {rs : List Res} (h : Has S0 w0 w (x :: y :: z :: rs)) {c0 c1 c2 : Array Value} {t0 t1 t2 : TypeId} : Has S0 w0 (((w.alloc (.cells c0 t0)).alloc (.cells c1 t1)).alloc (.cells c2 t2)) (x :: y :: z :: .blk (w.heap.size + 2) c2 :: .blk (w.heap.size + 1) c1 :: .blk w.heap.size c0 :: rs) :=
  h.new3.perm (perm_past3 x y z [.blk (w.heap.size + 2) c2, .blk (w.heap.size + 1) c1, .blk w.heap.size c0] rs)
theorem Has.al23 {S0 : List Nat} {w0 w : World} {x y : Res} {rs : List Res} (h : Has S0 w0 w (x :: y :: rs)) {c0 c1 c2 : Array Value} {t0 t1 t2 : TypeId} : Has S0 w0 (((w.alloc (.cells c0 t0)).alloc (.cells c1 t1)).alloc (.cells c2 t2)) (x :: y :: .blk (w.heap.size + 2) c2 :: .blk (w.heap.size + 1) c1 :: .blk w.heap.size c0 :: rs) :=
  h.new3.perm (perm_past2 x y [.blk (w.heap.size + 2) c2, .blk (w.heap.size + 1) c1, .blk w.heap.size c0] rs)
theorem Has.new4 {S0 : List Nat} {w0 w : World} {rs : List Res} (h : Has S0 w0 w rs) {c0 c1 c2 c3 : Array Value} {t0 t1 t2 t3 : TypeId} : Has S0 w0 ((((w.alloc (.cells c0 t0)).alloc (.cells c1 t1)).alloc (.cells c2 t2)).alloc (.cells c3 t3)) (.blk (w.heap.size + 3) c3 :: .blk (w.heap.size + 2) c2 :: .blk (w.heap.size + 1) c1 :: .blk w.heap.size c0 :: rs) := by
  exact (h.new3).new (by simp) _ _
theorem Has.al4 {S0 : List Nat} {w0 w : World} {x : Res} {rs : List Res} (h : Has S0 w0 w (x :: rs)) {c0 c1 c2 c3 : Array Value} {t0 t1 t2 t3 : TypeId} : Has S0 w0 ((((w.alloc (.cells c0 t0)).alloc (.cells c1 t1)).alloc (.cells c2 t2)).alloc (.cells c3 t3)) (x :: .blk (w.heap.size + 3) c3 :: .blk (w.heap.size + 2) c2 :: .blk (w.heap.size + 1) c1 :: .blk w.heap.size c0 :: rs) :=
  h.new4.perm (perm_past1 x [.blk (w.heap.size + 3) c3, .blk (w.heap.size + 2) c2, .blk (w.heap.size + 1) c1, .blk w.heap.size c0] rs)
theorem Has.al34 {S0 : List Nat} {w0 w : World} {x y z : Res} {rs : List Res} (h : Has S0 w0 w (x :: y :: z :: rs)) {c0 c1 c2 c3 : Array Value} {t0 t1 t2 t3 : TypeId} : Has S0 w0 ((((w.alloc (.cells c0 t0)).alloc (.cells c1 t1)).alloc (.cells c2 t2)).alloc (.cells c3 t3)) (x :: y :: z :: .blk (w.heap.size + 3) c3 :: .blk (w.heap.size + 2) c2 :: .blk (w.heap.size + 1) c1 :: .blk w.heap.size c0 :: rs) :=
  h.new4.perm (perm_past3 x y z [.blk (w.heap.size + 3) c3, .blk (w.heap.size + 2) c2, .blk (w.heap.size + 1) c1, .blk w.heap.size c0] rs)
theorem Has.al24 {S0 : List Nat} {w0 w : World} {x y : Res} {rs : List Res} (h : Has S0 w0 w (x :: y :: rs)) {c0 c1 c2 c3 : Array Value} {t0 t1 t2 t3 : TypeId} : Has S0 w0 ((((w.alloc (.cells c0 t0)).alloc (.cells c1 t1)).alloc (.cells c2 t2)).alloc (.cells c3 t3)) (x :: y :: .blk (w.heap.size + 3) c3 :: .blk (w.heap.size + 2) c2 :: .blk (w.heap.size + 1) c1 :: .blk w.heap.size c0 :: rs) :=
  h.new4.perm (perm_past2 x y [.blk (w.heap.size + 3) c3, .blk (w.heap.size + 2) c2, .blk (w.heap.size + 1) c1, .blk w.heap.size c0] rs)
theorem Has.new5 {S0 : List Nat} {w0 w : World} {rs : List Res} (h : Has S0 w0 w rs) {c0 c1 c2 c3 c4 : Array Value} {t0 t1 t2 t3 t4 : TypeId} : Has S0 w0 (((((w.alloc (.cells c0 t0)).alloc (.cells c1 t1)).alloc (.cells c2 t2)).alloc (.cells c3 t3)).alloc (.cells c4 t4)) (.blk (w.heap.size + 4) c4 :: .blk (w.heap.size + 3) c3 :: .blk (w.heap.size + 2) c2 :: .blk (w.heap.size + 1) c1 :: .blk w.heap.size c0 :: rs) := by
  exact (h.new4).new (by simp) _ _
theorem Has.al5 {S0 : List Nat} {w0 w : World} {x : Res} {rs : List Res} (h : Has S0 w0 w (x :: rs)) {c0 c1 c2 c3 c4 : Array Value} {t0 t1 t2 t3 t4 : TypeId} : Has S0 w0 (((((w.alloc (.cells c0 t0)).alloc (.cells c1 t1)).alloc (.cells c2 t2)).alloc (.cells c3 t3)).alloc (.cells c4 t4)) (x :: .blk (w.heap.size + 4) c4 :: .blk (w.heap.size + 3) c3 :: .blk (w.heap.size + 2) c2 :: .blk (w.heap.size + 1) c1 :: .blk w.heap.size c0 :: rs) :=
  h.new5.perm (perm_past1 x [.blk (w.heap.size + 4) c4, .blk (w.heap.size + 3) c3, .blk (w.heap.size + 2) c2, .blk (w.heap.size + 1) c1, .blk w.heap.size c0] rs)
theorem Has.al35 {S0 : List Nat} {w0 w : World} {x y z : Res} {rs : List Res} (h : Has S0 w0 w (x :: y :: z :: rs)) {c0 c1 c2 c3 c4 : Array Value} {t0 t1 t2 t3 t4 : TypeId} : Has S0 w0 (((((w.alloc (.cells c0 t0)).alloc (.cells c1 t1)).alloc (.cells c2 t2)).alloc (.cells c3 t3)).alloc (.cells c4 t4)) (x :: y :: z :: .blk (w.heap.size + 4) c4 :: .blk (w.heap.size + 3) c3 :: .blk (w.heap.size + 2) c2 :: .blk (w.heap.size + 1) c1 :: .blk w.heap.size c0 :: rs) :=
  h.new5.perm (perm_past3 x y z [.blk (w.heap.size + 4) c4, .blk (w.heap.size + 3) c3, .blk (w.heap.size + 2) c2, .blk (w.heap.size + 1) c1, .blk w.heap.size c0] rs)
theorem Has.al25 {S0 : List Nat} {w0 w : World} {x y : Res} {rs : List Res} (h : Has S0 w0 w (x :: y :: rs)) {c0 c1 c2 c3 c4 : Array Value} {t0 t1 t2 t3 t4 : TypeId} : Has S0 w0 (((((w.alloc (.cells c0 t0)).alloc (.cells c1 t1)).alloc (.cells c2 t2)).alloc (.cells c3 t3)).alloc (.cells c4 t4)) (x :: y :: .blk (w.heap.size + 4) c4 :: .blk (w.heap.size + 3) c3 :: .blk (w.heap.size + 2) c2 :: .blk (w.heap.size + 1) c1 :: .blk w.heap.size c0 :: rs) :=
  h.new5.perm (perm_past2 x y [.blk (w.heap.size + 4) c4, .blk (w.heap.size + 3) c3, .blk (w.heap.size + 2) c2, .blk (w.heap.size + 1) c1, .blk w.heap.size c0] rs)
theorem Has.new6 {S0 : List Nat} {w0 w : World} {rs : List Res} (h : Has S0 w0 w rs) {c0 c1 c2 c3 c4 c5 : Array Value} {t0 t1 t2 t3 t4 t5 : TypeId} : Has S0 w0 ((((((w.alloc (.cells c0 t0)).alloc (.cells c1 t1)).alloc (.cells c2 t2)).alloc (.cells c3 t3)).alloc (.cells c4 t4)).alloc (.cells c5 t5)) (.blk (w.heap.size + 5) c5 :: .blk (w.heap.size + 4) c4 :: .blk (w.heap.size + 3) c3 :: .blk (w.heap.size + 2) c2 :: .blk (w.heap.size + 1) c1 :: .blk w.heap.size c0 :: rs) := by
  exact (h.new5).new (by simp) _ _
theorem Has.al6 {S0 : List Nat} {w0 w : World} {x : Res} {rs : List Res} (h : Has S0 w0 w (x :: rs)) {c0 c1 c2 c3 c4 c5 : Array Value} {t0 t1 t2 t3 t4 t5 : TypeId} : Has S0 w0 ((((((w.alloc (.cells c0 t0)).alloc (.cells c1 t1)).alloc (.cells c2 t2)).alloc (.cells c3 t3)).alloc (.cells c4 t4)).alloc (.cells c5 t5)) (x :: .blk (w.heap.size + 5) c5 :: .blk (w.heap.size + 4) c4 :: .blk (w.heap.size + 3) c3 :: .blk (w.heap.size + 2) c2 :: .blk (w.heap.size + 1) c1 :: .blk w.heap.size c0 :: rs) :=
  h.new6.perm (perm_past1 x [.blk (w.heap.size + 5) c5, .blk (w.heap.size + 4) c4, .blk (w.heap.size + 3) c3, .blk (w.heap.size + 2) c2, .blk (w.heap.size + 1) c1, .blk w.heap.size c0] rs)
theorem Has.al36 {S0 : List Nat} {w0 w : World} {x y z : Res} {rs : List Res} (h : Has S0 w0 w (x :: y :: z :: rs)) {c0 c1 c2 c3 c4 c5 : Array Value} {t0 t1 t2 t3 t4 t5 : TypeId} : Has S0 w0 ((((((w.alloc (.cells c0 t0)).alloc (.cells c1 t1)).alloc (.cells c2 t2)).alloc (.cells c3 t3)).alloc (.cells c4 t4)).alloc (.cells c5 t5)) (x :: y :: z :: .blk (w.heap.size + 5) c5 :: .blk (w.heap.size + 4) c4 :: .blk (w.heap.size + 3) c3 :: .blk (w.heap.size + 2) c2 :: .blk (w.heap.size + 1) c1 :: .blk w.heap.size c0 :: rs) :=
  h.new6.perm (perm_past3 x y z [.blk (w.heap.size + 5) c5, .blk (w.heap.size + 4) c4, .blk (w.heap.size + 3) c3, .blk (w.heap.size + 2) c2, .blk (w.heap.size + 1) c1, .blk w.heap.size c0] rs)
theorem Has.al26 {S0 : List Nat} {w0 w : World} {x y : Res} {rs : List Res} (h : Has S0 w0 w (x :: y :: rs)) {c0 c1 c2 c3 c4 c5 : Array Value} {t0 t1 t2 t3 t4 t5 : TypeId} : Has S0 w0 ((((((w.alloc (.cells c0 t0)).alloc (.cells c1 t1)).alloc (.cells c2 t2)).alloc (.cells c3 t3)).alloc (.cells c4 t4)).alloc (.cells c5 t5)) (x :: y :: .blk (w.heap.size + 5) c5 :: .blk (w.heap.size + 4) c4 :: .blk (w.heap.size + 3) c3 :: .blk (w.heap.size + 2) c2 :: .blk (w.heap.size + 1) c1 :: .blk w.heap.size c0 :: rs) :=
  h.new6.perm (perm_past2 x y [.blk (w.heap.size + 5) c5, .blk (w.heap.size + 4) c4, .blk (w.heap.size + 3) c3, .blk (w.heap.size + 2) c2, .blk (w.heap.size + 1) c1, .blk w.heap.size c0] rs)
theorem Has.new7 {S0 : List Nat} {w0 w : World} {rs : List Res} (h : Has S0 w0 w rs) {c0 c1 c2 c3 c4 c5 c6 : Array Value} {t0 t1 t2 t3 t4 t5 t6 : TypeId} : Has S0 w0 (((((((w.alloc (.cells c0 t0)).alloc (.cells c1 t1)).alloc (.cells c2 t2)).alloc (.cells c3 t3)).alloc (.cells c4 t4)).alloc (.cells c5 t5)).alloc (.cells c6 t6)) (.blk (w.heap.size + 6) c6 :: .blk (w.heap.size + 5) c5 :: .blk (w.heap.size + 4) c4 :: .blk (w.heap.size + 3) c3 :: .blk (w.heap.size + 2) c2 :: .blk (w.heap.size + 1) c1 :: .blk w.heap.size c0 :: rs) := by
  exact (h.new6).new (by simp) _ _
theorem Has.al7 {S0 : List Nat} {w0 w : World} {x : Res} {rs : List Res} (h : Has S0 w0 w (x :: rs)) {c0 c1 c2 c3 c4 c5 c6 : Array Value} {t0 t1 t2 t3 t4 t5 t6 : TypeId} : Has S0 w0 (((((((w.alloc (.cells c0 t0)).alloc (.cells c1 t1)).alloc (.cells c2 t2)).alloc (.cells c3 t3)).alloc (.cells c4 t4)).alloc (.cells c5 t5)).alloc (.cells c6 t6)) (x :: .blk (w.heap.size + 6) c6 :: .blk (w.heap.size + 5) c5 :: .blk (w.heap.size + 4) c4 :: .blk (w.heap.size + 3) c3 :: .blk (w.heap.size + 2) c2 :: .blk (w.heap.size + 1) c1 :: .blk w.heap.size c0 :: rs) :=
  h.new7.perm (perm_past1 x [.blk (w.heap.size + 6) c6, .blk (w.heap.size + 5) c5, .blk (w.heap.size + 4) c4, .blk (w.heap.size + 3) c3, .blk (w.heap.size + 2) c2, .blk (w.heap.size + 1) c1, .blk w.heap.size c0] rs)
theorem Has.al37 {S0 : List Nat} {w0 w : World} {x y z : Res} {rs : List Res} (h : Has S0 w0 w (x :: y :: z :: rs)) {c0 c1 c2 c3 c4 c5 c6 : Array Value} {t0 t1 t2 t3 t4 t5 t6 : TypeId} : Has S0 w0 (((((((w.alloc (.cells c0 t0)).alloc (.cells c1 t1)).alloc (.cells c2 t2)).alloc (.cells c3 t3)).alloc (.cells c4 t4)).alloc (.cells c5 t5)).alloc (.cells c6 t6)) (x :: y :: z :: .blk (w.heap.size + 6) c6 :: .blk (w.heap.size + 5) c5 :: .blk (w.heap.size + 4) c4 :: .blk (w.heap.size + 3) c3 :: .blk (w.heap.size + 2) c2 :: .blk (w.heap.size + 1) c1 :: .blk w.heap.size c0 :: rs) :=
  h.new7.perm (perm_past3 x y z [.blk (w.heap.size + 6) c6, .blk (w.heap.size + 5) c5, .blk (w.heap.size + 4) c4, .blk (w.heap.size + 3) c3, .blk (w.heap.size + 2) c2, .blk (w.heap.size + 1) c1, .blk w.heap.size c0] rs)
theorem Has.al27 {S0 : List Nat} {w0 w : World} {x y : Res} {rs : List Res} (h : Has S0 w0 w (x :: y :: rs)) {c0 c1 c2 c3 c4 c5 c6 : Array Value} {t0 t1 t2 t3 t4 t5 t6 : TypeId} : Has S0 w0 (((((((w.alloc (.cells c0 t0)).alloc (.cells c1 t1)).alloc (.cells c2 t2)).alloc (.cells c3 t3)).alloc (.cells c4 t4)).alloc (.cells c5 t5)).alloc (.cells c6 t6)) (x :: y :: .blk (w.heap.size + 6) c6 :: .blk (w.heap.size + 5) c5 :: .blk (w.heap.size + 4) c4 :: .blk (w.heap.size + 3) c3 :: .blk (w.heap.size + 2) c2 :: .blk (w.heap.size + 1) c1 :: .blk w.heap.size c0 :: rs) :=
  h.new7.perm (perm_past2 x y [.blk (w.heap.size + 6) c6, .blk (w.heap.size + 5) c5, .blk (w.heap.size + 4) c4, .blk (w.heap.size + 3) c3, .blk (w.heap.size + 2) c2, .blk (w.heap.size + 1) c1, .blk w.heap.size c0] rs)
theorem Has.new8 {S0 : List Nat} {w0 w : World} {rs : List Res} (h : Has S0 w0 w rs) {c0 c1 c2 c3 c4 c5 c6 c7 : Array Value} {t0 t1 t2 t3 t4 t5 t6 t7 : TypeId} : Has S0 w0 ((((((((w.alloc (.cells c0 t0)).alloc (.cells c1 t1)).alloc (.cells c2 t2)).alloc (.cells c3 t3)).alloc (.cells c4 t4)).alloc (.cells c5 t5)).alloc (.cells c6 t6)).alloc (.cells c7 t7)) (.blk (w.heap.size + 7) c7 :: .blk (w.heap.size + 6) c6 :: .blk (w.heap.size + 5) c5 :: .blk (w.heap.size + 4) c4 :: .blk (w.heap.size + 3) c3 :: .blk (w.heap.size + 2) c2 :: .blk (w.heap.size + 1) c1 :: .blk w.heap.size c0 :: rs) := by
  exact (h.new7).new (by simp) _ _
theorem Has.al8 {S0 : List Nat} {w0 w : World} {x : Res} {rs : List Res} (h : Has S0 w0 w (x :: rs)) {c0 c1 c2 c3 c4 c5 c6 c7 : Array Value} {t0 t1 t2 t3 t4 t5 t6 t7 : TypeId} : Has S0 w0 ((((((((w.alloc (.cells c0 t0)).alloc (.cells c1 t1)).alloc (.cells c2 t2)).alloc (.cells c3 t3)).alloc (.cells c4 t4)).alloc (.cells c5 t5)).alloc (.cells c6 t6)).alloc (.cells c7 t7)) (x :: .blk (w.heap.size + 7) c7 :: .blk (w.heap.size + 6) c6 :: .blk (w.heap.size + 5) c5 :: .blk (w.heap.size + 4) c4 :: .blk (w.heap.size + 3) c3 :: .blk (w.heap.size + 2) c2 :: .blk (w.heap.size + 1) c1 :: .blk w.heap.size c0 :: rs) :=
  h.new8.perm (perm_past1 x [.blk (w.heap.size + 7) c7, .blk (w.heap.size + 6) c6, .blk (w.heap.size + 5) c5, .blk (w.heap.size + 4) c4, .blk (w.heap.size + 3) c3, .blk (w.heap.size + 2) c2, .blk (w.heap.size + 1) c1, .blk w.heap.size c0] rs)
theorem Has.al38 {S0 : List Nat} {w0 w : World} {x y z : Res} {rs : List Res} (h : Has S0 w0 w (x :: y :: z :: rs)) {c0 c1 c2 c3 c4 c5 c6 c7 : Array Value} {t0 t1 t2 t3 t4 t5 t6 t7 : TypeId} : Has S0 w0 ((((((((w.alloc (.cells c0 t0)).alloc (.cells c1 t1)).alloc (.cells c2 t2)).alloc (.cells c3 t3)).alloc (.cells c4 t4)).alloc (.cells c5 t5)).alloc (.cells c6 t6)).alloc (.cells c7 t7)) (x :: y :: z :: .blk (w.heap.size + 7) c7 :: .blk (w.heap.size + 6) c6 :: .blk (w.heap.size + 5) c5 :: .blk (w.heap.size + 4) c4 :: .blk (w.heap.size + 3) c3 :: .blk (w.heap.size + 2) c2 :: .blk (w.heap.size + 1) c1 :: .blk w.heap.size c0 :: rs) :=
  h.new8.perm (perm_past3 x y z [.blk (w.heap.size + 7) c7, .blk (w.heap.size + 6) c6, .blk (w.heap.size + 5) c5, .blk (w.heap.size + 4) c4, .blk (w.heap.size + 3) c3, .blk (w.heap.size + 2) c2, .blk (w.heap.size + 1) c1, .blk w.heap.size c0] rs)
theorem Has.al28 {S0 : List Nat} {w0 w : World} {x y : Res} {rs : List Res} (h : Has S0 w0 w (x :: y :: rs)) {c0 c1 c2 c3 c4 c5 c6 c7 : Array Value} {t0 t1 t2 t3 t4 t5 t6 t7 : TypeId} : Has S0 w0 ((((((((w.alloc (.cells c0 t0)).alloc (.cells c1 t1)).alloc (.cells c2 t2)).alloc (.cells c3 t3)).alloc (.cells c4 t4)).alloc (.cells c5 t5)).alloc (.cells c6 t6)).alloc (.cells c7 t7)) (x :: y :: .blk (w.heap.size + 7) c7 :: .blk (w.heap.size + 6) c6 :: .blk (w.heap.size + 5) c5 :: .blk (w.heap.size + 4) c4 :: .blk (w.heap.size + 3) c3 :: .blk (w.heap.size + 2) c2 :: .blk (w.heap.size + 1) c1 :: .blk w.heap.size c0 :: rs) :=
  h.new8.perm (perm_past2 x y [.blk (w.heap.size + 7) c7, .blk (w.heap.size + 6) c6, .blk (w.heap.size + 5) c5, .blk (w.heap.size + 4) c4, .blk (w.heap.size + 3) c3, .blk (w.heap.size + 2) c2, .blk (w.heap.size + 1) c1, .blk w.heap.size c0] rs)
theorem Has.new9 {S0 : List Nat} {w0 w : World} {rs : List Res} (h : Has S0 w0 w rs) {c0 c1 c2 c3 c4 c5 c6 c7 c8 : Array Value} {t0 t1 t2 t3 t4 t5 t6 t7 t8 : TypeId} : Has S0 w0 (((((((((w.alloc (.cells c0 t0)).alloc (.cells c1 t1)).alloc (.cells c2 t2)).alloc (.cells c3 t3)).alloc (.cells c4 t4)).alloc (.cells c5 t5)).alloc (.cells c6 t6)).alloc (.cells c7 t7)).alloc (.cells c8 t8)) (.blk (w.heap.size + 8) c8 :: .blk (w.heap.size + 7) c7 :: .blk (w.heap.size + 6) c6 :: .blk (w.heap.size + 5) c5 :: .blk (w.heap.size + 4) c4 :: .blk (w.heap.size + 3) c3 :: .blk (w.heap.size + 2) c2 :: .blk (w.heap.size + 1) c1 :: .blk w.heap.size c0 :: rs) := by
  exact (h.new8).new (by simp) _ _
theorem Has.al9 {S0 : List Nat} {w0 w : World} {x : Res} {rs : List Res} (h : Has S0 w0 w (x :: rs)) {c0 c1 c2 c3 c4 c5 c6 c7 c8 : Array Value} {t0 t1 t2 t3 t4 t5 t6 t7 t8 : TypeId} : Has S0 w0 (((((((((w.alloc (.cells c0 t0)).alloc (.cells c1 t1)).alloc (.cells c2 t2)).alloc (.cells c3 t3)).alloc (.cells c4 t4)).alloc (.cells c5 t5)).alloc (.cells c6 t6)).alloc (.cells c7 t7)).alloc (.cells c8 t8)) (x :: .blk (w.heap.size + 8) c8 :: .blk (w.heap.size + 7) c7 :: .blk (w.heap.size + 6) c6 :: .blk (w.heap.size + 5) c5 :: .blk (w.heap.size + 4) c4 :: .blk (w.heap.size + 3) c3 :: .blk (w.heap.size + 2) c2 :: .blk (w.heap.size + 1) c1 :: .blk w.heap.size c0 :: rs) :=
  h.new9.perm (perm_past1 x [.blk (w.heap.size + 8) c8, .blk (w.heap.size + 7) c7, .blk (w.heap.size + 6) c6, .blk (w.heap.size + 5) c5, .blk (w.heap.size + 4) c4, .blk (w.heap.size + 3) c3, .blk (w.heap.size + 2) c2, .blk (w.heap.size + 1) c1, .blk w.heap.size c0] rs)
theorem Has.al39 {S0 : List Nat} {w0 w : World} {x y z : Res} {rs : List Res} (h : Has S0 w0 w (x :: y :: z :: rs)) {c0 c1 c2 c3 c4 c5 c6 c7 c8 : Array Value} {t0 t1 t2 t3 t4 t5 t6 t7 t8 : TypeId} : Has S0 w0 (((((((((w.alloc (.cells c0 t0)).alloc (.cells c1 t1)).alloc (.cells c2 t2)).alloc (.cells c3 t3)).alloc (.cells c4 t4)).alloc (.cells c5 t5)).alloc (.cells c6 t6)).alloc (.cells c7 t7)).alloc (.cells c8 t8)) (x :: y :: z :: .blk (w.heap.size + 8) c8 :: .blk (w.heap.size + 7) c7 :: .blk (w.heap.size + 6) c6 :: .blk (w.heap.size + 5) c5 :: .blk (w.heap.size + 4) c4 :: .blk (w.heap.size + 3) c3 :: .blk (w.heap.size + 2) c2 :: .blk (w.heap.size + 1) c1 :: .blk w.heap.size c0 :: rs) :=
  h.new9.perm (perm_past3 x y z [.blk (w.heap.size + 8) c8, .blk (w.heap.size + 7) c7, .blk (w.heap.size + 6) c6, .blk (w.heap.size + 5) c5, .blk (w.heap.size + 4) c4, .blk (w.heap.size + 3) c3, .blk (w.heap.size + 2) c2, .blk (w.heap.size + 1) c1, .blk w.heap.size c0] rs)
theorem Has.al29 {S0 : List Nat} {w0 w : World} {x y : Res} {rs : List Res} (h : Has S0 w0 w (x :: y :: rs)) {c0 c1 c2 c3 c4 c5 c6 c7 c8 : Array Value} {t0 t1 t2 t3 t4 t5 t6 t7 t8 : TypeId} : Has S0 w0 (((((((((w.alloc (.cells c0 t0)).alloc (.cells c1 t1)).alloc (.cells c2 t2)).alloc (.cells c3 t3)).alloc (.cells c4 t4)).alloc (.cells c5 t5)).alloc (.cells c6 t6)).alloc (.cells c7 t7)).alloc (.cells c8 t8)) (x :: y :: .blk (w.heap.size + 8) c8 :: .blk (w.heap.size + 7) c7 :: .blk (w.heap.size + 6) c6 :: .blk (w.heap.size + 5) c5 :: .blk (w.heap.size + 4) c4 :: .blk (w.heap.size + 3) c3 :: .blk (w.heap.size + 2) c2 :: .blk (w.heap.size + 1) c1 :: .blk w.heap.size c0 :: rs) :=
  h.new9.perm (perm_past2 x y [.blk (w.heap.size + 8) c8, .blk (w.heap.size + 7) c7, .blk (w.heap.size + 6) c6, .blk (w.heap.size + 5) c5, .blk (w.heap.size + 4) c4, .blk (w.heap.size + 3) c3, .blk (w.heap.size + 2) c2, .blk (w.heap.size + 1) c1, .blk w.heap.size c0] rs)
theorem Has.cut1 {S0 : List Nat} {w0 w : World} {x y0 : Res} {rs : List Res} (h : Has S0 w0 w (x :: y0 :: rs)) : Has S0 w0 w (x :: rs) := h.drop1
theorem Has.cut31 {S0 : List Nat} {w0 w : World} {x y z y0 : Res} {rs : List Res} (h : Has S0 w0 w (x :: y :: z :: y0 :: rs)) : Has S0 w0 w (x :: y :: z :: rs) :=
  ((h.perm (perm_past3 x y z [y0] rs).symm).tail)
theorem Has.cut2 {S0 : List Nat} {w0 w : World} {x y0 y1 : Res} {rs : List Res} (h : Has S0 w0 w (x :: y0 :: y1 :: rs)) : Has S0 w0 w (x :: rs) := h.drop1.drop1
theorem Has.cut32 {S0 : List Nat} {w0 w : World} {x y z y0 y1 : Res} {rs : List Res} (h : Has S0 w0 w (x :: y :: z :: y0 :: y1 :: rs)) : Has S0 w0 w (x :: y :: z :: rs) :=
  ((h.perm (perm_past3 x y z [y0, y1] rs).symm).tail.tail)
theorem Has.cut3 {S0 : List Nat} {w0 w : World} {x y0 y1 y2 : Res} {rs : List Res} (h : Has S0 w0 w (x :: y0 :: y1 :: y2 :: rs)) : Has S0 w0 w (x :: rs) := h.drop1.drop1.drop1
theorem Has.cut33 {S0 : List Nat} {w0 w : World} {x y z y0 y1 y2 : Res} {rs : List Res} (h : Has S0 w0 w (x :: y :: z :: y0 :: y1 :: y2 :: rs)) : Has S0 w0 w (x :: y :: z :: rs) :=
  ((h.perm (perm_past3 x y z [y0, y1, y2] rs).symm).tail.tail.tail)
theorem Has.cut4 {S0 : List Nat} {w0 w : World} {x y0 y1 y2 y3 : Res} {rs : List Res} (h : Has S0 w0 w (x :: y0 :: y1 :: y2 :: y3 :: rs)) : Has S0 w0 w (x :: rs) := h.drop1.drop1.drop1.drop1
theorem Has.cut34 {S0 : List Nat} {w0 w : World} {x y z y0 y1 y2 y3 : Res} {rs : List Res} (h : Has S0 w0 w (x :: y :: z :: y0 :: y1 :: y2 :: y3 :: rs)) : Has S0 w0 w (x :: y :: z :: rs) :=
  ((h.perm (perm_past3 x y z [y0, y1, y2, y3] rs).symm).tail.tail.tail.tail)
theorem Has.cut5 {S0 : List Nat} {w0 w : World} {x y0 y1 y2 y3 y4 : Res} {rs : List Res} (h : Has S0 w0 w (x :: y0 :: y1 :: y2 :: y3 :: y4 :: rs)) : Has S0 w0 w (x :: rs) := h.drop1.drop1.drop1.drop1.drop1
theorem Has.cut35 {S0 : List Nat} {w0 w : World} {x y z y0 y1 y2 y3 y4 : Res} {rs : List Res} (h : Has S0 w0 w (x :: y :: z :: y0 :: y1 :: y2 :: y3 :: y4 :: rs)) : Has S0 w0 w (x :: y :: z :: rs) :=
  ((h.perm (perm_past3 x y z [y0, y1, y2, y3, y4] rs).symm).tail.tail.tail.tail.tail)
theorem Has.cut6 {S0 : List Nat} {w0 w : World} {x y0 y1 y2 y3 y4 y5 : Res} {rs : List Res} (h : Has S0 w0 w (x :: y0 :: y1 :: y2 :: y3 :: y4 :: y5 :: rs)) : Has S0 w0 w (x :: rs) := h.drop1.drop1.drop1.drop1.drop1.drop1
theorem Has.cut36 {S0 : List Nat} {w0 w : World} {x y z y0 y1 y2 y3 y4 y5 : Res} {rs : List Res} (h : Has S0 w0 w (x :: y :: z :: y0 :: y1 :: y2 :: y3 :: y4 :: y5 :: rs)) : Has S0 w0 w (x :: y :: z :: rs) :=
  ((h.perm (perm_past3 x y z [y0, y1, y2, y3, y4, y5] rs).symm).tail.tail.tail.tail.tail.tail)
theorem Has.cut7 {S0 : List Nat} {w0 w : World} {x y0 y1 y2 y3 y4 y5 y6 : Res} {rs : List Res} (h : Has S0 w0 w (x :: y0 :: y1 :: y2 :: y3 :: y4 :: y5 :: y6 :: rs)) : Has S0 w0 w (x :: rs) := h.drop1.drop1.drop1.drop1.drop1.drop1.drop1
theorem Has.cut37 {S0 : List Nat} {w0 w : World} {x y z y0 y1 y2 y3 y4 y5 y6 : Res} {rs : List Res} (h : Has S0 w0 w (x :: y :: z :: y0 :: y1 :: y2 :: y3 :: y4 :: y5 :: y6 :: rs)) : Has S0 w0 w (x :: y :: z :: rs) :=
  ((h.perm (perm_past3 x y z [y0, y1, y2, y3, y4, y5, y6] rs).symm).tail.tail.tail.tail.tail.tail.tail)
theorem Has.cut8 {S0 : List Nat} {w0 w : World} {x y0 y1 y2 y3 y4 y5 y6 y7 : Res} {rs : List Res} (h : Has S0 w0 w (x :: y0 :: y1 :: y2 :: y3 :: y4 :: y5 :: y6 :: y7 :: rs)) : Has S0 w0 w (x :: rs) := h.drop1.drop1.drop1.drop1.drop1.drop1.drop1.drop1
theorem Has.cut38 {S0 : List Nat} {w0 w : World} {x y z y0 y1 y2 y3 y4 y5 y6 y7 : Res} {rs : List Res} (h : Has S0 w0 w (x :: y :: z :: y0 :: y1 :: y2 :: y3 :: y4 :: y5 :: y6 :: y7 :: rs)) : Has S0 w0 w (x :: y :: z :: rs) :=
  ((h.perm (perm_past3 x y z [y0, y1, y2, y3, y4, y5, y6, y7] rs).symm).tail.tail.tail.tail.tail.tail.tail.tail)
theorem Has.cut9 {S0 : List Nat} {w0 w : World} {x y0 y1 y2 y3 y4 y5 y6 y7 y8 : Res} {rs : List Res} (h : Has S0 w0 w (x :: y0 :: y1 :: y2 :: y3 :: y4 :: y5 :: y6 :: y7 :: y8 :: rs)) : Has S0 w0 w (x :: rs) := h.drop1.drop1.drop1.drop1.drop1.drop1.drop1.drop1.drop1
theorem Has.cut39 {S0 : List Nat} {w0 w : World} {x y z y0 y1 y2 y3 y4 y5 y6 y7 y8 : Res} {rs : List Res} (h : Has S0 w0 w (x :: y :: z :: y0 :: y1 :: y2 :: y3 :: y4 :: y5 :: y6 :: y7 :: y8 :: rs)) : Has S0 w0 w (x :: y :: z :: rs) :=
  ((h.perm (perm_past3 x y z [y0, y1, y2, y3, y4, y5, y6, y7, y8] rs).symm).tail.tail.tail.tail.tail.tail.tail.tail.tail)
theorem Has.done1_N {S0 : List Nat} {w0 w w' : World} {rs : List Res} {b0 : Nat} {c0 : Array Value} (h : Has S0 w0 w (.blk b0 c0 :: rs)) (t : Touch [b0] w w') : Has S0 w0 w' (rs) :=
  Has.leave (ys := [.blk b0 c0]) (h) t (by simp [foots, Res.foot])
theorem Has.done2_N {S0 : List Nat} {w0 w w' : World} {rs : List Res} {b0 b1 : Nat} {c0 c1 : Array Value} (h : Has S0 w0 w (.blk b0 c0 :: .blk b1 c1 :: rs)) (t : Touch [b0, b1] w w') : Has S0 w0 w' (rs) :=
  Has.leave (ys := [.blk b0 c0, .blk b1 c1]) (h) t (by simp [foots, Res.foot])
theorem Has.done3_N {S0 : List Nat} {w0 w w' : World} {rs : List Res} {b0 b1 b2 : Nat} {c0 c1 c2 : Array Value} (h : Has S0 w0 w (.blk b0 c0 :: .blk b1 c1 :: .blk b2 c2 :: rs)) (t : Touch [b0, b1, b2] w w') : Has S0 w0 w' (rs) :=
  Has.leave (ys := [.blk b0 c0, .blk b1 c1, .blk b2 c2]) (h) t (by simp [foots, Res.foot])
theorem Has.done4_N {S0 : List Nat} {w0 w w' : World} {rs : List Res} {b0 b1 b2 b3 : Nat} {c0 c1 c2 c3 : Array Value} (h : Has S0 w0 w (.blk b0 c0 :: .blk b1 c1 :: .blk b2 c2 :: .blk b3 c3 :: rs)) (t : Touch [b0, b1, b2, b3] w w') : Has S0 w0 w' (rs) :=
  Has.leave (ys := [.blk b0 c0, .blk b1 c1, .blk b2 c2, .blk b3 c3]) (h) t (by simp [foots, Res.foot])
theorem Has.done5_N {S0 : List Nat} {w0 w w' : World} {rs : List Res} {b0 b1 b2 b3 b4 : Nat} {c0 c1 c2 c3 c4 : Array Value} (h : Has S0 w0 w (.blk b0 c0 :: .blk b1 c1 :: .blk b2 c2 :: .blk b3 c3 :: .blk b4 c4 :: rs)) (t : Touch [b0, b1, b2, b3, b4] w w') : Has S0 w0 w' (rs) :=
  Has.leave (ys := [.blk b0 c0, .blk b1 c1, .blk b2 c2, .blk b3 c3, .blk b4 c4]) (h) t (by simp [foots, Res.foot])
theorem Has.done6_N {S0 : List Nat} {w0 w w' : World} {rs : List Res} {b0 b1 b2 b3 b4 b5 : Nat} {c0 c1 c2 c3 c4 c5 : Array Value} (h : Has S0 w0 w (.blk b0 c0 :: .blk b1 c1 :: .blk b2 c2 :: .blk b3 c3 :: .blk b4 c4 :: .blk b5 c5 :: rs)) (t : Touch [b0, b1, b2, b3, b4, b5] w w') : Has S0 w0 w' (rs) :=
  Has.leave (ys := [.blk b0 c0, .blk b1 c1, .blk b2 c2, .blk b3 c3, .blk b4 c4, .blk b5 c5]) (h) t (by simp [foots, Res.foot])
theorem Has.done7_N {S0 : List Nat} {w0 w w' : World} {rs : List Res} {b0 b1 b2 b3 b4 b5 b6 : Nat} {c0 c1 c2 c3 c4 c5 c6 : Array Value} (h : Has S0 w0 w (.blk b0 c0 :: .blk b1 c1 :: .blk b2 c2 :: .blk b3 c3 :: .blk b4 c4 :: .blk b5 c5 :: .blk b6 c6 :: rs)) (t : Touch [b0, b1, b2, b3, b4, b5, b6] w w') : Has S0 w0 w' (rs) :=
  Has.leave (ys := [.blk b0 c0, .blk b1 c1, .blk b2 c2, .blk b3 c3, .blk b4 c4, .blk b5 c5, .blk b6 c6]) (h) t (by simp [foots, Res.foot])
theorem Has.done8_N {S0 : List Nat} {w0 w w' : World} {rs : List Res} {b0 b1 b2 b3 b4 b5 b6 b7 : Nat} {c0 c1 c2 c3 c4 c5 c6 c7 : Array Value} (h : Has S0 w0 w (.blk b0 c0 :: .blk b1 c1 :: .blk b2 c2 :: .blk b3 c3 :: .blk b4 c4 :: .blk b5 c5 :: .blk b6 c6 :: .blk b7 c7 :: rs)) (t : Touch [b0, b1, b2, b3, b4, b5, b6, b7] w w') : Has S0 w0 w' (rs) :=
  Has.leave (ys := [.blk b0 c0, .blk b1 c1, .blk b2 c2, .blk b3 c3, .blk b4 c4, .blk b5 c5, .blk b6 c6, .blk b7 c7]) (h) t (by simp [foots, Res.foot])
theorem Has.done9_N {S0 : List Nat} {w0 w w' : World} {rs : List Res} {b0 b1 b2 b3 b4 b5 b6 b7 b8 : Nat} {c0 c1 c2 c3 c4 c5 c6 c7 c8 : Array Value} (h : Has S0 w0 w (.blk b0 c0 :: .blk b1 c1 :: .blk b2 c2 :: .blk b3 c3 :: .blk b4 c4 :: .blk b5 c5 :: .blk b6 c6 :: .blk b7 c7 :: .blk b8 c8 :: rs)) (t : Touch [b0, b1, b2, b3, b4, b5, b6, b7, b8] w w') : Has S0 w0 w' (rs) :=
  Has.leave (ys := [.blk b0 c0, .blk b1 c1, .blk b2 c2, .blk b3 c3, .blk b4 c4, .blk b5 c5, .blk b6 c6, .blk b7 c7, .blk b8 c8]) (h) t (by simp [foots, Res.foot])
theorem Has.done1 {S0 : List Nat} {w0 w w' : World} {x : Res} {rs : List Res} {b0 : Nat} {c0 : Array Value} (h : Has S0 w0 w (x :: .blk b0 c0 :: rs)) (t : Touch [b0] w w') : Has S0 w0 w' (x :: rs) :=
  Has.leave (ys := [.blk b0 c0]) (h.perm (perm_past1 x [.blk b0 c0] rs).symm) t (by simp [foots, Res.foot])
theorem Has.done2 {S0 : List Nat} {w0 w w' : World} {x : Res} {rs : List Res} {b0 b1 : Nat} {c0 c1 : Array Value} (h : Has S0 w0 w (x :: .blk b0 c0 :: .blk b1 c1 :: rs)) (t : Touch [b0, b1] w w') : Has S0 w0 w' (x :: rs) :=
  Has.leave (ys := [.blk b0 c0, .blk b1 c1]) (h.perm (perm_past1 x [.blk b0 c0, .blk b1 c1] rs).symm) t (by simp [foots, Res.foot])
theorem Has.done3 {S0 : List Nat} {w0 w w' : World} {x : Res} {rs : List Res} {b0 b1 b2 : Nat} {c0 c1 c2 : Array Value} (h : Has S0 w0 w (x :: .blk b0 c0 :: .blk b1 c1 :: .blk b2 c2 :: rs)) (t : Touch [b0, b1, b2] w w') : Has S0 w0 w' (x :: rs) :=
  Has.leave (ys := [.blk b0 c0, .blk b1 c1, .blk b2 c2]) (h.perm (perm_past1 x [.blk b0 c0, .blk b1 c1, .blk b2 c2] rs).symm) t (by simp [foots, Res.foot])
theorem Has.done4 {S0 : List Nat} {w0 w w' : World} {x : Res} {rs : List Res} {b0 b1 b2 b3 : Nat} {c0 c1 c2 c3 : Array Value} (h : Has S0 w0 w (x :: .blk b0 c0 :: .blk b1 c1 :: .blk b2 c2 :: .blk b3 c3 :: rs)) (t : Touch [b0, b1, b2, b3] w w') : Has S0 w0 w' (x :: rs) :=
  Has.leave (ys := [.blk b0 c0, .blk b1 c1, .blk b2 c2, .blk b3 c3]) (h.perm (perm_past1 x [.blk b0 c0, .blk b1 c1, .blk b2 c2, .blk b3 c3] rs).symm) t (by simp [foots, Res.foot])
theorem Has.done5 {S0 : List Nat} {w0 w w' : World} {x : Res} {rs : List Res} {b0 b1 b2 b3 b4 : Nat} {c0 c1 c2 c3 c4 : Array Value} (h : Has S0 w0 w (x :: .blk b0 c0 :: .blk b1 c1 :: .blk b2 c2 :: .blk b3 c3 :: .blk b4 c4 :: rs)) (t : Touch [b0, b1, b2, b3, b4] w w') : Has S0 w0 w' (x :: rs) :=
  Has.leave (ys := [.blk b0 c0, .blk b1 c1, .blk b2 c2, .blk b3 c3, .blk b4 c4]) (h.perm (perm_past1 x [.blk b0 c0, .blk b1 c1, .blk b2 c2, .blk b3 c3, .blk b4 c4] rs).symm) t (by simp [foots, Res.foot])
theorem Has.done6 {S0 : List Nat} {w0 w w' : World} {x : Res} {rs : List Res} {b0 b1 b2 b3 b4 b5 : Nat} {c0 c1 c2 c3 c4 c5 : Array Value} (h : Has S0 w0 w (x :: .blk b0 c0 :: .blk b1 c1 :: .blk b2 c2 :: .blk b3 c3 :: .blk b4 c4 :: .blk b5 c5 :: rs)) (t : Touch [b0, b1, b2, b3, b4, b5] w w') : Has S0 w0 w' (x :: rs) :=
  Has.leave (ys := [.blk b0 c0, .blk b1 c1, .blk b2 c2, .blk b3 c3, .blk b4 c4, .blk b5 c5]) (h.perm (perm_past1 x [.blk b0 c0, .blk b1 c1, .blk b2 c2, .blk b3 c3, .blk b4 c4, .blk b5 c5] rs).symm) t (by simp [foots, Res.foot])
theorem Has.done7 {S0 : List Nat} {w0 w w' : World} {x : Res} {rs : List Res} {b0 b1 b2 b3 b4 b5 b6 : Nat} {c0 c1 c2 c3 c4 c5 c6 : Array Value} (h : Has S0 w0 w (x :: .blk b0 c0 :: .blk b1 c1 :: .blk b2 c2 :: .blk b3 c3 :: .blk b4 c4 :: .blk b5 c5 :: .blk b6 c6 :: rs)) (t : Touch [b0, b1, b2, b3, b4, b5, b6] w w') : Has S0 w0 w' (x :: rs) :=
  Has.leave (ys := [.blk b0 c0, .blk b1 c1, .blk b2 c2, .blk b3 c3, .blk b4 c4, .blk b5 c5, .blk b6 c6]) (h.perm (perm_past1 x [.blk b0 c0, .blk b1 c1, .blk b2 c2, .blk b3 c3, .blk b4 c4, .blk b5 c5, .blk b6 c6] rs).symm) t (by simp [foots, Res.foot])
theorem Has.done8 {S0 : List Nat} {w0 w w' : World} {x : Res} {rs : List Res} {b0 b1 b2 b3 b4 b5 b6 b7 : Nat} {c0 c1 c2 c3 c4 c5 c6 c7 : Array Value} (h : Has S0 w0 w (x :: .blk b0 c0 :: .blk b1 c1 :: .blk b2 c2 :: .blk b3 c3 :: .blk b4 c4 :: .blk b5 c5 :: .blk b6 c6 :: .blk b7 c7 :: rs)) (t : Touch [b0, b1, b2, b3, b4, b5, b6, b7] w w') : Has S0 w0 w' (x :: rs) :=
  Has.leave (ys := [.blk b0 c0, .blk b1 c1, .blk b2 c2, .blk b3 c3, .blk b4 c4, .blk b5 c5, .blk b6 c6, .blk b7 c7]) (h.perm (perm_past1 x [.blk b0 c0, .blk b1 c1, .blk b2 c2, .blk b3 c3, .blk b4 c4, .blk b5 c5, .blk b6 c6, .blk b7 c7] rs).symm) t (by simp [foots, Res.foot])
theorem Has.done9 {S0 : List Nat} {w0 w w' : World} {x : Res} {rs : List Res} {b0 b1 b2 b3 b4 b5 b6 b7 b8 : Nat} {c0 c1 c2 c3 c4 c5 c6 c7 c8 : Array Value} (h : Has S0 w0 w (x :: .blk b0 c0 :: .blk b1 c1 :: .blk b2 c2 :: .blk b3 c3 :: .blk b4 c4 :: .blk b5 c5 :: .blk b6 c6 :: .blk b7 c7 :: .blk b8 c8 :: rs)) (t : Touch [b0, b1, b2, b3, b4, b5, b6, b7, b8] w w') : Has S0 w0 w' (x :: rs) :=
  Has.leave (ys := [.blk b0 c0, .blk b1 c1, .blk b2 c2, .blk b3 c3, .blk b4 c4, .blk b5 c5, .blk b6 c6, .blk b7 c7, .blk b8 c8]) (h.perm (perm_past1 x [.blk b0 c0, .blk b1 c1, .blk b2 c2, .blk b3 c3, .blk b4 c4, .blk b5 c5, .blk b6 c6, .blk b7 c7, .blk b8 c8] rs).symm) t (by simp [foots, Res.foot])
theorem Has.done1_2 {S0 : List Nat} {w0 w w' : World} {x y : Res} {rs : List Res} {b0 : Nat} {c0 : Array Value} (h : Has S0 w0 w (x :: y :: .blk b0 c0 :: rs)) (t : Touch [b0] w w') : Has S0 w0 w' (x :: y :: rs) :=
  Has.leave (ys := [.blk b0 c0]) (h.perm (perm_past2 x y [.blk b0 c0] rs).symm) t (by simp [foots, Res.foot])
theorem Has.done2_2 {S0 : List Nat} {w0 w w' : World} {x y : Res} {rs : List Res} {b0 b1 : Nat} {c0 c1 : Array Value} (h : Has S0 w0 w (x :: y :: .blk b0 c0 :: .blk b1 c1 :: rs)) (t : Touch [b0, b1] w w') : Has S0 w0 w' (x :: y :: rs) :=
  Has.leave (ys := [.blk b0 c0, .blk b1 c1]) (h.perm (perm_past2 x y [.blk b0 c0, .blk b1 c1] rs).symm) t (by simp [foots, Res.foot])
theorem Has.done3_2 {S0 : List Nat} {w0 w w' : World} {x y : Res} {rs : List Res} {b0 b1 b2 : Nat} {c0 c1 c2 : Array Value} (h : Has S0 w0 w (x :: y :: .blk b0 c0 :: .blk b1 c1 :: .blk b2 c2 :: rs)) (t : Touch [b0, b1, b2] w w') : Has S0 w0 w' (x :: y :: rs) :=
  Has.leave (ys := [.blk b0 c0, .blk b1 c1, .blk b2 c2]) (h.perm (perm_past2 x y [.blk b0 c0, .blk b1 c1, .blk b2 c2] rs).symm) t (by simp [foots, Res.foot])
theorem Has.done4_2 {S0 : List Nat} {w0 w w' : World} {x y : Res} {rs : List Res} {b0 b1 b2 b3 : Nat} {c0 c1 c2 c3 : Array Value} (h : Has S0 w0 w (x :: y :: .blk b0 c0 :: .blk b1 c1 :: .blk b2 c2 :: .blk b3 c3 :: rs)) (t : Touch [b0, b1, b2, b3] w w') : Has S0 w0 w' (x :: y :: rs) :=
  Has.leave (ys := [.blk b0 c0, .blk b1 c1, .blk b2 c2, .blk b3 c3]) (h.perm (perm_past2 x y [.blk b0 c0, .blk b1 c1, .blk b2 c2, .blk b3 c3] rs).symm) t (by simp [foots, Res.foot])
theorem Has.done5_2 {S0 : List Nat} {w0 w w' : World} {x y : Res} {rs : List Res} {b0 b1 b2 b3 b4 : Nat} {c0 c1 c2 c3 c4 : Array Value} (h : Has S0 w0 w (x :: y :: .blk b0 c0 :: .blk b1 c1 :: .blk b2 c2 :: .blk b3 c3 :: .blk b4 c4 :: rs)) (t : Touch [b0, b1, b2, b3, b4] w w') : Has S0 w0 w' (x :: y :: rs) :=
  Has.leave (ys := [.blk b0 c0, .blk b1 c1, .blk b2 c2, .blk b3 c3, .blk b4 c4]) (h.perm (perm_past2 x y [.blk b0 c0, .blk b1 c1, .blk b2 c2, .blk b3 c3, .blk b4 c4] rs).symm) t (by simp [foots, Res.foot])
theorem Has.done6_2 {S0 : List Nat} {w0 w w' : World} {x y : Res} {rs : List Res} {b0 b1 b2 b3 b4 b5 : Nat} {c0 c1 c2 c3 c4 c5 : Array Value} (h : Has S0 w0 w (x :: y :: .blk b0 c0 :: .blk b1 c1 :: .blk b2 c2 :: .blk b3 c3 :: .blk b4 c4 :: .blk b5 c5 :: rs)) (t : Touch [b0, b1, b2, b3, b4, b5] w w') : Has S0 w0 w' (x :: y :: rs) :=
  Has.leave (ys := [.blk b0 c0, .blk b1 c1, .blk b2 c2, .blk b3 c3, .blk b4 c4, .blk b5 c5]) (h.perm (perm_past2 x y [.blk b0 c0, .blk b1 c1, .blk b2 c2, .blk b3 c3, .blk b4 c4, .blk b5 c5] rs).symm) t (by simp [foots, Res.foot])
theorem Has.done7_2 {S0 : List Nat} {w0 w w' : World} {x y : Res} {rs : List Res} {b0 b1 b2 b3 b4 b5 b6 : Nat} {c0 c1 c2 c3 c4 c5 c6 : Array Value} (h : Has S0 w0 w (x :: y :: .blk b0 c0 :: .blk b1 c1 :: .blk b2 c2 :: .blk b3 c3 :: .blk b4 c4 :: .blk b5 c5 :: .blk b6 c6 :: rs)) (t : Touch [b0, b1, b2, b3, b4, b5, b6] w w') : Has S0 w0 w' (x :: y :: rs) :=
  Has.leave (ys := [.blk b0 c0, .blk b1 c1, .blk b2 c2, .blk b3 c3, .blk b4 c4, .blk b5 c5, .blk b6 c6]) (h.perm (perm_past2 x y [.blk b0 c0, .blk b1 c1, .blk b2 c2, .blk b3 c3, .blk b4 c4, .blk b5 c5, .blk b6 c6] rs).symm) t (by simp [foots, Res.foot])
theorem Has.done8_2 {S0 : List Nat} {w0 w w' : World} {x y : Res} {rs : List Res} {b0 b1 b2 b3 b4 b5 b6 b7 : Nat} {c0 c1 c2 c3 c4 c5 c6 c7 : Array Value} (h : Has S0 w0 w (x :: y :: .blk b0 c0 :: .blk b1 c1 :: .blk b2 c2 :: .blk b3 c3 :: .blk b4 c4 :: .blk b5 c5 :: .blk b6 c6 :: .blk b7 c7 :: rs)) (t : Touch [b0, b1, b2, b3, b4, b5, b6, b7] w w') : Has S0 w0 w' (x :: y :: rs) :=
  Has.leave (ys := [.blk b0 c0, .blk b1 c1, .blk b2 c2, .blk b3 c3, .blk b4 c4, .blk b5 c5, .blk b6 c6, .blk b7 c7]) (h.perm (perm_past2 x y [.blk b0 c0, .blk b1 c1, .blk b2 c2, .blk b3 c3, .blk b4 c4, .blk b5 c5, .blk b6 c6, .blk b7 c7] rs).symm) t (by simp [foots, Res.foot])
theorem Has.done9_2 {S0 : List Nat} {w0 w w' : World} {x y : Res} {rs : List Res} {b0 b1 b2 b3 b4 b5 b6 b7 b8 : Nat} {c0 c1 c2 c3 c4 c5 c6 c7 c8 : Array Value} (h : Has S0 w0 w (x :: y :: .blk b0 c0 :: .blk b1 c1 :: .blk b2 c2 :: .blk b3 c3 :: .blk b4 c4 :: .blk b5 c5 :: .blk b6 c6 :: .blk b7 c7 :: .blk b8 c8 :: rs)) (t : Touch [b0, b1, b2, b3, b4, b5, b6, b7, b8] w w') : Has S0 w0 w' (x :: y :: rs) :=
  Has.leave (ys := [.blk b0 c0, .blk b1 c1, .blk b2 c2, .blk b3 c3, .blk b4 c4, .blk b5 c5, .blk b6 c6, .blk b7 c7, .blk b8 c8]) (h.perm (perm_past2 x y [.blk b0 c0, .blk b1 c1, .blk b2 c2, .blk b3 c3, .blk b4 c4, .blk b5 c5, .blk b6 c6, .blk b7 c7, .blk b8 c8] rs).symm) t (by simp [foots, Res.foot])
theorem Has.done1_3 {S0 : List Nat} {w0 w w' : World} {x y z : Res} {rs : List Res} {b0 : Nat} {c0 : Array Value} (h : Has S0 w0 w (x :: y :: z :: .blk b0 c0 :: rs)) (t : Touch [b0] w w') : Has S0 w0 w' (x :: y :: z :: rs) :=
  Has.leave (ys := [.blk b0 c0]) (h.perm (perm_past3 x y z [.blk b0 c0] rs).symm) t (by simp [foots, Res.foot])
theorem Has.done2_3 {S0 : List Nat} {w0 w w' : World} {x y z : Res} {rs : List Res} {b0 b1 : Nat} {c0 c1 : Array Value} (h : Has S0 w0 w (x :: y :: z :: .blk b0 c0 :: .blk b1 c1 :: rs)) (t : Touch [b0, b1] w w') : Has S0 w0 w' (x :: y :: z :: rs) :=
  Has.leave (ys := [.blk b0 c0, .blk b1 c1]) (h.perm (perm_past3 x y z [.blk b0 c0, .blk b1 c1] rs).symm) t (by simp [foots, Res.foot])
theorem Has.done3_3 {S0 : List Nat} {w0 w w' : World} {x y z : Res} {rs : List Res} {b0 b1 b2 : Nat} {c0 c1 c2 : Array Value} (h : Has S0 w0 w (x :: y :: z :: .blk b0 c0 :: .blk b1 c1 :: .blk b2 c2 :: rs)) (t : Touch [b0, b1, b2] w w') : Has S0 w0 w' (x :: y :: z :: rs) :=
  Has.leave (ys := [.blk b0 c0, .blk b1 c1, .blk b2 c2]) (h.perm (perm_past3 x y z [.blk b0 c0, .blk b1 c1, .blk b2 c2] rs).symm) t (by simp [foots, Res.foot])
theorem Has.done4_3 {S0 : List Nat} {w0 w w' : World} {x y z : Res} {rs : List Res} {b0 b1 b2 b3 : Nat} {c0 c1 c2 c3 : Array Value} (h : Has S0 w0 w (x :: y :: z :: .blk b0 c0 :: .blk b1 c1 :: .blk b2 c2 :: .blk b3 c3 :: rs)) (t : Touch [b0, b1, b2, b3] w w') : Has S0 w0 w' (x :: y :: z :: rs) :=
  Has.leave (ys := [.blk b0 c0, .blk b1 c1, .blk b2 c2, .blk b3 c3]) (h.perm (perm_past3 x y z [.blk b0 c0, .blk b1 c1, .blk b2 c2, .blk b3 c3] rs).symm) t (by simp [foots, Res.foot])
theorem Has.done5_3 {S0 : List Nat} {w0 w w' : World} {x y z : Res} {rs : List Res} {b0 b1 b2 b3 b4 : Nat} {c0 c1 c2 c3 c4 : Array Value} (h : Has S0 w0 w (x :: y :: z :: .blk b0 c0 :: .blk b1 c1 :: .blk b2 c2 :: .blk b3 c3 :: .blk b4 c4 :: rs)) (t : Touch [b0, b1, b2, b3, b4] w w') : Has S0 w0 w' (x :: y :: z :: rs) :=
  Has.leave (ys := [.blk b0 c0, .blk b1 c1, .blk b2 c2, .blk b3 c3, .blk b4 c4]) (h.perm (perm_past3 x y z [.blk b0 c0, .blk b1 c1, .blk b2 c2, .blk b3 c3, .blk b4 c4] rs).symm) t (by simp [foots, Res.foot])
theorem Has.done6_3 {S0 : List Nat} {w0 w w' : World} {x y z : Res} {rs : List Res} {b0 b1 b2 b3 b4 b5 : Nat} {c0 c1 c2 c3 c4 c5 : Array Value} (h : Has S0 w0 w (x :: y :: z :: .blk b0 c0 :: .blk b1 c1 :: .blk b2 c2 :: .blk b3 c3 :: .blk b4 c4 :: .blk b5 c5 :: rs)) (t : Touch [b0, b1, b2, b3, b4, b5] w w') : Has S0 w0 w' (x :: y :: z :: rs) :=
  Has.leave (ys := [.blk b0 c0, .blk b1 c1, .blk b2 c2, .blk b3 c3, .blk b4 c4, .blk b5 c5]) (h.perm (perm_past3 x y z [.blk b0 c0, .blk b1 c1, .blk b2 c2, .blk b3 c3, .blk b4 c4, .blk b5 c5] rs).symm) t (by simp [foots, Res.foot])
theorem Has.done7_3 {S0 : List Nat} {w0 w w' : World} {x y z : Res} {rs : List Res} {b0 b1 b2 b3 b4 b5 b6 : Nat} {c0 c1 c2 c3 c4 c5 c6 : Array Value} (h : Has S0 w0 w (x :: y :: z :: .blk b0 c0 :: .blk b1 c1 :: .blk b2 c2 :: .blk b3 c3 :: .blk b4 c4 :: .blk b5 c5 :: .blk b6 c6 :: rs)) (t : Touch [b0, b1, b2, b3, b4, b5, b6] w w') : Has S0 w0 w' (x :: y :: z :: rs) :=
  Has.leave (ys := [.blk b0 c0, .blk b1 c1, .blk b2 c2, .blk b3 c3, .blk b4 c4, .blk b5 c5, .blk b6 c6]) (h.perm (perm_past3 x y z [.blk b0 c0, .blk b1 c1, .blk b2 c2, .blk b3 c3, .blk b4 c4, .blk b5 c5, .blk b6 c6] rs).symm) t (by simp [foots, Res.foot])
theorem Has.done8_3 {S0 : List Nat} {w0 w w' : World} {x y z : Res} {rs : List Res} {b0 b1 b2 b3 b4 b5 b6 b7 : Nat} {c0 c1 c2 c3 c4 c5 c6 c7 : Array Value} (h : Has S0 w0 w (x :: y :: z :: .blk b0 c0 :: .blk b1 c1 :: .blk b2 c2 :: .blk b3 c3 :: .blk b4 c4 :: .blk b5 c5 :: .blk b6 c6 :: .blk b7 c7 :: rs)) (t : Touch [b0, b1, b2, b3, b4, b5, b6, b7] w w') : Has S0 w0 w' (x :: y :: z :: rs) :=
  Has.leave (ys := [.blk b0 c0, .blk b1 c1, .blk b2 c2, .blk b3 c3, .blk b4 c4, .blk b5 c5, .blk b6 c6, .blk b7 c7]) (h.perm (perm_past3 x y z [.blk b0 c0, .blk b1 c1, .blk b2 c2, .blk b3 c3, .blk b4 c4, .blk b5 c5, .blk b6 c6, .blk b7 c7] rs).symm) t (by simp [foots, Res.foot])
theorem Has.done9_3 {S0 : List Nat} {w0 w w' : World} {x y z : Res} {rs : List Res} {b0 b1 b2 b3 b4 b5 b6 b7 b8 : Nat} {c0 c1 c2 c3 c4 c5 c6 c7 c8 : Array Value} (h : Has S0 w0 w (x :: y :: z :: .blk b0 c0 :: .blk b1 c1 :: .blk b2 c2 :: .blk b3 c3 :: .blk b4 c4 :: .blk b5 c5 :: .blk b6 c6 :: .blk b7 c7 :: .blk b8 c8 :: rs)) (t : Touch [b0, b1, b2, b3, b4, b5, b6, b7, b8] w w') : Has S0 w0 w' (x :: y :: z :: rs) :=
  Has.leave (ys := [.blk b0 c0, .blk b1 c1, .blk b2 c2, .blk b3 c3, .blk b4 c4, .blk b5 c5, .blk b6 c6, .blk b7 c7, .blk b8 c8]) (h.perm (perm_past3 x y z [.blk b0 c0, .blk b1 c1, .blk b2 c2, .blk b3 c3, .blk b4 c4, .blk b5 c5, .blk b6 c6, .blk b7 c7, .blk b8 c8] rs).symm) t (by simp [foots, Res.foot])
theorem Has.done1_4 {S0 : List Nat} {w0 w w' : World} {x y z u : Res} {rs : List Res} {b0 : Nat} {c0 : Array Value} (h : Has S0 w0 w (x :: y :: z :: u :: .blk b0 c0 :: rs)) (t : Touch [b0] w w') : Has S0 w0 w' (x :: y :: z :: u :: rs) :=
  Has.leave (ys := [.blk b0 c0]) (h.perm (perm_past4 x y z u [.blk b0 c0] rs).symm) t (by simp [foots, Res.foot])
theorem Has.done2_4 {S0 : List Nat} {w0 w w' : World} {x y z u : Res} {rs : List Res} {b0 b1 : Nat} {c0 c1 : Array Value} (h : Has S0 w0 w (x :: y :: z :: u :: .blk b0 c0 :: .blk b1 c1 :: rs)) (t : Touch [b0, b1] w w') : Has S0 w0 w' (x :: y :: z :: u :: rs) :=
  Has.leave (ys := [.blk b0 c0, .blk b1 c1]) (h.perm (perm_past4 x y z u [.blk b0 c0, .blk b1 c1] rs).symm) t (by simp [foots, Res.foot])
theorem Has.done3_4 {S0 : List Nat} {w0 w w' : World} {x y z u : Res} {rs : List Res} {b0 b1 b2 : Nat} {c0 c1 c2 : Array Value} (h : Has S0 w0 w (x :: y :: z :: u :: .blk b0 c0 :: .blk b1 c1 :: .blk b2 c2 :: rs)) (t : Touch [b0, b1, b2] w w') : Has S0 w0 w' (x :: y :: z :: u :: rs) :=
  Has.leave (ys := [.blk b0 c0, .blk b1 c1, .blk b2 c2]) (h.perm (perm_past4 x y z u [.blk b0 c0, .blk b1 c1, .blk b2 c2] rs).symm) t (by simp [foots, Res.foot])
theorem Has.done4_4 {S0 : List Nat} {w0 w w' : World} {x y z u : Res} {rs : List Res} {b0 b1 b2 b3 : Nat} {c0 c1 c2 c3 : Array Value} (h : Has S0 w0 w (x :: y :: z :: u :: .blk b0 c0 :: .blk b1 c1 :: .blk b2 c2 :: .blk b3 c3 :: rs)) (t : Touch [b0, b1, b2, b3] w w') : Has S0 w0 w' (x :: y :: z :: u :: rs) :=
  Has.leave (ys := [.blk b0 c0, .blk b1 c1, .blk b2 c2, .blk b3 c3]) (h.perm (perm_past4 x y z u [.blk b0 c0, .blk b1 c1, .blk b2 c2, .blk b3 c3] rs).symm) t (by simp [foots, Res.foot])
theorem Has.done5_4 {S0 : List Nat} {w0 w w' : World} {x y z u : Res} {rs : List Res} {b0 b1 b2 b3 b4 : Nat} {c0 c1 c2 c3 c4 : Array Value} (h : Has S0 w0 w (x :: y :: z :: u :: .blk b0 c0 :: .blk b1 c1 :: .blk b2 c2 :: .blk b3 c3 :: .blk b4 c4 :: rs)) (t : Touch [b0, b1, b2, b3, b4] w w') : Has S0 w0 w' (x :: y :: z :: u :: rs) :=
  Has.leave (ys := [.blk b0 c0, .blk b1 c1, .blk b2 c2, .blk b3 c3, .blk b4 c4]) (h.perm (perm_past4 x y z u [.blk b0 c0, .blk b1 c1, .blk b2 c2, .blk b3 c3, .blk b4 c4] rs).symm) t (by simp [foots, Res.foot])
theorem Has.done6_4 {S0 : List Nat} {w0 w w' : World} {x y z u : Res} {rs : List Res} {b0 b1 b2 b3 b4 b5 : Nat} {c0 c1 c2 c3 c4 c5 : Array Value} (h : Has S0 w0 w (x :: y :: z :: u :: .blk b0 c0 :: .blk b1 c1 :: .blk b2 c2 :: .blk b3 c3 :: .blk b4 c4 :: .blk b5 c5 :: rs)) (t : Touch [b0, b1, b2, b3, b4, b5] w w') : Has S0 w0 w' (x :: y :: z :: u :: rs) :=
  Has.leave (ys := [.blk b0 c0, .blk b1 c1, .blk b2 c2, .blk b3 c3, .blk b4 c4, .blk b5 c5]) (h.perm (perm_past4 x y z u [.blk b0 c0, .blk b1 c1, .blk b2 c2, .blk b3 c3, .blk b4 c4, .blk b5 c5] rs).symm) t (by simp [foots, Res.foot])
theorem Has.done7_4 {S0 : List Nat} {w0 w w' : World} {x y z u : Res} {rs : List Res} {b0 b1 b2 b3 b4 b5 b6 : Nat} {c0 c1 c2 c3 c4 c5 c6 : Array Value} (h : Has S0 w0 w (x :: y :: z :: u :: .blk b0 c0 :: .blk b1 c1 :: .blk b2 c2 :: .blk b3 c3 :: .blk b4 c4 :: .blk b5 c5 :: .blk b6 c6 :: rs)) (t : Touch [b0, b1, b2, b3, b4, b5, b6] w w') : Has S0 w0 w' (x :: y :: z :: u :: rs) :=
  Has.leave (ys := [.blk b0 c0, .blk b1 c1, .blk b2 c2, .blk b3 c3, .blk b4 c4, .blk b5 c5, .blk b6 c6]) (h.perm (perm_past4 x y z u [.blk b0 c0, .blk b1 c1, .blk b2 c2, .blk b3 c3, .blk b4 c4, .blk b5 c5, .blk b6 c6] rs).symm) t (by simp [foots, Res.foot])
theorem Has.done8_4 {S0 : List Nat} {w0 w w' : World} {x y z u : Res} {rs : List Res} {b0 b1 b2 b3 b4 b5 b6 b7 : Nat} {c0 c1 c2 c3 c4 c5 c6 c7 : Array Value} (h : Has S0 w0 w (x :: y :: z :: u :: .blk b0 c0 :: .blk b1 c1 :: .blk b2 c2 :: .blk b3 c3 :: .blk b4 c4 :: .blk b5 c5 :: .blk b6 c6 :: .blk b7 c7 :: rs)) (t : Touch [b0, b1, b2, b3, b4, b5, b6, b7] w w') : Has S0 w0 w' (x :: y :: z :: u :: rs) :=
  Has.leave (ys := [.blk b0 c0, .blk b1 c1, .blk b2 c2, .blk b3 c3, .blk b4 c4, .blk b5 c5, .blk b6 c6, .blk b7 c7]) (h.perm (perm_past4 x y z u [.blk b0 c0, .blk b1 c1, .blk b2 c2, .blk b3 c3, .blk b4 c4, .blk b5 c5, .blk b6 c6, .blk b7 c7] rs).symm) t (by simp [foots, Res.foot])
theorem Has.done9_4 {S0 : List Nat} {w0 w w' : World} {x y z u : Res} {rs : List Res} {b0 b1 b2 b3 b4 b5 b6 b7 b8 : Nat} {c0 c1 c2 c3 c4 c5 c6 c7 c8 : Array Value} (h : Has S0 w0 w (x :: y :: z :: u :: .blk b0 c0 :: .blk b1 c1 :: .blk b2 c2 :: .blk b3 c3 :: .blk b4 c4 :: .blk b5 c5 :: .blk b6 c6 :: .blk b7 c7 :: .blk b8 c8 :: rs)) (t : Touch [b0, b1, b2, b3, b4, b5, b6, b7, b8] w w') : Has S0 w0 w' (x :: y :: z :: u :: rs) :=
  Has.leave (ys := [.blk b0 c0, .blk b1 c1, .blk b2 c2, .blk b3 c3, .blk b4 c4, .blk b5 c5, .blk b6 c6, .blk b7 c7, .blk b8 c8]) (h.perm (perm_past4 x y z u [.blk b0 c0, .blk b1 c1, .blk b2 c2, .blk b3 c3, .blk b4 c4, .blk b5 c5, .blk b6 c6, .blk b7 c7, .blk b8 c8] rs).symm) t (by simp [foots, Res.foot])

/-- A store, into the third, the fourth .. block. -/
theorem Has.set2 {S0 : List Nat} {w0 w : World} {x y : Res} {b : Nat} {cs : Array Value} {rs : List Res} (h : Has S0 w0 w (x :: y :: .blk b cs :: rs)) (i : Nat) (v : Value) : Has S0 w0 (w.setCell ⟨b, i, none⟩ v) (x :: y :: .blk b (cs.setIfInBounds i v) :: rs) :=
  ((h.perm (perm_past2 x y [_] rs).symm).set i v).perm (perm_past2 x y [_] rs)
theorem Has.set3 {S0 : List Nat} {w0 w : World} {x y z : Res} {b : Nat} {cs : Array Value} {rs : List Res} (h : Has S0 w0 w (x :: y :: z :: .blk b cs :: rs)) (i : Nat) (v : Value) : Has S0 w0 (w.setCell ⟨b, i, none⟩ v) (x :: y :: z :: .blk b (cs.setIfInBounds i v) :: rs) :=
  ((h.perm (perm_past3 x y z [_] rs).symm).set i v).perm (perm_past3 x y z [_] rs)
theorem Has.set4 {S0 : List Nat} {w0 w : World} {x y z u : Res} {b : Nat} {cs : Array Value} {rs : List Res} (h : Has S0 w0 w (x :: y :: z :: u :: .blk b cs :: rs)) (i : Nat) (v : Value) : Has S0 w0 (w.setCell ⟨b, i, none⟩ v) (x :: y :: z :: u :: .blk b (cs.setIfInBounds i v) :: rs) :=
  ((h.perm (perm_past4 x y z u [_] rs).symm).set i v).perm (perm_past4 x y z u [_] rs)
theorem perm_past5 {α : Type} (x y z u v : α) (ys rs : List α) : (ys ++ x :: y :: z :: u :: v :: rs).Perm (x :: y :: z :: u :: v :: (ys ++ rs)) :=
  List.perm_middle.trans (List.Perm.cons x (perm_past4 y z u v ys rs))
theorem Has.set5 {S0 : List Nat} {w0 w : World} {x y z u v : Res} {b : Nat} {cs : Array Value} {rs : List Res} (h : Has S0 w0 w (x :: y :: z :: u :: v :: .blk b cs :: rs)) (i : Nat) (c : Value) : Has S0 w0 (w.setCell ⟨b, i, none⟩ c) (x :: y :: z :: u :: v :: .blk b (cs.setIfInBounds i c) :: rs) :=
  ((h.perm (perm_past5 x y z u v [_] rs).symm).set i c).perm (perm_past5 x y z u v [_] rs)
theorem Has.at_ {S0 : List Nat} {w0 w : World} {rs : List Res} (h : Has S0 w0 w rs) (i : Nat) {b : Nat} {cs : Array Value} (hi : rs[i]? = some (.blk b cs)) : Blk w b cs := h.all _ (List.mem_of_getElem? hi)
theorem Has.free {S0 : List Nat} {w0 w w' : World} {rs : List Res} (h : Has S0 w0 w rs) (t : Touch [] w w') : Has S0 w0 w' rs := h.grow t

/-- What a walk reads of a block. -/
def Own (w : World) (b : Nat) (cs : Array Value) : Prop := b < w.heap.size ∧ (∀ i, w.cell? ⟨b, i, none⟩ = cs[i]?) ∧ ∀ i, w.frozen? ⟨b, i, none⟩ = false

theorem Has.ne_at {S0 : List Nat} {w0 w : World} {rs : List Res} (h : Has S0 w0 w rs) (i j : Nat) {b c : Nat} {cs ds : Array Value} (hi : rs[i]? = some (.blk b cs)) (hj : rs[j]? = some (.blk c ds)) (hij : i < j) : b ≠ c := by
  have hp := h.apart
  rw [List.pairwise_iff_getElem] at hp
  obtain ⟨hi1, hi2⟩ := List.getElem?_eq_some_iff.1 hi
  obtain ⟨hj1, hj2⟩ := List.getElem?_eq_some_iff.1 hj
  have := hp i j hi1 hj1 hij
  rw [hi2, hj2] at this
  intro e
  exact this b (by simp [Res.foot]) (by simp [Res.foot, e])
theorem set_all4 {c : Array Value} (h : c.size = 4) (a b d e : Value) : (((c.setIfInBounds 0 a).setIfInBounds 1 b).setIfInBounds 2 d).setIfInBounds 3 e = #[a, b, d, e] := by
  obtain ⟨l⟩ := c
  match l, h with
  | [x0, x1, x2, x3], _ => rfl
theorem set_all5 {c : Array Value} (h : c.size = 5) (a b d e f : Value) : ((((c.setIfInBounds 0 a).setIfInBounds 1 b).setIfInBounds 2 d).setIfInBounds 3 e).setIfInBounds 4 f = #[a, b, d, e, f] := by
  obtain ⟨l⟩ := c
  match l, h with
  | [x0, x1, x2, x3, x4], _ => rfl
def cellD (w : World) (b i : Nat) : Value := (w.cell? ⟨b, i, none⟩).getD undef
theorem cellD_is {w : World} {b i : Nat} {cs : Array Value} (h : Blk w b cs) (hi : i < cs.size) : w.cell? ⟨b, i, none⟩ = some (cellD w b i) := by
  unfold cellD
  rw [h.cell, Array.getElem?_eq_getElem hi]
  rfl

end Go.Proofs.Ytdffdppkdbbdoaa.Z
