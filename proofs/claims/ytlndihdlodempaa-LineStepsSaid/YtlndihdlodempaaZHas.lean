/- What a world holds, as a list of things that lie apart; what came since a beginning has changed only some old blocks. No program is in sight. -/
import Derived.Test.YtlndihdlodempaaZFrom2
set_option linter.unusedVariables false
set_option linter.unusedSimpArgs false
namespace Go.Proofs.Ytlndihdlodempaa.Z
open Go.RowKit

/-- A thing that lies in the world: a block of cells, a memory, a slice of words, a slice that is owned. -/
inductive Res where
  | blk (b : Nat) (cs : Array Value)
  | mem (m a : Nat) (L : List Int)
  | row (p : Option Addr) (g cap : Nat) (L : List Int)
  | own (e size : Nat) (v : Value) (n : Nat) (xs : List Value)

/-- The blocks in which it lies. -/
def Res.foot : Res → List Nat
  | .blk b _ => [b]
  | .mem m a L => m :: lv a L
  | .row _ g _ L => lv g L
  | .own _ _ v _ _ => v.ownBlock.toList

def Res.holds (w : World) : Res → Prop
  | .blk b cs => Blk w b cs
  | .mem m a L => Mem w m a L
  | .row p g cap L => Row w p g L ∧ L.length ≤ cap ∧ cap ≤ 9223372036854775807
  | .own e size v n xs => w.ownsRow 0 e size v n xs

theorem Res.lt {w : World} {r : Res} (h : r.holds w) : ∀ k, k ∈ r.foot → k < w.heap.size := by
  intro k hk
  cases r with
  | blk b cs => simp only [Res.foot, List.mem_singleton] at hk; subst hk; exact Blk.lt h
  | mem m a L =>
    simp only [Res.foot, List.mem_cons] at hk
    have := Mem.lt h
    rcases hk with rfl | hk
    · exact this.1
    · obtain ⟨rfl, h0⟩ := mem_lv hk; exact this.2 h0
  | row p g cap L =>
    obtain ⟨rfl, h0⟩ := mem_lv hk
    exact h.1.lt h0
  | own e size v n xs =>
    rcases owns_block h with rfl | ⟨g, c, rfl, _, hg, _⟩
    · simp [Res.foot, Value.ownBlock] at hk
    · simp [Res.foot, Value.ownBlock] at hk; omega

theorem Res.keep {w w' : World} {r : Res} {S : List Nat} (h : r.holds w) (t : Touch S w w') (hs : ∀ k, k ∈ r.foot → k ∉ S) : r.holds w' := by
  cases r with
  | blk b cs => exact t.blk h (hs b (by simp [Res.foot]))
  | mem m a L =>
    obtain ⟨p, cap, hb, r⟩ := Mem.head h
    refine ⟨Mem.ne h, Mem.words h, ⟨p, cap, t.blk hb (hs m (by simp [Res.foot])), r⟩, fun h0 => ?_⟩
    obtain ⟨rest, hr⟩ := Mem.body h h0
    exact ⟨rest, t.blk hr (hs a (by simp [Res.foot, lv, h0]))⟩
  | row p g cap L =>
    refine ⟨⟨h.1.words, h.1.at_, fun h0 => ?_⟩, h.2⟩
    obtain ⟨rest, hr⟩ := h.1.body h0
    exact ⟨rest, t.blk hr (hs g (by simp [Res.foot, lv, h0]))⟩
  | own e size v n xs =>
    refine owns_touch h t (fun g hg => hs g ?_)
    simp [Res.foot, hg]

/-- The blocks of some things. -/
def foots (rs : List Res) : List Nat := rs.flatMap Res.foot

theorem mem_foots {rs : List Res} {k : Nat} : k ∈ foots rs ↔ ∃ r, r ∈ rs ∧ k ∈ r.foot := by simp [foots]

def Apart (r s : Res) : Prop := ∀ k, k ∈ r.foot → k ∉ s.foot
theorem Apart.symm {r s : Res} (h : Apart r s) : Apart s r := fun k hs hr => h k hr hs

/-- The world holds these, apart from one another; of the beginning's blocks only those of S0 have changed. -/
structure Has (S0 : List Nat) (w0 w : World) (rs : List Res) : Prop where
  touch : Touch S0 w0 w
  all : ∀ r, r ∈ rs → r.holds w
  apart : rs.Pairwise Apart
  fresh : ∀ r, r ∈ rs → ∀ k, k ∈ r.foot → k ∈ S0 ∨ w0.heap.size ≤ k

theorem Has.start (S0 : List Nat) (w : World) : Has S0 w w [] := ⟨Touch.refl _ _, by simp, List.Pairwise.nil, by simp⟩

theorem Has.lt {S0 : List Nat} {w0 w : World} {rs : List Res} (h : Has S0 w0 w rs) : ∀ r, r ∈ rs → ∀ k, k ∈ r.foot → k < w.heap.size := fun r hr => Res.lt (h.all r hr)

/-- WHAT COMES: some things have turned to others, in their own blocks or in new ones; all else is as it was. -/
theorem Has.upd {S0 : List Nat} {w0 w w' : World} {xs rs : List Res} (ys : List Res) {S : List Nat} (h : Has S0 w0 w (xs ++ rs)) (t : Touch S w w')
    (hS : ∀ k, k ∈ S → k ∈ foots xs ∨ w.heap.size ≤ k) (hy : ∀ r, r ∈ ys → r.holds w') (ha : ys.Pairwise Apart) (hf : ∀ r, r ∈ ys → ∀ k, k ∈ r.foot → k ∈ foots xs ∨ w.heap.size ≤ k) : Has S0 w0 w' (ys ++ rs) := by
  obtain ⟨h1, h2, h3⟩ := List.pairwise_append.1 h.apart
  have far : ∀ r, r ∈ rs → ∀ k, k ∈ r.foot → k ∉ foots xs := fun r hr k hk hm => by
    obtain ⟨s, hs, hks⟩ := mem_foots.1 hm
    exact h3 s hs r hr k hks hk
  have old : ∀ k, k ∈ foots xs → k ∈ S0 ∨ w0.heap.size ≤ k := fun k hk => by
    obtain ⟨s, hs, hks⟩ := mem_foots.1 hk
    exact h.fresh s (List.mem_append_left _ hs) k hks
  have ht : Touch S0 w0 w' := by
    refine ⟨t.os.trans h.touch.os, t.tape.trans h.touch.tape, t.output.trans h.touch.output, Nat.le_trans h.touch.size t.size, fun k hk hs => ?_⟩
    refine (t.block k (Nat.lt_of_lt_of_le hk h.touch.size) (fun hm => ?_)).trans (h.touch.block k hk hs)
    have := h.touch.size
    rcases hS k hm with h' | h'
    · rcases old k h' with h'' | h''
      · exact hs h''
      · omega
    · omega
  refine ⟨ht, fun r hr => ?_, List.pairwise_append.2 ⟨ha, h2, fun y hyy r hr k hk hkr => ?_⟩, fun r hr k hk => ?_⟩
  · rcases List.mem_append.1 hr with hr | hr
    · exact hy r hr
    · refine Res.keep (h.all r (List.mem_append_right _ hr)) t (fun k hk hm => ?_)
      have := h.lt r (List.mem_append_right _ hr) k hk
      rcases hS k hm with h' | h'
      · exact far r hr k hk h'
      · omega
  · have := h.lt r (List.mem_append_right _ hr) k hkr
    rcases hf y hyy k hk with h' | h'
    · exact far r hr k hkr h'
    · omega
  · rcases List.mem_append.1 hr with hr | hr
    · rcases hf r hr k hk with h' | h'
      · exact old k h'
      · exact Or.inr (Nat.le_trans h.touch.size h')
    · exact h.fresh r (List.mem_append_right _ hr) k hk

theorem Has.perm {S0 : List Nat} {w0 w : World} {rs rs' : List Res} (h : Has S0 w0 w rs) (p : rs.Perm rs') : Has S0 w0 w rs' :=
  ⟨h.touch, fun r hr => h.all r (p.mem_iff.2 hr), (p.pairwise_iff (fun h => Apart.symm h)).1 h.apart, fun r hr => h.fresh r (p.mem_iff.2 hr)⟩

theorem perm_front {α : Type} : ∀ (l : List α) (i : Nat) (hi : i < l.length), l.Perm (l[i] :: l.eraseIdx i)
  | [], i, hi => by simp at hi
  | x :: l, 0, _ => by simp
  | x :: l, i + 1, hi => by
    simp only [List.getElem_cons_succ, List.eraseIdx_cons_succ]
    exact ((perm_front l i (by simpa using hi)).cons x).trans (List.Perm.swap _ _ _)

/-- The i-th comes first. -/
theorem Has.front {S0 : List Nat} {w0 w : World} {rs : List Res} (h : Has S0 w0 w rs) (i : Nat) (hi : i < rs.length) : Has S0 w0 w (rs[i] :: rs.eraseIdx i) :=
  h.perm (perm_front rs i hi)

theorem Has.swap {S0 : List Nat} {w0 w : World} {x y : Res} {rs : List Res} (h : Has S0 w0 w (x :: y :: rs)) : Has S0 w0 w (y :: x :: rs) := h.perm (List.Perm.swap y x rs)
theorem Has.rot3 {S0 : List Nat} {w0 w : World} {x y z : Res} {rs : List Res} (h : Has S0 w0 w (x :: y :: z :: rs)) : Has S0 w0 w (z :: x :: y :: rs) := h.front 2 (by simp)
theorem Has.back3 {S0 : List Nat} {w0 w : World} {x y z : Res} {rs : List Res} (h : Has S0 w0 w (z :: x :: y :: rs)) : Has S0 w0 w (x :: y :: z :: rs) := h.rot3.rot3

theorem Has.tail {S0 : List Nat} {w0 w : World} {x : Res} {rs : List Res} (h : Has S0 w0 w (x :: rs)) : Has S0 w0 w rs :=
  ⟨h.touch, fun r hr => h.all r (List.mem_cons_of_mem _ hr), (List.pairwise_cons.1 h.apart).2, fun r hr => h.fresh r (List.mem_cons_of_mem _ hr)⟩

theorem Has.drop1 {S0 : List Nat} {w0 w : World} {x y : Res} {rs : List Res} (h : Has S0 w0 w (x :: y :: rs)) : Has S0 w0 w (x :: rs) := h.swap.tail

theorem Has.drew {S0 : List Nat} {w0 w : World} {rs : List Res} (h : Has S0 w0 w rs) : Has S0 w0 w.drew rs := by
  have := Has.upd (xs := []) (rs := rs) [] (S := []) h ((Touch.refl [] w).drew) (by simp) (by simp) List.Pairwise.nil (by simp)
  exact this

theorem Has.drewN {S0 : List Nat} {w0 w : World} {rs : List Res} (h : Has S0 w0 w rs) (n : Nat) : Has S0 w0 (w.drewN n) rs := by
  have := Has.upd (xs := []) (rs := rs) [] (S := []) h ((Touch.refl [] w).drewN n) (by simp) (by simp) List.Pairwise.nil (by simp)
  exact this

/-- What makes memory, and no more. -/
theorem Has.grow {S0 : List Nat} {w0 w w' : World} {rs : List Res} (h : Has S0 w0 w rs) (t : Touch [] w w') : Has S0 w0 w' rs := by
  have := Has.upd (xs := []) (rs := rs) [] (S := []) h t (by simp) (by simp) List.Pairwise.nil (by simp)
  exact this

/-- A new block, first. -/
theorem Has.new {S0 : List Nat} {w0 w : World} {rs : List Res} (h : Has S0 w0 w rs) {b : Nat} (hb : w.heap.size = b) (cs : Array Value) (T : TypeId) : Has S0 w0 (w.alloc (.cells cs T)) (.blk b cs :: rs) := by
  subst hb
  exact Has.upd (xs := []) (rs := rs) [.blk w.heap.size cs] (S := []) h ((Touch.refl [] w).alloc _) (by simp) (by simp [Res.holds]; exact Blk.new _ _ _) (by simp) (by simp [Res.foot])

/-- A new block, second. -/
theorem Has.al {S0 : List Nat} {w0 w : World} {x : Res} {rs : List Res} (h : Has S0 w0 w (x :: rs)) {b : Nat} (hb : w.heap.size = b) (cs : Array Value) (T : TypeId) : Has S0 w0 (w.alloc (.cells cs T)) (x :: .blk b cs :: rs) := (h.new hb cs T).swap

/-- A store, into the first block. -/
theorem Has.set {S0 : List Nat} {w0 w : World} {b : Nat} {cs : Array Value} {rs : List Res} (h : Has S0 w0 w (.blk b cs :: rs)) (i : Nat) (v : Value) : Has S0 w0 (w.setCell ⟨b, i, none⟩ v) (.blk b (cs.setIfInBounds i v) :: rs) :=
  Has.upd (xs := [.blk b cs]) (rs := rs) [.blk b (cs.setIfInBounds i v)] (S := [b]) h ((Touch.refl [b] w).set (by simp) v) (by simp [foots, Res.foot]) (by simp [Res.holds]; exact (h.all (.blk b cs) (by simp)).set i v) (by simp) (by simp [foots, Res.foot])

/-- A store, into the second block. -/
theorem Has.set1 {S0 : List Nat} {w0 w : World} {x : Res} {b : Nat} {cs : Array Value} {rs : List Res} (h : Has S0 w0 w (x :: .blk b cs :: rs)) (i : Nat) (v : Value) : Has S0 w0 (w.setCell ⟨b, i, none⟩ v) (x :: .blk b (cs.setIfInBounds i v) :: rs) :=
  (h.swap.set i v).swap

theorem Has.blk {S0 : List Nat} {w0 w : World} {b : Nat} {cs : Array Value} {rs : List Res} (h : Has S0 w0 w (.blk b cs :: rs)) : Blk w b cs := h.all (.blk b cs) (by simp)
theorem Has.blk1 {S0 : List Nat} {w0 w : World} {x : Res} {b : Nat} {cs : Array Value} {rs : List Res} (h : Has S0 w0 w (x :: .blk b cs :: rs)) : Blk w b cs := h.all (.blk b cs) (by simp)
theorem Has.blk2 {S0 : List Nat} {w0 w : World} {x y : Res} {b : Nat} {cs : Array Value} {rs : List Res} (h : Has S0 w0 w (x :: y :: .blk b cs :: rs)) : Blk w b cs := h.all (.blk b cs) (by simp)
theorem Has.blk3 {S0 : List Nat} {w0 w : World} {x y z : Res} {b : Nat} {cs : Array Value} {rs : List Res} (h : Has S0 w0 w (x :: y :: z :: .blk b cs :: rs)) : Blk w b cs := h.all (.blk b cs) (by simp)
theorem Has.blk4 {S0 : List Nat} {w0 w : World} {x y z u : Res} {b : Nat} {cs : Array Value} {rs : List Res} (h : Has S0 w0 w (x :: y :: z :: u :: .blk b cs :: rs)) : Blk w b cs := h.all (.blk b cs) (by simp)
theorem Has.blk5 {S0 : List Nat} {w0 w : World} {x y z u v : Res} {b : Nat} {cs : Array Value} {rs : List Res} (h : Has S0 w0 w (x :: y :: z :: u :: v :: .blk b cs :: rs)) : Blk w b cs := h.all (.blk b cs) (by simp)
theorem Has.mem {S0 : List Nat} {w0 w : World} {m a : Nat} {L : List Int} {rs : List Res} (h : Has S0 w0 w (.mem m a L :: rs)) : Mem w m a L := h.all (.mem m a L) (by simp)
theorem Has.row {S0 : List Nat} {w0 w : World} {p : Option Addr} {g cap : Nat} {L : List Int} {rs : List Res} (h : Has S0 w0 w (.row p g cap L :: rs)) : Row w p g L := (h.all (.row p g cap L) (by simp)).1
theorem Has.row1 {S0 : List Nat} {w0 w : World} {x : Res} {p : Option Addr} {g cap : Nat} {L : List Int} {rs : List Res} (h : Has S0 w0 w (x :: .row p g cap L :: rs)) : Row w p g L := (h.all (.row p g cap L) (by simp)).1
theorem Has.cap {S0 : List Nat} {w0 w : World} {p : Option Addr} {g cap : Nat} {L : List Int} {rs : List Res} (h : Has S0 w0 w (.row p g cap L :: rs)) : L.length ≤ cap ∧ cap ≤ 9223372036854775807 := (h.all (.row p g cap L) (by simp)).2
theorem Has.cap1 {S0 : List Nat} {w0 w : World} {x : Res} {p : Option Addr} {g cap : Nat} {L : List Int} {rs : List Res} (h : Has S0 w0 w (x :: .row p g cap L :: rs)) : L.length ≤ cap ∧ cap ≤ 9223372036854775807 := (h.all (.row p g cap L) (by simp)).2

theorem Has.ne01 {S0 : List Nat} {w0 w : World} {b c : Nat} {cs ds : Array Value} {rs : List Res} (h : Has S0 w0 w (.blk b cs :: .blk c ds :: rs)) : b ≠ c := by
  have := (List.pairwise_cons.1 h.apart).1 (.blk c ds) (by simp)
  intro e
  exact this b (by simp [Res.foot]) (by simp [Res.foot, e])

/-- The words have turned. -/
theorem Has.words {S0 : List Nat} {w0 w w' : World} {m a : Nat} {L L' : List Int} {rs : List Res} (h : Has S0 w0 w (.mem m a L :: rs)) (hM : Mem w' m a L') (hl : L'.length = L.length) (t : Touch (lv a L) w w') : Has S0 w0 w' (.mem m a L' :: rs) :=
  Has.upd (xs := [.mem m a L]) (rs := rs) [.mem m a L'] (S := lv a L) h t (fun k hk => Or.inl (by simp [foots, Res.foot, hk])) (by simp [Res.holds]; exact hM) (by simp) (by intro r hr k hk; simp only [List.mem_singleton] at hr; subst hr; left; simpa [foots, Res.foot, lv, hl] using hk)

theorem Has.wordsRow {S0 : List Nat} {w0 w w' : World} {p : Option Addr} {g cap : Nat} {L L' : List Int} {rs : List Res} (h : Has S0 w0 w (.row p g cap L :: rs)) (hM : Row w' p g L') (hl : L'.length = L.length) (t : Touch (lv g L) w w') : Has S0 w0 w' (.row p g cap L' :: rs) :=
  Has.upd (xs := [.row p g cap L]) (rs := rs) [.row p g cap L'] (S := lv g L) h t (fun k hk => Or.inl (by simp [foots, Res.foot, hk])) (by simp [Res.holds]; exact ⟨hM, by have := h.cap; omega⟩) (by simp) (by intro r hr k hk; simp only [List.mem_singleton] at hr; subst hr; left; simpa [foots, Res.foot, lv, hl] using hk)

/-- A memory that was there already is taken in. -/
theorem Has.take {S0 : List Nat} {w : World} {r : Res} {rs : List Res} (h : Has S0 w w rs) (hr : r.holds w) (hf : ∀ k, k ∈ r.foot → k ∈ S0) (ha : ∀ s, s ∈ rs → Apart r s) : Has S0 w w (r :: rs) :=
  ⟨h.touch, fun s hs => by
    rcases List.mem_cons.1 hs with rfl | hs
    · exact hr
    · exact h.all s hs, List.pairwise_cons.2 ⟨ha, h.apart⟩, fun s hs k hk => by
    rcases List.mem_cons.1 hs with rfl | hs
    · exact Or.inl (hf k hk)
    · exact h.fresh s hs k hk⟩

/-- What has come is taken in: it lies in new blocks. -/
theorem Has.came {S0 : List Nat} {w0 w w' : World} {rs : List Res} (r : Res) {S : List Nat} (h : Has S0 w0 w rs) (t : Touch S w w') (hS : ∀ k, k ∈ S → w.heap.size ≤ k) (hr : r.holds w') (hf : ∀ k, k ∈ r.foot → w.heap.size ≤ k) : Has S0 w0 w' (r :: rs) :=
  Has.upd (xs := []) (rs := rs) [r] (S := S) h t (fun k hk => Or.inr (hS k hk)) (by simp; exact hr) (by simp) (by simp; exact fun k hk => Or.inr (hf k hk))

end Go.Proofs.Ytlndihdlodempaa.Z
