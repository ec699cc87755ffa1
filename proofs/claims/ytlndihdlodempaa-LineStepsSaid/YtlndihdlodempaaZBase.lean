/- Words for worlds: what a block holds, and that of what was there only some blocks have changed. No program is in sight. -/
import Derived.WalkKit
import Derived.RegionTactic
import Derived.BigRegion
import Derived.BigQuiet
import Derived.Deep.QuietTactic
import Derived.ChangeAlike
import Derived.Lib.Hide
import Derived.Deep.Draws
set_option linter.unusedVariables false
set_option linter.unusedSimpArgs false
namespace Go.Proofs.Ytlndihdlodempaa.Z
open Go.RowKit

/-- Block b holds these cells, and may be written. -/
def Blk (w : World) (b : Nat) (cs : Array Value) : Prop := ∃ T, w.heap[b]? = some (.cells cs T (0, 0))

/-- Of the blocks that are there only those of S have changed. -/
structure Touch (S : List Nat) (w w' : World) : Prop where
  os : w'.os = w.os
  tape : w'.tape = w.tape
  output : w'.output = w.output
  size : w.heap.size ≤ w'.heap.size
  block : ∀ k, k < w.heap.size → k ∉ S → w'.heap[k]? = w.heap[k]?

theorem Touch.refl (S : List Nat) (w : World) : Touch S w w := ⟨rfl, rfl, rfl, Nat.le_refl _, fun _ _ _ => rfl⟩

theorem Touch.trans {S : List Nat} {a b c : World} (h : Touch S a b) (k : Touch S b c) : Touch S a c :=
  ⟨k.os.trans h.os, k.tape.trans h.tape, k.output.trans h.output, Nat.le_trans h.size k.size, fun i hi hs => (k.block i (Nat.lt_of_lt_of_le hi h.size) hs).trans (h.block i hi hs)⟩

theorem Touch.mono {S S' : List Nat} {w w' : World} (h : Touch S w w') (hS : ∀ k, k ∈ S → k < w.heap.size → k ∈ S') : Touch S' w w' :=
  ⟨h.os, h.tape, h.output, h.size, fun i hi hs => h.block i hi (fun hm => hs (hS i hm hi))⟩

theorem Touch.drew {S : List Nat} {a w : World} (h : Touch S a w) : Touch S a w.drew := ⟨h.os, h.tape, h.output, h.size, h.block⟩

theorem Touch.drewN {S : List Nat} {a w : World} (h : Touch S a w) (n : Nat) : Touch S a (w.drewN n) := ⟨h.os, h.tape, h.output, h.size, h.block⟩

theorem Touch.alloc {S : List Nat} {a w : World} (h : Touch S a w) (o : Obj) : Touch S a (w.alloc o) :=
  h.trans ⟨rfl, rfl, rfl, by simp, fun k hk _ => Below.heap_alloc _ _ _ hk⟩

/-- A store into a block that may change. -/
theorem Touch.set {S : List Nat} {a w : World} (h : Touch S a w) {p : Addr} (hp : p.block ∈ S) (u : Value) : Touch S a (w.setCell p u) :=
  h.trans ⟨rfl, rfl, rfl, by simp [World.setCell], fun k hk hs => Below.heap_setCell _ _ _ _ (fun e => hs (e ▸ hp))⟩

/-- A store into a block that is new. -/
theorem Touch.setNew {S : List Nat} {a w : World} (h : Touch S a w) {p : Addr} (hp : a.heap.size ≤ p.block) (u : Value) : Touch S a (w.setCell p u) :=
  ⟨h.os, h.tape, h.output, by simpa [World.setCell] using h.size, fun k hk hs => (Below.heap_setCell _ _ _ _ (by omega)).trans (h.block k hk hs)⟩

theorem Touch.cell {S : List Nat} {w w' : World} (h : Touch S w w') {p : Addr} (hp : p.block < w.heap.size) (hs : p.block ∉ S) : w'.cell? p = w.cell? p :=
  World.cell?_of_block (w := w) (h.block p.block hp hs)

theorem Touch.frozen {S : List Nat} {w w' : World} (h : Touch S w w') {p : Addr} (hp : p.block < w.heap.size) (hs : p.block ∉ S) : w'.frozen? p = w.frozen? p :=
  World.frozen?_of_block (w := w) (h.block p.block hp hs)

theorem Touch.blk {S : List Nat} {w w' : World} (h : Touch S w w') {b : Nat} {cs : Array Value} (hb : Blk w b cs) (hs : b ∉ S) : Blk w' b cs := by
  obtain ⟨T, hT⟩ := hb
  have hlt : b < w.heap.size := by
    rcases Nat.lt_or_ge b w.heap.size with h' | h'
    · exact h'
    · simp [Array.getElem?_eq_none h'] at hT
  exact ⟨T, (h.block b hlt hs).trans hT⟩

theorem Below.touch {B : Nat} {S : List Nat} {a w w' : World} (h : Below B a w) (hB : B ≤ w.heap.size) (t : Touch S w w') (hS : ∀ k, k ∈ S → B ≤ k) : Below B a w' :=
  h.trans ⟨t.os, t.tape, t.output, t.size, fun k hk => t.block k (by omega) (fun hm => by have := hS k hm; omega)⟩

theorem Touch.below {S : List Nat} {w w' : World} {B : Nat} (t : Touch S w w') (hB : B ≤ w.heap.size) (hS : ∀ k, k ∈ S → B ≤ k) : Below B w w' :=
  ⟨t.os, t.tape, t.output, t.size, fun k hk => t.block k (by omega) (fun hm => by have := hS k hm; omega)⟩

theorem Below.toTouch {w w' : World} (h : Below w.heap.size w w') : Touch [] w w' := ⟨h.os, h.tape, h.output, h.size, fun k hk _ => h.block k hk⟩

/-- What changes blocks that are newer leaves all as it was. -/
theorem Touch.newer {S T : List Nat} {w w' w'' : World} (h : Touch S w w') (t : Touch T w' w'') (hT : ∀ k, k ∈ T → w.heap.size ≤ k) : Touch S w w'' :=
  ⟨t.os.trans h.os, t.tape.trans h.tape, t.output.trans h.output, Nat.le_trans h.size t.size, fun k hk hs => (t.block k (Nat.lt_of_lt_of_le hk h.size) (fun hm => by have := hT k hm; omega)).trans (h.block k hk hs)⟩

theorem Blk.lt {w : World} {b : Nat} {cs : Array Value} (h : Blk w b cs) : b < w.heap.size := by
  obtain ⟨T, hT⟩ := h
  rcases Nat.lt_or_ge b w.heap.size with h' | h'
  · exact h'
  · simp [Array.getElem?_eq_none h'] at hT

theorem Blk.cell {w : World} {b : Nat} {cs : Array Value} (h : Blk w b cs) (i : Nat) : w.cell? ⟨b, i, none⟩ = cs[i]? := by
  obtain ⟨T, hT⟩ := h
  simp [World.cell?, hT]

theorem Blk.free {w : World} {b : Nat} {cs : Array Value} (h : Blk w b cs) (i : Nat) : w.frozen? ⟨b, i, none⟩ = false := by
  obtain ⟨T, hT⟩ := h
  simp [World.frozen?, hT]

theorem Blk.set {w : World} {b : Nat} {cs : Array Value} (h : Blk w b cs) (i : Nat) (v : Value) : Blk (w.setCell ⟨b, i, none⟩ v) b (cs.setIfInBounds i v) := by
  obtain ⟨T, hT⟩ := h
  refine ⟨T, ?_⟩
  simp [World.setCell, Array.getElem?_modify, hT]

theorem Blk.setNe {w : World} {b : Nat} {cs : Array Value} (h : Blk w b cs) {p : Addr} (hne : b ≠ p.block) (v : Value) : Blk (w.setCell p v) b cs := by
  obtain ⟨T, hT⟩ := h
  exact ⟨T, (Below.heap_setCell _ _ _ _ hne).trans hT⟩

theorem Blk.alloc {w : World} {b : Nat} {cs : Array Value} (h : Blk w b cs) (o : Obj) : Blk (w.alloc o) b cs := by
  have hlt := h.lt
  obtain ⟨T, hT⟩ := h
  exact ⟨T, (Below.heap_alloc _ _ _ hlt).trans hT⟩

theorem Blk.drew {w : World} {b : Nat} {cs : Array Value} (h : Blk w b cs) : Blk w.drew b cs := h
theorem Blk.drewN {w : World} {b : Nat} {cs : Array Value} (h : Blk w b cs) (n : Nat) : Blk (w.drewN n) b cs := h

theorem Blk.new (w : World) (cs : Array Value) (T : TypeId) : Blk (w.alloc (.cells cs T)) w.heap.size cs := ⟨T, by show (w.heap.push _)[w.heap.size]? = _; simp⟩

theorem Blk.eq {w : World} {b : Nat} {cs ds : Array Value} (h : Blk w b cs) (e : cs = ds) : Blk w b ds := e ▸ h

theorem Blk.ne {w : World} {a b : Nat} {cs ds : Array Value} (h : Blk w a cs) (k : Blk w b ds) (hne : cs ≠ ds) : a ≠ b := by
  rintro rfl
  obtain ⟨T, hT⟩ := h
  obtain ⟨T', hT'⟩ := k
  rw [hT] at hT'
  simp at hT'
  exact hne hT'.1

theorem Blk.neNew {w : World} {b : Nat} {cs : Array Value} (h : Blk w b cs) : b ≠ w.heap.size := by have := h.lt; omega

end Go.Proofs.Ytlndihdlodempaa.Z
