/- A caller's own blocks behind a call. No program is in sight. -/
import Derived.Test.YtlndihdlodempaaZBase
set_option linter.unusedVariables false
set_option linter.unusedSimpArgs false
namespace Go.Proofs.Ytlndihdlodempaa.Z
open Go.RowKit

/-- What the walk asks of a block. -/
theorem Blk.own {w : World} {b : Nat} {cs : Array Value} (h : Blk w b cs) : b < w.heap.size ∧ (∀ i, w.cell? ⟨b, i, none⟩ = cs[i]?) ∧ ∀ i, w.frozen? ⟨b, i, none⟩ = false :=
  ⟨h.lt, h.cell, h.free⟩

theorem Touch.own1 {S : List Nat} {w w1 : World} {c0 : Array Value} {t0 : TypeId} (t : Touch S (w.alloc (.cells c0 t0)) w1) (hs : ∀ k, k ∈ S → k < w.heap.size) : Blk w1 (w.heap.size) c0 := by
  have hn : ∀ i, w.heap.size + i ∉ S := fun i hm => by have := hs _ hm; omega
  have b0 : Blk (w.alloc (.cells c0 t0)) (w.heap.size) c0 := by have := Blk.new w c0 t0; simpa only [World.size_alloc, Nat.add_assoc] using this
  exact t.blk b0 (hn 0)

theorem Touch.own2 {S : List Nat} {w w1 : World} {c0 c1 : Array Value} {t0 t1 : TypeId} (t : Touch S ((w.alloc (.cells c0 t0)).alloc (.cells c1 t1)) w1) (hs : ∀ k, k ∈ S → k < w.heap.size) : Blk w1 (w.heap.size) c0 ∧ Blk w1 (w.heap.size + 1) c1 := by
  have hn : ∀ i, w.heap.size + i ∉ S := fun i hm => by have := hs _ hm; omega
  have b0 : Blk (w.alloc (.cells c0 t0)) (w.heap.size) c0 := by have := Blk.new w c0 t0; simpa only [World.size_alloc, Nat.add_assoc] using this
  have b1 : Blk ((w.alloc (.cells c0 t0)).alloc (.cells c1 t1)) (w.heap.size + 1) c1 := by have := Blk.new (w.alloc (.cells c0 t0)) c1 t1; simpa only [World.size_alloc, Nat.add_assoc] using this
  exact ⟨t.blk (b0.alloc (.cells c1 t1)) (hn 0), t.blk b1 (hn 1)⟩

theorem Touch.own3 {S : List Nat} {w w1 : World} {c0 c1 c2 : Array Value} {t0 t1 t2 : TypeId} (t : Touch S (((w.alloc (.cells c0 t0)).alloc (.cells c1 t1)).alloc (.cells c2 t2)) w1) (hs : ∀ k, k ∈ S → k < w.heap.size) : Blk w1 (w.heap.size) c0 ∧ Blk w1 (w.heap.size + 1) c1 ∧ Blk w1 (w.heap.size + 2) c2 := by
  have hn : ∀ i, w.heap.size + i ∉ S := fun i hm => by have := hs _ hm; omega
  have b0 : Blk (w.alloc (.cells c0 t0)) (w.heap.size) c0 := by have := Blk.new w c0 t0; simpa only [World.size_alloc, Nat.add_assoc] using this
  have b1 : Blk ((w.alloc (.cells c0 t0)).alloc (.cells c1 t1)) (w.heap.size + 1) c1 := by have := Blk.new (w.alloc (.cells c0 t0)) c1 t1; simpa only [World.size_alloc, Nat.add_assoc] using this
  have b2 : Blk (((w.alloc (.cells c0 t0)).alloc (.cells c1 t1)).alloc (.cells c2 t2)) (w.heap.size + 2) c2 := by have := Blk.new ((w.alloc (.cells c0 t0)).alloc (.cells c1 t1)) c2 t2; simpa only [World.size_alloc, Nat.add_assoc] using this
  exact ⟨t.blk ((b0.alloc (.cells c1 t1)).alloc (.cells c2 t2)) (hn 0), t.blk (b1.alloc (.cells c2 t2)) (hn 1), t.blk b2 (hn 2)⟩

theorem Touch.own4 {S : List Nat} {w w1 : World} {c0 c1 c2 c3 : Array Value} {t0 t1 t2 t3 : TypeId} (t : Touch S ((((w.alloc (.cells c0 t0)).alloc (.cells c1 t1)).alloc (.cells c2 t2)).alloc (.cells c3 t3)) w1) (hs : ∀ k, k ∈ S → k < w.heap.size) : Blk w1 (w.heap.size) c0 ∧ Blk w1 (w.heap.size + 1) c1 ∧ Blk w1 (w.heap.size + 2) c2 ∧ Blk w1 (w.heap.size + 3) c3 := by
  have hn : ∀ i, w.heap.size + i ∉ S := fun i hm => by have := hs _ hm; omega
  have b0 : Blk (w.alloc (.cells c0 t0)) (w.heap.size) c0 := by have := Blk.new w c0 t0; simpa only [World.size_alloc, Nat.add_assoc] using this
  have b1 : Blk ((w.alloc (.cells c0 t0)).alloc (.cells c1 t1)) (w.heap.size + 1) c1 := by have := Blk.new (w.alloc (.cells c0 t0)) c1 t1; simpa only [World.size_alloc, Nat.add_assoc] using this
  have b2 : Blk (((w.alloc (.cells c0 t0)).alloc (.cells c1 t1)).alloc (.cells c2 t2)) (w.heap.size + 2) c2 := by have := Blk.new ((w.alloc (.cells c0 t0)).alloc (.cells c1 t1)) c2 t2; simpa only [World.size_alloc, Nat.add_assoc] using this
  have b3 : Blk ((((w.alloc (.cells c0 t0)).alloc (.cells c1 t1)).alloc (.cells c2 t2)).alloc (.cells c3 t3)) (w.heap.size + 3) c3 := by have := Blk.new (((w.alloc (.cells c0 t0)).alloc (.cells c1 t1)).alloc (.cells c2 t2)) c3 t3; simpa only [World.size_alloc, Nat.add_assoc] using this
  exact ⟨t.blk (((b0.alloc (.cells c1 t1)).alloc (.cells c2 t2)).alloc (.cells c3 t3)) (hn 0), t.blk ((b1.alloc (.cells c2 t2)).alloc (.cells c3 t3)) (hn 1), t.blk (b2.alloc (.cells c3 t3)) (hn 2), t.blk b3 (hn 3)⟩

theorem Touch.own5 {S : List Nat} {w w1 : World} {c0 c1 c2 c3 c4 : Array Value} {t0 t1 t2 t3 t4 : TypeId} (t : Touch S (((((w.alloc (.cells c0 t0)).alloc (.cells c1 t1)).alloc (.cells c2 t2)).alloc (.cells c3 t3)).alloc (.cells c4 t4)) w1) (hs : ∀ k, k ∈ S → k < w.heap.size) : Blk w1 (w.heap.size) c0 ∧ Blk w1 (w.heap.size + 1) c1 ∧ Blk w1 (w.heap.size + 2) c2 ∧ Blk w1 (w.heap.size + 3) c3 ∧ Blk w1 (w.heap.size + 4) c4 := by
  have hn : ∀ i, w.heap.size + i ∉ S := fun i hm => by have := hs _ hm; omega
  have b0 : Blk (w.alloc (.cells c0 t0)) (w.heap.size) c0 := by have := Blk.new w c0 t0; simpa only [World.size_alloc, Nat.add_assoc] using this
  have b1 : Blk ((w.alloc (.cells c0 t0)).alloc (.cells c1 t1)) (w.heap.size + 1) c1 := by have := Blk.new (w.alloc (.cells c0 t0)) c1 t1; simpa only [World.size_alloc, Nat.add_assoc] using this
  have b2 : Blk (((w.alloc (.cells c0 t0)).alloc (.cells c1 t1)).alloc (.cells c2 t2)) (w.heap.size + 2) c2 := by have := Blk.new ((w.alloc (.cells c0 t0)).alloc (.cells c1 t1)) c2 t2; simpa only [World.size_alloc, Nat.add_assoc] using this
  have b3 : Blk ((((w.alloc (.cells c0 t0)).alloc (.cells c1 t1)).alloc (.cells c2 t2)).alloc (.cells c3 t3)) (w.heap.size + 3) c3 := by have := Blk.new (((w.alloc (.cells c0 t0)).alloc (.cells c1 t1)).alloc (.cells c2 t2)) c3 t3; simpa only [World.size_alloc, Nat.add_assoc] using this
  have b4 : Blk (((((w.alloc (.cells c0 t0)).alloc (.cells c1 t1)).alloc (.cells c2 t2)).alloc (.cells c3 t3)).alloc (.cells c4 t4)) (w.heap.size + 4) c4 := by have := Blk.new ((((w.alloc (.cells c0 t0)).alloc (.cells c1 t1)).alloc (.cells c2 t2)).alloc (.cells c3 t3)) c4 t4; simpa only [World.size_alloc, Nat.add_assoc] using this
  exact ⟨t.blk ((((b0.alloc (.cells c1 t1)).alloc (.cells c2 t2)).alloc (.cells c3 t3)).alloc (.cells c4 t4)) (hn 0), t.blk (((b1.alloc (.cells c2 t2)).alloc (.cells c3 t3)).alloc (.cells c4 t4)) (hn 1), t.blk ((b2.alloc (.cells c3 t3)).alloc (.cells c4 t4)) (hn 2), t.blk (b3.alloc (.cells c4 t4)) (hn 3), t.blk b4 (hn 4)⟩

theorem Touch.own6 {S : List Nat} {w w1 : World} {c0 c1 c2 c3 c4 c5 : Array Value} {t0 t1 t2 t3 t4 t5 : TypeId} (t : Touch S ((((((w.alloc (.cells c0 t0)).alloc (.cells c1 t1)).alloc (.cells c2 t2)).alloc (.cells c3 t3)).alloc (.cells c4 t4)).alloc (.cells c5 t5)) w1) (hs : ∀ k, k ∈ S → k < w.heap.size) : Blk w1 (w.heap.size) c0 ∧ Blk w1 (w.heap.size + 1) c1 ∧ Blk w1 (w.heap.size + 2) c2 ∧ Blk w1 (w.heap.size + 3) c3 ∧ Blk w1 (w.heap.size + 4) c4 ∧ Blk w1 (w.heap.size + 5) c5 := by
  have hn : ∀ i, w.heap.size + i ∉ S := fun i hm => by have := hs _ hm; omega
  have b0 : Blk (w.alloc (.cells c0 t0)) (w.heap.size) c0 := by have := Blk.new w c0 t0; simpa only [World.size_alloc, Nat.add_assoc] using this
  have b1 : Blk ((w.alloc (.cells c0 t0)).alloc (.cells c1 t1)) (w.heap.size + 1) c1 := by have := Blk.new (w.alloc (.cells c0 t0)) c1 t1; simpa only [World.size_alloc, Nat.add_assoc] using this
  have b2 : Blk (((w.alloc (.cells c0 t0)).alloc (.cells c1 t1)).alloc (.cells c2 t2)) (w.heap.size + 2) c2 := by have := Blk.new ((w.alloc (.cells c0 t0)).alloc (.cells c1 t1)) c2 t2; simpa only [World.size_alloc, Nat.add_assoc] using this
  have b3 : Blk ((((w.alloc (.cells c0 t0)).alloc (.cells c1 t1)).alloc (.cells c2 t2)).alloc (.cells c3 t3)) (w.heap.size + 3) c3 := by have := Blk.new (((w.alloc (.cells c0 t0)).alloc (.cells c1 t1)).alloc (.cells c2 t2)) c3 t3; simpa only [World.size_alloc, Nat.add_assoc] using this
  have b4 : Blk (((((w.alloc (.cells c0 t0)).alloc (.cells c1 t1)).alloc (.cells c2 t2)).alloc (.cells c3 t3)).alloc (.cells c4 t4)) (w.heap.size + 4) c4 := by have := Blk.new ((((w.alloc (.cells c0 t0)).alloc (.cells c1 t1)).alloc (.cells c2 t2)).alloc (.cells c3 t3)) c4 t4; simpa only [World.size_alloc, Nat.add_assoc] using this
  have b5 : Blk ((((((w.alloc (.cells c0 t0)).alloc (.cells c1 t1)).alloc (.cells c2 t2)).alloc (.cells c3 t3)).alloc (.cells c4 t4)).alloc (.cells c5 t5)) (w.heap.size + 5) c5 := by have := Blk.new (((((w.alloc (.cells c0 t0)).alloc (.cells c1 t1)).alloc (.cells c2 t2)).alloc (.cells c3 t3)).alloc (.cells c4 t4)) c5 t5; simpa only [World.size_alloc, Nat.add_assoc] using this
  exact ⟨t.blk (((((b0.alloc (.cells c1 t1)).alloc (.cells c2 t2)).alloc (.cells c3 t3)).alloc (.cells c4 t4)).alloc (.cells c5 t5)) (hn 0), t.blk ((((b1.alloc (.cells c2 t2)).alloc (.cells c3 t3)).alloc (.cells c4 t4)).alloc (.cells c5 t5)) (hn 1), t.blk (((b2.alloc (.cells c3 t3)).alloc (.cells c4 t4)).alloc (.cells c5 t5)) (hn 2), t.blk ((b3.alloc (.cells c4 t4)).alloc (.cells c5 t5)) (hn 3), t.blk (b4.alloc (.cells c5 t5)) (hn 4), t.blk b5 (hn 5)⟩

end Go.Proofs.Ytlndihdlodempaa.Z
