/- Memories that are made, and read whole: New, From, All. -/
import Derived.Test.YtlndihdlodempaaZCells
set_option linter.unusedVariables false
set_option linter.unusedSimpArgs false
namespace Go.Proofs.Ytlndihdlodempaa.Z
open Go.RowKit

theorem u32s_length (L : List Int) : (u32s L).length = L.length := by simp [u32s]
theorem u32s_one (L : List Int) : ∀ u ∈ u32s L, u.oneCell' = true := oneCell_ints

/-- Words of a slice that is owned lie at its block. -/
theorem mem_of_owns {w : World} {base e : Nat} {v : Value} {L : List Int} (h : w.ownsRow base e 1 v L.length (u32s L)) (hw : Words L) (hb : base ≤ w.heap.size) (T : TypeId) :
    ∃ a, Mem (w.alloc (.cells #[v] T)) w.heap.size a L ∧ base ≤ a := by
  rcases h.2 with ⟨rfl, h0⟩ | ⟨g, cap, cur, rfl, hg, hh, hc, hm, hs, ht⟩
  · refine ⟨w.heap.size + 1, ⟨by omega, hw, ⟨none, 0, ?_, by omega, by omega, fun h => by omega⟩, fun h => by omega⟩, by omega⟩
    rw [h0]
    exact Blk.new _ _ _
  · have hlt : g < w.heap.size := by
      rcases Nat.lt_or_ge g w.heap.size with h' | h'
      · exact h'
      · simp [Array.getElem?_eq_none h'] at hh
    refine ⟨g, ⟨by omega, hw, ⟨_, cap, Blk.new _ _ _, hc, by unfold maxLen at hm; omega, fun _ => rfl⟩, fun _ => ⟨cur.toList.drop (L.length * 1), ?_⟩⟩, hg⟩
    refine Blk.alloc ⟨e, ?_⟩ _
    rw [hh, ← ht, List.take_append_drop]

/-- A new memory of these words is told, with no error. -/
def NewMem (w : World) (L : List Int) (e : Ending) (w' : World) : Prop :=
  ∃ m a, e = .returned (.tuple #[.pointer (some ⟨m, 0, none⟩), .int .i64 0]) ∧ Mem w' m a L ∧ w.heap.size ≤ m ∧ w.heap.size ≤ a ∧ Touch [] w w'

/-- A new slice of these words is told. -/
def NewRow (w : World) (L : List Int) (e : Ending) (w' : World) : Prop := ∃ p cap, e = .returned (.slice p L.length cap) ∧ w'.ownsRow w.heap.size 23 1 (.slice p L.length cap) L.length (u32s L) ∧ Touch [] w w'

theorem len_of_rd {w : World} {A : Option Addr} {n : Nat} {L : List Int} (h : Rd w 1 A n (u32s L)) : L.length = n := by
  have := h.1
  rw [u32s_length] at this
  omega

set_option maxHeartbeats 400000 in
theorem from_ok {A : Option Addr} {n c : Nat} {L : List Int} (w : World) (hr : Rd w 1 A n (u32s L)) (hw : Words L) :
    Calls Try.prog 12 #[.slice A n c] w (NewMem w L) := by
  have hl := len_of_rd hr
  subst hl
  have h1024 := hw.1
  have hle : ¬ ((1024 : Int) < (L.length : Int)) := by omega
  go_enter Try.func12, Try.ntmps12
  go_wp2_with (go_at_call 51; refine (clone_any _ hr (u32s_one L) (by omega)).mono ?_; rintro e w' ⟨v, rfl, hown, hb⟩; obtain ⟨p, cap, rfl⟩ := owns_slice hown)
  go_ret2
  obtain ⟨a, hm, ha⟩ := mem_of_owns hown hw hb.size 81
  exact ⟨w'.heap.size, a, rfl, hm, hb.size, ha, (Below.toTouch hb).alloc _⟩

theorem from_no {A : Option Addr} {n c : Nat} (w : World) (hn : 1024 < n) (hn2 : n ≤ 9223372036854775807) :
    Calls Try.prog 12 #[.slice A n c] w fun e w' => e = .returned (.tuple #[.pointer none, .int .i64 2]) ∧ Touch [] w w' := by
  have hle : ((1024 : Int) < (n : Int)) := by omega
  go_enter Try.func12, Try.ntmps12
  go_wp2_with fail
  go_ret2
  exact ⟨rfl, Touch.refl _ _⟩

set_option maxHeartbeats 400000 in
theorem all_mem {w : World} {m a : Nat} {L : List Int} (h : Mem w m a L) :
    Calls Try.prog 23 #[.pointer (some ⟨m, 0, none⟩)] w (NewRow w L) := by
  obtain ⟨p, cap, hb, hc, hm, hp⟩ := h.head
  have hc0 := hb.cell 0
  have h1024 := h.words.1
  have hr : Rd w 1 p L.length (u32s L) := by
    refine ⟨by simp [u32s], fun h0 => ?_⟩
    obtain ⟨rest, hr⟩ := h.body h0
    refine ⟨_, hp h0, hr.lt, fun j u hj => ?_⟩
    rw [Addr.add_lit]
    have hj' : j < (u32s L).length := (List.getElem?_eq_some_iff.1 hj).1
    simp only [Nat.zero_add]
    rw [hr.cell, ← hj]
    simp [List.getElem?_append, hj']
  clear hp hb hc
  go_enter Try.func23, Try.ntmps23
  go_wp2_with (go_at_call 51; refine (clone_any _ hr (u32s_one L) (by omega)).mono ?_; rintro e w' ⟨v, rfl, hown, hb⟩)
  go_ret
  obtain ⟨p, cap, rfl⟩ := owns_slice hown
  exact ⟨p, cap, rfl, hown, Below.toTouch hb⟩

theorem all_nil (w : World) :
    Calls Try.prog 23 #[.pointer none] w fun e w' => e = .returned (.slice none 0 0) ∧ Touch [] w w' := by
  go_enter Try.func23, Try.ntmps23
  go_wp2_with fail
  go_ret
  exact ⟨rfl, Touch.refl _ _⟩

theorem words_zeros (n : Nat) (hn : n ≤ 1024) : Words (List.replicate n 0) := ⟨by simpa using hn, fun x hx => by have := List.eq_of_mem_replicate hx; omega⟩
set_option maxHeartbeats 400000 in
theorem new_ok (n : Nat) (w : World) (hn : n ≤ 1024) :
    Calls Try.prog 45 #[.int .i64 (n : Int)] w (NewMem w (List.replicate n 0)) := by
  obtain ⟨i0, hi0, hz0, hz1, hz2⟩ := info_parts u32_info
  have h1 : ¬ ((n : Int) < 0) := by omega
  have h2 : ¬ ((1024 : Int) < (n : Int)) := by omega
  have h3 : (0 : Int) ≤ (n : Int) := by omega
  go_enter Try.func45, Try.ntmps45
  go_wp2_with (at_make; refine wpList_make_full _ rfl _ _ 22 rfl w.heap.size 23 i0 _ 1 Try.underlying22 hi0 hz0 hz1 _ _ _ _ n rfl rfl rfl rfl (by rw [hz2]; omega) (by unfold maxLen; omega) (Nat.le_refl _) ?_; intro w1 hown hg)
  go_ret2
  have hown' : w1.ownsRow w.heap.size 23 1 (.slice (some ⟨w.heap.size, 0, none⟩) n n) (List.replicate n (0 : Int)).length (u32s (List.replicate n 0)) := by
    have e : (madeCells (Value.int .u32 0).cells (n * 1)).toList = u32s (List.replicate n 0) := by
      rw [Nat.mul_one]; exact (toList_madeCells_one _ n).trans (by simp [u32s])
    rw [e] at hown
    simpa using hown
  obtain ⟨a, hm, ha⟩ := mem_of_owns hown' (words_zeros n hn) hg.size 81
  exact ⟨w1.heap.size, a, rfl, hm, hg.size, ha, (Touch.grown (Touch.refl _ _) hg (by simp)).alloc _⟩

theorem new_no (n : Int) (w : World) (hn : n < 0 ∨ 1024 < n) :
    Calls Try.prog 45 #[.int .i64 n] w fun e w' => e = .returned (.tuple #[.pointer none, .int .i64 2]) ∧ Touch [] w w' := by
  rcases hn with h | h
  · go_enter Try.func45, Try.ntmps45
    go_wp2_with fail
    go_ret2
    exact ⟨rfl, Touch.refl _ _⟩
  · have h1 : ¬ (n < 0) := by omega
    go_enter Try.func45, Try.ntmps45
    go_wp2_with fail
    go_ret2
    exact ⟨rfl, Touch.refl _ _⟩

end Go.Proofs.Ytlndihdlodempaa.Z
