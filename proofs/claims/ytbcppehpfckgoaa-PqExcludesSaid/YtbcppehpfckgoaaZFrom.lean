/- Memories that are made, and read whole: New, From, All. -/
import Derived.Test.YtbcppehpfckgoaaZCells
set_option linter.unusedVariables false
set_option linter.unusedSimpArgs false
namespace Go.Proofs.Ytbcppehpfckgoaa.Z
open Go.RowKit

theorem u32s_length (L : List Int) : (u32s L).length = L.length := by simp [u32s]
theorem u32s_one (L : List Int) : ∀ u ∈ u32s L, u.oneCell' = true := oneCell_ints

/-- Words of a slice that is owned lie at its block. -/
theorem mem_of_owns {w : World} {base e : Nat} {v : Value} {L : List Int} (h : w.ownsRow base e 1 v L.length (u32s L)) (hw : Words L) (hb : base ≤ w.heap.size) (T : TypeId) :
    ∃ a, Mem (w.alloc (.cells #[v] T)) w.heap.size a L ∧ base ≤ a := by
  rcases h.2 with ⟨rfl, h0⟩ | ⟨g, cap, cur, rfl, hg, hh, hc, hm, hs, ht⟩
  · refine ⟨w.heap.size + 1, ⟨by omega, hw, ⟨none, 0, ?_, by omega, by omega, fun h => by omega⟩, fun h => by omega⟩, by omega⟩
    rw [h0]
    exact Blk.new _ _ _
  · have hlt : g < w.heap.size := by
      rcases Nat.lt_or_ge g w.heap.size with h' | h'
      · exact h'
      · simp [Array.getElem?_eq_none h'] at hh
    refine ⟨g, ⟨by omega, hw, ⟨_, cap, Blk.new _ _ _, hc, by unfold maxLen at hm; omega, fun _ => rfl⟩, fun _ => ⟨cur.toList.drop (L.length * 1), ?_⟩⟩, hg⟩
    refine Blk.alloc ⟨e, ?_⟩ _
    rw [hh, ← ht, List.take_append_drop]

/-- A new memory of these words is told, with no error. -/
def NewMem (w : World) (L : List Int) (e : Ending) (w' : World) : Prop :=
  ∃ m a, e = .returned (.tuple #[.pointer (some ⟨m, 0, none⟩), .int .i64 0]) ∧ Mem w' m a L ∧ w.heap.size ≤ m ∧ w.heap.size ≤ a ∧ Touch [] w w'

/-- A new slice of these words is told. -/
def NewRow (w : World) (L : List Int) (e : Ending) (w' : World) : Prop := ∃ p cap, e = .returned (.slice p L.length cap) ∧ w'.ownsRow w.heap.size 22 1 (.slice p L.length cap) L.length (u32s L) ∧ Touch [] w w'

theorem len_of_rd {w : World} {A : Option Addr} {n : Nat} {L : List Int} (h : Rd w 1 A n (u32s L)) : L.length = n := by
  have := h.1
  rw [u32s_length] at this
  omega

set_option maxHeartbeats 400000 in
theorem from_ok {A : Option Addr} {n c : Nat} {L : List Int} (w : World) (hr : Rd w 1 A n (u32s L)) (hw : Words L) :
    Calls Try.prog 13 #[.slice A n c] w (NewMem w L) := by
  have hl := len_of_rd hr
  subst hl
  have h1024 := hw.1
  have hle : ¬ ((1024 : Int) < (L.length : Int)) := by omega
  go_enter Try.func13, Try.ntmps13
  go_wp2_with (go_at_call 40; refine (clone_any _ hr (u32s_one L) (by omega)).mono ?_; rintro e w' ⟨v, rfl, hown, hb⟩; obtain ⟨p, cap, rfl⟩ := owns_slice hown)
  go_ret2
  obtain ⟨a, hm, ha⟩ := mem_of_owns hown hw hb.size 91
  exact ⟨w'.heap.size, a, rfl, hm, hb.size, ha, (Below.toTouch hb).alloc _⟩

theorem from_no {A : Option Addr} {n c : Nat} (w : World) (hn : 1024 < n) (hn2 : n ≤ 9223372036854775807) :
    Calls Try.prog 13 #[.slice A n c] w fun e w' => e = .returned (.tuple #[.pointer none, .int .i64 2]) ∧ Touch [] w w' := by
  have hle : ((1024 : Int) < (n : Int)) := by omega
  go_enter Try.func13, Try.ntmps13
  go_wp2_with fail
  go_ret2
  exact ⟨rfl, Touch.refl _ _⟩

set_option maxHeartbeats 400000 in
theorem all_mem {w : World} {m a : Nat} {L : List Int} (h : Mem w m a L) :
    Calls Try.prog 25 #[.pointer (some ⟨m, 0, none⟩)] w (NewRow w L) := by
  obtain ⟨p, cap, hb, hc, hm, hp⟩ := h.head
  have hc0 := hb.cell 0
  have h1024 := h.words.1
  have hr : Rd w 1 p L.length (u32s L) := by
    refine ⟨by simp [u32s], fun h0 => ?_⟩
    obtain ⟨rest, hr⟩ := h.body h0
    refine ⟨_, hp h0, hr.lt, fun j u hj => ?_⟩
    rw [Addr.add_lit]
    have hj' : j < (u32s L).length := (List.getElem?_eq_some_iff.1 hj).1
    simp only [Nat.zero_add]
    rw [hr.cell, ← hj]
    simp [List.getElem?_append, hj']
  clear hp hb hc
  go_enter Try.func25, Try.ntmps25
  go_wp2_with (go_at_call 40; refine (clone_any _ hr (u32s_one L) (by omega)).mono ?_; rintro e w' ⟨v, rfl, hown, hb⟩)
  go_ret
  obtain ⟨p, cap, rfl⟩ := owns_slice hown
  exact ⟨p, cap, rfl, hown, Below.toTouch hb⟩

theorem all_nil (w : World) :
    Calls Try.prog 25 #[.pointer none] w fun e w' => e = .returned (.slice none 0 0) ∧ Touch [] w w' := by
  go_enter Try.func25, Try.ntmps25
  go_wp2_with fail
  go_ret
  exact ⟨rfl, Touch.refl _ _⟩

end Go.Proofs.Ytbcppehpfckgoaa.Z
