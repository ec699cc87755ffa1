/- The calls on a memory: Load, Store, Add, Swap, Cas, New, From, All: what each tells, what lies there then. -/
import Derived.Test.YtlndihdlodempaaZClone
set_option linter.unusedVariables false
set_option linter.unusedSimpArgs false
namespace Go.Proofs.Ytlndihdlodempaa.Z
open Go.RowKit

/-- The word of a cell; 0, if it isn't there. -/
def ldA (L : List Int) (c : Int) : Int := if 0 ≤ c ∧ c < L.length then L.getD c.toNat 0 else 0
/-- The words with another word in a cell, if it is there. -/
def stA (L : List Int) (c x : Int) : List Int := if 0 ≤ c ∧ c < L.length then L.set c.toNat x else L

theorem z32 : (0 : Int) ≤ 0 ∧ (0 : Int) < 4294967296 := by decide

theorem do_ld {w : World} {m a : Nat} {L : List Int} (h : Mem w m a L) (c : Int) :
    Calls Try.prog 124 #[.pointer (some ⟨m, 0, none⟩), .agg #[.int .i64 1, .int .i64 c, .int .u32 0, .int .u32 0, .int .u32 0]] w
      fun e w' => ∃ (k c' x y : Int) (b : Bool), e = .returned (.tuple #[.agg #[.int .i64 k, .int .i64 c', .int .u32 x, .int .u32 y, .int .u32 (ldA L c)], .bool b]) ∧ Touch [] w w' := by
  by_cases hc : 0 ≤ c ∧ c < L.length
  · refine (do_load h c 0 0 0 _ hc.1 hc.2 rfl).mono ?_
    rintro e w' ⟨rfl, ht⟩
    refine ⟨1, c, 0, 0, true, by rw [show ldA L c = _ from if_pos hc], ?_⟩
    exact ht
  · refine (do_out h 1 c 0 0 0 hc).mono ?_
    rintro e w' ⟨rfl, ht⟩
    exact ⟨0, 0, 0, 0, false, by rw [show ldA L c = 0 from if_neg hc]; rfl, ht⟩

set_option maxHeartbeats 400000 in
theorem load_any {w : World} {m a : Nat} {L : List Int} (h : Mem w m a L) (c : Int) :
    Calls Try.prog 50 #[.pointer (some ⟨m, 0, none⟩), .int .i64 c] w fun e w' => e = .returned (.int .u32 (ldA L c)) ∧ Touch [] w w' := by
  go_enter Try.func50, Try.ntmps50
  go_wp2_with (go_at_call 124; refine (do_ld h c).mono ?_; rintro e w' ⟨k, c', x, y, b, rfl, ht⟩)
  go_ret
  exact ⟨rfl, ht.alloc _⟩

theorem load_nil (w : World) (c : Int) :
    Calls Try.prog 50 #[.pointer none, .int .i64 c] w fun e w' => e = .returned (.int .u32 0) ∧ Touch [] w w' := by
  go_enter Try.func50, Try.ntmps50
  go_wp2_with (go_at_call 124; refine (do_nil _ _ _ _ _ _).mono ?_; simp only [Acc.zero, Acc.cells]; rintro e w' ⟨rfl, ht⟩)
  go_ret
  exact ⟨rfl, ht.alloc _⟩

/-- An access that tells what was there, and leaves other words. -/
theorem do_old {w : World} {m a : Nat} {L L' : List Int} (h : Mem w m a L) (b : Acc) (hx : 0 ≤ b.x ∧ b.x < 4294967296) (hy : 0 ≤ b.y ∧ b.y < 4294967296)
    (hold : (doA L b).1.old = ldA L b.cell) (hL : (doA L b).2.2 = L') :
    Calls Try.prog 124 #[.pointer (some ⟨m, 0, none⟩), .agg b.cells] w
      fun e w' => ∃ (k c' x y : Int), e = .returned (.tuple #[.agg #[.int .i64 k, .int .i64 c', .int .u32 x, .int .u32 y, .int .u32 (ldA L b.cell)], .bool (doA L b).2.1]) ∧ Mem w' m a L' ∧ Touch (lv a L) w w' := by
  refine (do_any h b hx hy).mono ?_
  rintro e w' ⟨rfl, hm, ht⟩
  exact ⟨(doA L b).1.kind, (doA L b).1.cell, (doA L b).1.x, (doA L b).1.y, by rw [← hold]; rfl, hL ▸ hm, ht⟩

/-- The words behind an addition. -/
def addA (L : List Int) (c x : Int) : List Int := stA L c ((ldA L c + x) % 4294967296)

/-- Is a cell there, and does it hold this word? -/
def isA (L : List Int) (c x : Int) : Bool := decide (0 ≤ c ∧ c < L.length ∧ L.getD c.toNat 0 = x)

/-- The words behind a compare-and-swap. -/
def casA (L : List Int) (c x y : Int) : List Int := if isA L c x then L.set c.toNat y else L

theorem doA_cas (L : List Int) (c x y : Int) : (doA L ⟨5, c, x, y, 0⟩).2.2 = casA L c x y := by
  unfold doA casA isA
  by_cases hc : 0 ≤ c ∧ c < L.length
  · simp only [hc, if_true, true_and, and_self]
    simp
  · have hn : ¬ (0 ≤ c ∧ c < L.length ∧ L.getD c.toNat 0 = x) := fun h => hc ⟨h.1, h.2.1⟩
    simp only [hc, hn, if_false, decide_false, Bool.false_eq_true]

end Go.Proofs.Ytlndihdlodempaa.Z
