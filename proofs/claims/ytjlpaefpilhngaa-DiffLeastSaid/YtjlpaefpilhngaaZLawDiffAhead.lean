/- The statement DiffAhead: its walk. -/
import Derived.Test.YtjlpaefpilhngaaRows
import Derived.Test.YtjlpaefpilhngaaZBase
import Derived.Test.YtjlpaefpilhngaaPureDiffRound
import Derived.Outline
set_option linter.unusedVariables false
set_option linter.unusedSimpArgs false
namespace Go.Proofs.Ytjlpaefpilhngaa.Z
open Go.RowKit

/-- How far a word is ahead of another one. -/
def aheadA (a b : Int) : Int := (a - b + 2147483648) % 4294967296 - 2147483648

theorem ahead_any (a b : Int) (w : World) (ha : 0 ≤ a ∧ a < 4294967296) (hb : 0 ≤ b ∧ b < 4294967296) :
    Calls Try.prog 12 #[.int .u32 a, .int .u32 b] w fun e w' => e = .returned (.int .i64 (aheadA a b)) ∧ w = w' := by
  have H := Lib.hid (show wrap64 (wrap32 ((a - b) % 4294967296)) = aheadA a b from by unfold wrap64 wrap32 aheadA; omega)
  clear ha hb
  go_enter Try.func12, Try.ntmps12
  go_wp2
  go_ret
  refine ⟨?_, rfl⟩
  rw [← H.out]
  rfl

theorem refAhead_any (a b : Int) (w : World) (ha : 0 ≤ a ∧ a < 4294967296) (hb : 0 ≤ b ∧ b < 4294967296) :
    Calls Try.prog 13 #[.int .u32 a, .int .u32 b] w fun e w' => e = .returned (.int .i64 (aheadA a b)) ∧ w = w' := by
  have hc : (2147483648 ≤ a - b ∧ aheadA a b = a - b - 4294967296) ∨ (a - b < -2147483648 ∧ aheadA a b = a - b + 4294967296) ∨ (¬ (2147483648 ≤ a - b) ∧ ¬ (a - b < -2147483648) ∧ aheadA a b = a - b) := by unfold aheadA; omega
  rcases hc with ⟨h1, h2⟩ | ⟨h1, h2⟩ | ⟨h1, h3, h2⟩
  · have h4 : ¬ (a - b - 4294967296 < -2147483648) := by omega
    have H := Lib.hid h2
    clear h2
    go_enter Try.func13, Try.ntmps13
    go_wp2
    go_ret
    exact ⟨by rw [H.out]; rfl, rfl⟩
  · have h4 : ¬ (2147483648 ≤ a - b) := by omega
    have H := Lib.hid h2
    clear h2
    go_enter Try.func13, Try.ntmps13
    go_wp2
    go_ret
    exact ⟨by rw [H.out]; rfl, rfl⟩
  · have H := Lib.hid h2
    clear h2
    go_enter Try.func13, Try.ntmps13
    go_wp2
    go_ret
    exact ⟨by rw [H.out]; rfl, rfl⟩

theorem awake02 (w : World) : Calls Try.prog 14 #[] w fun e w' => e = .returned (.bool true) ∧ Touch [] w w' := by
  refine (PDiffRound.stilemanlaw02_awake.calls true w Pure.round_awake).mono ?_
  rintro e w' ⟨rfl, n, rfl⟩
  exact ⟨rfl, (Touch.refl _ _).drewN n⟩

theorem ahead_facts (a b : Int) (ha : 0 ≤ a ∧ a < 4294967296) (hb : 0 ≤ b ∧ b < 4294967296) : ∃ n, aheadA a b = n ∧ (-2147483648 ≤ n ∧ n < 2147483648) ∧ a = (b + n) % 4294967296 ∧ (n ≠ -2147483648 → aheadA b a = -n) ∧ (n = 0 ↔ a = b) :=
  ⟨_, rfl, by unfold aheadA; omega, by unfold aheadA; omega, by unfold aheadA; omega, by unfold aheadA; omega⟩

set_option maxHeartbeats 1600000 in
theorem diffAhead_any (a b : Int) (w : World) (ha : 0 ≤ a ∧ a < 4294967296) (hb : 0 ≤ b ∧ b < 4294967296) :
    Calls Try.prog 3 #[.int .u32 a, .int .u32 b] w fun e w' => e = .returned (.bool true) ∧ Touch [] w w' := by
  obtain ⟨n, h1, ⟨h2, h2'⟩, h3, h4, h5⟩ := ahead_facts a b ha hb
  have c1 := fun w => ahead_any a b w ha hb
  have c2 := fun w => refAhead_any a b w ha hb
  have c3 := fun w => ahead_any b a w hb ha
  rw [h1] at c1 c2
  have e3 : (a == (b + n) % 4294967296) = true := beq_iff_eq.2 h3
  have C1 := Lib.hid c1
  have C2 := Lib.hid c2
  clear c1 c2 h1 h3
  by_cases hz : n = 0
  · have hab : a = b := h5.1 hz
    subst hz
    subst hab
    rw [h4 (by decide)] at c3
    have C3 := Lib.hid c3
    clear c3 h4 h5 h2 h2' e3 hb
    go_enter Try.func3, Try.ntmps3
    go_wp2_with (first
      | (go_at_call 12; refine (C1.out _).mono ?_; rintro e w1 ⟨rfl, rfl⟩)
      | (go_at_call 13; refine (C2.out _).mono ?_; rintro e w1 ⟨rfl, rfl⟩)
      | (go_at_call 14; refine (awake02 _).mono ?_; rintro e w2 ⟨rfl, ht⟩))
    all_goals first | (exfalso; omega) | skip
    go_ret
    exact ⟨by simp, ht⟩
  · have hab : a ≠ b := fun h => hz (h5.2 h)
    have z1 : (n == 0) = false := by simpa using hz
    have z2 : (a == b) = false := by simpa using hab
    by_cases hm : n = -2147483648
    · subst hm
      have C3 := Lib.hid h4
      have e5 : (a == (b + 2147483648) % 4294967296) = true := beq_iff_eq.2 (by have := beq_iff_eq.1 e3; omega)
      clear c3 h4 h5 hz hab h2 h2' z1 e3
      go_enter Try.func3, Try.ntmps3
      go_wp2_with (first
        | (go_at_call 12; refine (C1.out _).mono ?_; rintro e w1 ⟨rfl, rfl⟩)
        | (go_at_call 13; refine (C2.out _).mono ?_; rintro e w1 ⟨rfl, rfl⟩)
        | (go_at_call 14; refine (awake02 _).mono ?_; rintro e w2 ⟨rfl, ht⟩))
      go_ret
      exact ⟨by simp, ht⟩
    · rw [h4 hm] at c3
      have C3 := Lib.hid c3
      have z3 : (n == -2147483648) = false := by simpa using hm
      clear c3 h4 h5 hz hab hm
      go_enter Try.func3, Try.ntmps3
      go_wp2_with (first
        | (go_at_call 12; ((with_reducible refine (C1.out _).mono ?_); rintro e w1 ⟨rfl, rfl⟩))
        | (go_at_call 12; ((with_reducible refine (C3.out _).mono ?_); rintro e w1 ⟨rfl, rfl⟩))
        | (go_at_call 13; refine (C2.out _).mono ?_; rintro e w1 ⟨rfl, rfl⟩)
        | (go_at_call 14; refine (awake02 _).mono ?_; rintro e w2 ⟨rfl, ht⟩))
      go_ret
      exact ⟨by simp, ht⟩

end Go.Proofs.Ytjlpaefpilhngaa.Z
