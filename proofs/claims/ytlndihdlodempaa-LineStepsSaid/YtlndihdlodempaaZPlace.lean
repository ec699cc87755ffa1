/- Package place: which cell is what. -/
import Derived.Test.YtlndihdlodempaaRows
import Derived.Test.YtlndihdlodempaaZBase
set_option linter.unusedVariables false
set_option linter.unusedSimpArgs false
namespace Go.Proofs.Ytlndihdlodempaa.Z
open Go.RowKit

/-- May there be so many tasks? -/
def RightN (n : Int) : Prop := 1 ≤ n ∧ n ≤ 64
instance (n : Int) : Decidable (RightN n) := by unfold RightN; infer_instance

/-- A task's cell of a row; -1: there is none. -/
def cellP (n row i : Int) : Int := if 1 ≤ n ∧ n ≤ 64 ∧ 0 ≤ i ∧ i < n then 8 + row * n + i else -1

theorem right_yes (n : Int) (w : World) (h : 1 ≤ n ∧ n ≤ 64) : Calls Try.prog 171 #[.int .i64 n] w fun e w' => e = .returned (.bool true) ∧ w = w' := by
  obtain ⟨h1, h2⟩ := h
  go_enter Try.func171, Try.ntmps171
  go_wp2
  go_ret
  exact ⟨rfl, rfl⟩

theorem right_no (n : Int) (w : World) (h : ¬ (1 ≤ n ∧ n ≤ 64)) : Calls Try.prog 171 #[.int .i64 n] w fun e w' => e = .returned (.bool false) ∧ w = w' := by
  by_cases h1 : 1 ≤ n
  · have h2 : ¬ (n ≤ 64) := fun h2 => h ⟨h1, h2⟩
    clear h
    go_enter Try.func171, Try.ntmps171
    go_wp2
    go_ret
    exact ⟨rfl, rfl⟩
  · clear h
    go_enter Try.func171, Try.ntmps171
    go_wp2
    go_ret
    exact ⟨rfl, rfl⟩

set_option maxHeartbeats 400000 in
theorem mapCell0 (n i : Int) (w : World) (hn : -9223372036854775808 ≤ n ∧ n ≤ 9223372036854775807) :
    Calls Try.prog 143 #[.agg #[.int .i64 n], .int .i64 0, .int .i64 i] w fun e w' => e = .returned (.int .i64 (cellP n 0 i)) ∧ Touch [] w w' := by
  by_cases h : 1 ≤ n ∧ n ≤ 64
  · have hr := fun w => right_yes n w h
    obtain ⟨h1, h2⟩ := h
    clear hn
    by_cases h3 : i < 0
    · have HE := Lib.hid (show cellP n 0 i = -1 from if_neg (by omega))
      go_enter Try.func143, Try.ntmps143
      go_wp2_with (go_at_call 171; refine (hr _).mono ?_; rintro e w' ⟨rfl, rfl⟩)
      go_ret
      exact ⟨by rw [HE.out]; rfl, (Touch.refl _ _).alloc _⟩
    · by_cases h4 : n ≤ i
      · have HE := Lib.hid (show cellP n 0 i = -1 from if_neg (by omega))
        go_enter Try.func143, Try.ntmps143
        go_wp2_with (go_at_call 171; refine (hr _).mono ?_; rintro e w' ⟨rfl, rfl⟩)
        go_ret
        exact ⟨by rw [HE.out]; rfl, (Touch.refl _ _).alloc _⟩
      · have h5 : 0 ≤ i := by omega
        have h6 : i < n := by omega
        have HE := Lib.hid (show cellP n 0 i = 8 + 0 * n + i from if_pos ⟨h1, h2, h5, h6⟩)
        go_enter Try.func143, Try.ntmps143
        go_wp2_with (go_at_call 171; refine (hr _).mono ?_; rintro e w' ⟨rfl, rfl⟩)
        go_ret
        exact ⟨by rw [HE.out]; first | rfl | simp, (Touch.refl _ _).alloc _⟩
  · have hr := fun w => right_no n w h
    have HE := Lib.hid (show cellP n 0 i = -1 from if_neg (by omega))
    clear h hn
    go_enter Try.func143, Try.ntmps143
    go_wp2_with (go_at_call 171; refine (hr _).mono ?_; rintro e w' ⟨rfl, rfl⟩)
    go_ret
    exact ⟨by rw [HE.out]; rfl, (Touch.refl _ _).alloc _⟩

set_option maxHeartbeats 400000 in
theorem mapCell1 (n i : Int) (w : World) (hn : -9223372036854775808 ≤ n ∧ n ≤ 9223372036854775807) :
    Calls Try.prog 143 #[.agg #[.int .i64 n], .int .i64 1, .int .i64 i] w fun e w' => e = .returned (.int .i64 (cellP n 1 i)) ∧ Touch [] w w' := by
  by_cases h : 1 ≤ n ∧ n ≤ 64
  · have hr := fun w => right_yes n w h
    obtain ⟨h1, h2⟩ := h
    clear hn
    by_cases h3 : i < 0
    · have HE := Lib.hid (show cellP n 1 i = -1 from if_neg (by omega))
      go_enter Try.func143, Try.ntmps143
      go_wp2_with (go_at_call 171; refine (hr _).mono ?_; rintro e w' ⟨rfl, rfl⟩)
      go_ret
      exact ⟨by rw [HE.out]; rfl, (Touch.refl _ _).alloc _⟩
    · by_cases h4 : n ≤ i
      · have HE := Lib.hid (show cellP n 1 i = -1 from if_neg (by omega))
        go_enter Try.func143, Try.ntmps143
        go_wp2_with (go_at_call 171; refine (hr _).mono ?_; rintro e w' ⟨rfl, rfl⟩)
        go_ret
        exact ⟨by rw [HE.out]; rfl, (Touch.refl _ _).alloc _⟩
      · have h5 : 0 ≤ i := by omega
        have h6 : i < n := by omega
        have HE := Lib.hid (show cellP n 1 i = 8 + 1 * n + i from if_pos ⟨h1, h2, h5, h6⟩)
        go_enter Try.func143, Try.ntmps143
        go_wp2_with (go_at_call 171; refine (hr _).mono ?_; rintro e w' ⟨rfl, rfl⟩)
        go_ret
        exact ⟨by rw [HE.out]; first | rfl | simp, (Touch.refl _ _).alloc _⟩
  · have hr := fun w => right_no n w h
    have HE := Lib.hid (show cellP n 1 i = -1 from if_neg (by omega))
    clear h hn
    go_enter Try.func143, Try.ntmps143
    go_wp2_with (go_at_call 171; refine (hr _).mono ?_; rintro e w' ⟨rfl, rfl⟩)
    go_ret
    exact ⟨by rw [HE.out]; rfl, (Touch.refl _ _).alloc _⟩

set_option maxHeartbeats 400000 in
theorem mapCell2 (n i : Int) (w : World) (hn : -9223372036854775808 ≤ n ∧ n ≤ 9223372036854775807) :
    Calls Try.prog 143 #[.agg #[.int .i64 n], .int .i64 2, .int .i64 i] w fun e w' => e = .returned (.int .i64 (cellP n 2 i)) ∧ Touch [] w w' := by
  by_cases h : 1 ≤ n ∧ n ≤ 64
  · have hr := fun w => right_yes n w h
    obtain ⟨h1, h2⟩ := h
    clear hn
    by_cases h3 : i < 0
    · have HE := Lib.hid (show cellP n 2 i = -1 from if_neg (by omega))
      go_enter Try.func143, Try.ntmps143
      go_wp2_with (go_at_call 171; refine (hr _).mono ?_; rintro e w' ⟨rfl, rfl⟩)
      go_ret
      exact ⟨by rw [HE.out]; rfl, (Touch.refl _ _).alloc _⟩
    · by_cases h4 : n ≤ i
      · have HE := Lib.hid (show cellP n 2 i = -1 from if_neg (by omega))
        go_enter Try.func143, Try.ntmps143
        go_wp2_with (go_at_call 171; refine (hr _).mono ?_; rintro e w' ⟨rfl, rfl⟩)
        go_ret
        exact ⟨by rw [HE.out]; rfl, (Touch.refl _ _).alloc _⟩
      · have h5 : 0 ≤ i := by omega
        have h6 : i < n := by omega
        have HE := Lib.hid (show cellP n 2 i = 8 + 2 * n + i from if_pos ⟨h1, h2, h5, h6⟩)
        go_enter Try.func143, Try.ntmps143
        go_wp2_with (go_at_call 171; refine (hr _).mono ?_; rintro e w' ⟨rfl, rfl⟩)
        go_ret
        exact ⟨by rw [HE.out]; first | rfl | simp, (Touch.refl _ _).alloc _⟩
  · have hr := fun w => right_no n w h
    have HE := Lib.hid (show cellP n 2 i = -1 from if_neg (by omega))
    clear h hn
    go_enter Try.func143, Try.ntmps143
    go_wp2_with (go_at_call 171; refine (hr _).mono ?_; rintro e w' ⟨rfl, rfl⟩)
    go_ret
    exact ⟨by rw [HE.out]; rfl, (Touch.refl _ _).alloc _⟩

set_option maxHeartbeats 400000 in
theorem mapCell3 (n i : Int) (w : World) (hn : -9223372036854775808 ≤ n ∧ n ≤ 9223372036854775807) :
    Calls Try.prog 143 #[.agg #[.int .i64 n], .int .i64 3, .int .i64 i] w fun e w' => e = .returned (.int .i64 (cellP n 3 i)) ∧ Touch [] w w' := by
  by_cases h : 1 ≤ n ∧ n ≤ 64
  · have hr := fun w => right_yes n w h
    obtain ⟨h1, h2⟩ := h
    clear hn
    by_cases h3 : i < 0
    · have HE := Lib.hid (show cellP n 3 i = -1 from if_neg (by omega))
      go_enter Try.func143, Try.ntmps143
      go_wp2_with (go_at_call 171; refine (hr _).mono ?_; rintro e w' ⟨rfl, rfl⟩)
      go_ret
      exact ⟨by rw [HE.out]; rfl, (Touch.refl _ _).alloc _⟩
    · by_cases h4 : n ≤ i
      · have HE := Lib.hid (show cellP n 3 i = -1 from if_neg (by omega))
        go_enter Try.func143, Try.ntmps143
        go_wp2_with (go_at_call 171; refine (hr _).mono ?_; rintro e w' ⟨rfl, rfl⟩)
        go_ret
        exact ⟨by rw [HE.out]; rfl, (Touch.refl _ _).alloc _⟩
      · have h5 : 0 ≤ i := by omega
        have h6 : i < n := by omega
        have HE := Lib.hid (show cellP n 3 i = 8 + 3 * n + i from if_pos ⟨h1, h2, h5, h6⟩)
        go_enter Try.func143, Try.ntmps143
        go_wp2_with (go_at_call 171; refine (hr _).mono ?_; rintro e w' ⟨rfl, rfl⟩)
        go_ret
        exact ⟨by rw [HE.out]; first | rfl | simp, (Touch.refl _ _).alloc _⟩
  · have hr := fun w => right_no n w h
    have HE := Lib.hid (show cellP n 3 i = -1 from if_neg (by omega))
    clear h hn
    go_enter Try.func143, Try.ntmps143
    go_wp2_with (go_at_call 171; refine (hr _).mono ?_; rintro e w' ⟨rfl, rfl⟩)
    go_ret
    exact ⟨by rw [HE.out]; rfl, (Touch.refl _ _).alloc _⟩

theorem mapNext (n i : Int) (w : World) (hn : -9223372036854775808 ≤ n ∧ n ≤ 9223372036854775807) :
    Calls Try.prog 75 #[.agg #[.int .i64 n], .int .i64 i] w fun e w' => e = .returned (.int .i64 (cellP n 0 i)) ∧ Touch [] w w' := by
  go_enter Try.func75, Try.ntmps75
  go_wp2_with (go_at_call 143; refine (mapCell0 n i _ hn).mono ?_; rintro e w' ⟨rfl, ht⟩)
  go_ret
  exact ⟨rfl, ((Touch.refl _ _).alloc _).trans ht⟩

theorem mapBlocked (n i : Int) (w : World) (hn : -9223372036854775808 ≤ n ∧ n ≤ 9223372036854775807) :
    Calls Try.prog 76 #[.agg #[.int .i64 n], .int .i64 i] w fun e w' => e = .returned (.int .i64 (cellP n 1 i)) ∧ Touch [] w w' := by
  go_enter Try.func76, Try.ntmps76
  go_wp2_with (go_at_call 143; refine (mapCell1 n i _ hn).mono ?_; rintro e w' ⟨rfl, ht⟩)
  go_ret
  exact ⟨rfl, ((Touch.refl _ _).alloc _).trans ht⟩

theorem mapWatch (n i : Int) (w : World) (hn : -9223372036854775808 ≤ n ∧ n ≤ 9223372036854775807) :
    Calls Try.prog 127 #[.agg #[.int .i64 n], .int .i64 i] w fun e w' => e = .returned (.int .i64 (cellP n 2 i)) ∧ Touch [] w w' := by
  go_enter Try.func127, Try.ntmps127
  go_wp2_with (go_at_call 143; refine (mapCell2 n i _ hn).mono ?_; rintro e w' ⟨rfl, ht⟩)
  go_ret
  exact ⟨rfl, ((Touch.refl _ _).alloc _).trans ht⟩

theorem mapPermit (n i : Int) (w : World) (hn : -9223372036854775808 ≤ n ∧ n ≤ 9223372036854775807) :
    Calls Try.prog 170 #[.agg #[.int .i64 n], .int .i64 i] w fun e w' => e = .returned (.int .i64 (cellP n 3 i)) ∧ Touch [] w w' := by
  go_enter Try.func170, Try.ntmps170
  go_wp2_with (go_at_call 143; refine (mapCell3 n i _ hn).mono ?_; rintro e w' ⟨rfl, ht⟩)
  go_ret
  exact ⟨rfl, ((Touch.refl _ _).alloc _).trans ht⟩

set_option maxHeartbeats 400000 in
theorem refCell_any (n row i : Int) (w : World) (hr : 0 ≤ row ∧ row ≤ 3) :
    Calls Try.prog 129 #[.int .i64 n, .int .i64 row, .int .i64 i] w fun e w' => e = .returned (.int .i64 (cellP n row i)) ∧ w = w' := by
  by_cases h1 : n < 1
  · have HE := Lib.hid (show cellP n row i = -1 from if_neg (by omega))
    clear hr
    go_enter Try.func129, Try.ntmps129
    go_wp2
    go_ret
    exact ⟨by rw [HE.out]; rfl, rfl⟩
  · by_cases h2 : 64 < n
    · have HE := Lib.hid (show cellP n row i = -1 from if_neg (by omega))
      clear hr
      go_enter Try.func129, Try.ntmps129
      go_wp2
      go_ret
      exact ⟨by rw [HE.out]; rfl, rfl⟩
    · by_cases h3 : i < 0
      · have HE := Lib.hid (show cellP n row i = -1 from if_neg (by omega))
        clear hr
        go_enter Try.func129, Try.ntmps129
        go_wp2
        go_ret
        exact ⟨by rw [HE.out]; rfl, rfl⟩
      · by_cases h4 : n ≤ i
        · have HE := Lib.hid (show cellP n row i = -1 from if_neg (by omega))
          clear hr
          go_enter Try.func129, Try.ntmps129
          go_wp2
          go_ret
          exact ⟨by rw [HE.out]; rfl, rfl⟩
        · have h5 : 0 ≤ i := by omega
          have h6 : i < n := by omega
          have h7 : 1 ≤ n := by omega
          have h8 : n ≤ 64 := by omega
          have hc : row = 0 ∨ row = 1 ∨ row = 2 ∨ row = 3 := by omega
          clear hr
          rcases hc with rfl | rfl | rfl | rfl
          · have HE := Lib.hid (show cellP n 0 i = 8 + 0 * n + i from if_pos ⟨h7, h8, h5, h6⟩)
            go_enter Try.func129, Try.ntmps129
            go_wp2
            go_ret
            exact ⟨by rw [HE.out]; first | rfl | simp, rfl⟩
          · have HE := Lib.hid (show cellP n 1 i = 8 + 1 * n + i from if_pos ⟨h7, h8, h5, h6⟩)
            go_enter Try.func129, Try.ntmps129
            go_wp2
            go_ret
            exact ⟨by rw [HE.out]; first | rfl | simp, rfl⟩
          · have HE := Lib.hid (show cellP n 2 i = 8 + 2 * n + i from if_pos ⟨h7, h8, h5, h6⟩)
            go_enter Try.func129, Try.ntmps129
            go_wp2
            go_ret
            exact ⟨by rw [HE.out]; first | rfl | simp, rfl⟩
          · have HE := Lib.hid (show cellP n 3 i = 8 + 3 * n + i from if_pos ⟨h7, h8, h5, h6⟩)
            go_enter Try.func129, Try.ntmps129
            go_wp2
            go_ret
            exact ⟨by rw [HE.out]; first | rfl | simp, rfl⟩

end Go.Proofs.Ytlndihdlodempaa.Z
