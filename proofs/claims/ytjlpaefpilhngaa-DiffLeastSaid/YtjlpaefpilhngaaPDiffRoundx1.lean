-- PRINTED BY print.sh 35421559b90ae4d0a3588c463048766b98c2df88dd9212a6774a882060cdf62d: not written by this session
import Derived.Test.YtjlpaefpilhngaaPDiffRoundx0
namespace Go.Proofs.Ytjlpaefpilhngaa.PDiffRound
open Go.RowKit Go.Proofs.YtjlpaefpilhngaaW.PrintWords Go.Proofs.YtjlpaefpilhngaaW.PrintLast Go.Proofs.YtjlpaefpilhngaaW.PrintMore
attribute [local go_sem] max2_int min2_int max_two min_two max_three min_three max_four min_four   -- for this text's walks alone
set_option linter.unusedVariables false
set_option linter.unusedSimpArgs false

/-! ### diff_Ahead: function 12 -/
def diff_Ahead.f (a0 : Int) (a1 : Int) : Option (Int) := some (wrap64 (wrap32 ((a0 - a1) % 4294967296)))
set_option maxHeartbeats 8000000 in
set_option maxRecDepth 100000 in
theorem diff_Ahead.calls (a0 : Int) (a1 : Int) (r : Int) (w : World) (h : diff_Ahead.f a0 a1 = some r) :
    Calls Try.prog 12 #[.int .u32 a0, .int .u32 a1] w fun e w' => e = .returned (.int .i64 r) ∧ Drawn0 w w' := by
  have H : (some (wrap64 (wrap32 ((a0 - a1) % 4294967296)))) = some r := h
  clear h
  obtain rfl := Option.some.inj H
  go_enter Try.func12, Try.ntmps12
  go_wp2
  go_ret
  exact ⟨by first | rfl | (simp; done) | (simp [*]; done), by repeat (first | exact Drawn0.refl _ | apply Drawn0.step)⟩

/-! ### diff_field: function 38 -/
def diff_field.f (a0 : Int) (a1 : Int) : Option (Bool) := if a0 ≥ 0 then (if a0 < 32 then (if a1 ≥ 1 then (some (decide (a1 ≤ (wrap64 (32 - a0))))) else (some false)) else (some false)) else (some false)
set_option maxHeartbeats 8000000 in
set_option maxRecDepth 100000 in
theorem diff_field.calls (a0 : Int) (a1 : Int) (r : Bool) (w : World) (h : diff_field.f a0 a1 = some r) :
    Calls Try.prog 38 #[.int .i64 a0, .int .i64 a1] w fun e w' => e = .returned (.bool r) ∧ Drawn0 w w' := by
  have H : (if a0 ≥ 0 then (if a0 < 32 then (if a1 ≥ 1 then (some (decide (a1 ≤ (wrap64 (32 - a0))))) else (some false)) else (some false)) else (some false)) = some r := h
  clear h
  by_cases c3 : a0 ≥ 0
  · rw [if_pos c3] at H
    have c3b0 : decide (0 ≤ a0) = true := decide_eq_true c3
    clear c3
    by_cases c4 : a0 < 32
    · rw [if_pos c4] at H
      have c4b0 : decide (a0 < 32) = true := decide_eq_true c4
      clear c4
      by_cases c5 : a1 ≥ 1
      · rw [if_pos c5] at H
        have c5b0 : decide (1 ≤ a1) = true := decide_eq_true c5
        clear c5
        obtain rfl := Option.some.inj H
        go_enter Try.func38, Try.ntmps38
        go_wp2
        go_ret
        exact ⟨by first | rfl | (simp; done) | (simp [*]; done), by repeat (first | exact Drawn0.refl _ | apply Drawn0.step)⟩
      · rw [if_neg c5] at H
        have c5b0 : decide (1 ≤ a1) = false := decide_eq_false c5
        clear c5
        obtain rfl := Option.some.inj H
        go_enter Try.func38, Try.ntmps38
        go_wp2
        go_ret
        exact ⟨by first | rfl | (simp; done) | (simp [*]; done), by repeat (first | exact Drawn0.refl _ | apply Drawn0.step)⟩
    · rw [if_neg c4] at H
      have c4b0 : decide (a0 < 32) = false := decide_eq_false c4
      clear c4
      obtain rfl := Option.some.inj H
      go_enter Try.func38, Try.ntmps38
      go_wp2
      go_ret
      exact ⟨by first | rfl | (simp; done) | (simp [*]; done), by repeat (first | exact Drawn0.refl _ | apply Drawn0.step)⟩
  · rw [if_neg c3] at H
    have c3b0 : decide (0 ≤ a0) = false := decide_eq_false c3
    clear c3
    obtain rfl := Option.some.inj H
    go_enter Try.func38, Try.ntmps38
    go_wp2
    go_ret
    exact ⟨by first | rfl | (simp; done) | (simp [*]; done), by repeat (first | exact Drawn0.refl _ | apply Drawn0.step)⟩

/-! ### diff_mask: function 39 -/
def diff_mask.f (a0 : Int) (a1 : Int) : Option (Int) := if 0 ≤ a1 then (if 0 ≤ a0 then (some ((shl .u64 (IntKind.u64.wrap ((shl .u64 1 a1) - 1)) a0) % 4294967296)) else (none)) else (none)
set_option maxHeartbeats 8000000 in
set_option maxRecDepth 100000 in
theorem diff_mask.calls (a0 : Int) (a1 : Int) (r : Int) (w : World) (h : diff_mask.f a0 a1 = some r) :
    Calls Try.prog 39 #[.int .i64 a0, .int .i64 a1] w fun e w' => e = .returned (.int .u32 r) ∧ Drawn0 w w' := by
  have H : (if 0 ≤ a1 then (if 0 ≤ a0 then (some ((shl .u64 (IntKind.u64.wrap ((shl .u64 1 a1) - 1)) a0) % 4294967296)) else (none)) else (none)) = some r := h
  clear h
  by_cases c3 : 0 ≤ a1
  · rw [if_pos c3] at H
    have c3b0 := eq_true c3
    have c3b1 : decide (0 ≤ a1) = true := decide_eq_true c3
    clear c3
    obtain ⟨ji4, hji4⟩ : ∃ j_ : Int, (shl .u64 1 a1) = j_ := ⟨_, rfl⟩
    replace H : (if 0 ≤ a0 then (some ((shl .u64 (IntKind.u64.wrap ((ji4) - 1)) a0) % 4294967296)) else (none)) = some r := by first | (rw [hji4] at H; exact H) | (simp only [hji4] at H ⊢; exact H)
    have hji4_ : (IntKind.u64.wrap (1 * 2 ^ min a1.toNat 64)) = ji4 := hji4
    have hji4z : a1 ≤ 64 → (IntKind.u64.wrap (1 * 2 ^ a1.toNat)) = ji4 := shl_small hji4
    have hji4u : (IntKind.u64.wrap (2 ^ min a1.toNat 64)) = ji4 := by have h_ := hji4_; rw [Int.one_mul] at h_; exact h_
    have hji4v : a1 ≤ 64 → (IntKind.u64.wrap (2 ^ a1.toNat)) = ji4 := fun hle_ => by have h_ := hji4z hle_; rw [Int.one_mul] at h_; exact h_
    by_cases c5 : 0 ≤ a0
    · rw [if_pos c5] at H
      have c5b0 := eq_true c5
      have c5b1 : decide (0 ≤ a0) = true := decide_eq_true c5
      clear c5
      obtain ⟨ji6, hji6⟩ : ∃ j_ : Int, (shl .u64 (IntKind.u64.wrap ((ji4) - 1)) a0) = j_ := ⟨_, rfl⟩
      replace H : (some ((ji6) % 4294967296)) = some r := by first | (rw [hji6] at H; exact H) | (simp only [hji6] at H ⊢; exact H)
      have hji6_ : (IntKind.u64.wrap ((IntKind.u64.wrap ((ji4) - 1)) * 2 ^ min a0.toNat 64)) = ji6 := hji6
      have hji6z : a0 ≤ 64 → (IntKind.u64.wrap ((IntKind.u64.wrap ((ji4) - 1)) * 2 ^ a0.toNat)) = ji6 := shl_small hji6
      obtain rfl := Option.some.inj H
      go_enter Try.func39, Try.ntmps39
      go_wp2
      go_ret
      exact ⟨by first | rfl | (simp; done) | (simp only [← hji4, ← hji6] <;> (first | rfl | simp)) | (simp [*]; done), by repeat (first | exact Drawn0.refl _ | apply Drawn0.step)⟩
    · rw [if_neg c5] at H
      exact absurd H (by simp)
  · rw [if_neg c3] at H
    exact absurd H (by simp)

/-! ### diff_Get: function 15 -/
def diff_Get.f (a0 : Int) (a1 : Int) (a2 : Int) : Option (Int) := (diff_field.f a1 a2).bind fun t101 => (if t101 = true then ((diff_mask.f a1 a2).bind fun t102 => (if 0 ≤ a1 then (some (shr .u32 (Go.bits .and .u32 a0 t102) a1)) else (none))) else (some 0))
set_option maxHeartbeats 8000000 in
set_option maxRecDepth 100000 in
theorem diff_Get.calls (a0 : Int) (a1 : Int) (a2 : Int) (r : Int) (w : World) (h : diff_Get.f a0 a1 a2 = some r) :
    Calls Try.prog 15 #[.int .u32 a0, .int .i64 a1, .int .i64 a2] w fun e w' => e = .returned (.int .u32 r) ∧ Drawn0 w w' := by
  have H : ((diff_field.f a1 a2).bind fun t101 => (if t101 = true then ((diff_mask.f a1 a2).bind fun t102 => (if 0 ≤ a1 then (some (shr .u32 (Go.bits .and .u32 a0 t102) a1)) else (none))) else (some 0))) = some r := h
  clear h
  replace H := Option.bind_eq_some_iff.mp H
  obtain ⟨t101, A40, H⟩ := H
  replace H : (if t101 = true then ((diff_mask.f a1 a2).bind fun t102 => (if 0 ≤ a1 then (some (shr .u32 (Go.bits .and .u32 a0 t102) a1)) else (none))) else (some 0)) = some r := H
  have A4 := Aside0.mk A40
  clear A40
  by_cases c5 : t101 = true
  · subst c5
    have H1 : ((diff_mask.f a1 a2).bind fun t102 => (if 0 ≤ a1 then (some (shr .u32 (Go.bits .and .u32 a0 t102) a1)) else (none))) = some r := by rw [if_pos rfl] at H; exact H
    clear H
    have H := H1
    clear H1
    replace H := Option.bind_eq_some_iff.mp H
    obtain ⟨t102, A60, H⟩ := H
    replace H : (if 0 ≤ a1 then (some (shr .u32 (Go.bits .and .u32 a0 t102) a1)) else (none)) = some r := H
    have A6 := Aside0.mk A60
    clear A60
    by_cases c7 : 0 ≤ a1
    · rw [if_pos c7] at H
      have c7b0 := eq_true c7
      have c7b1 : decide (0 ≤ a1) = true := decide_eq_true c7
      clear c7
      obtain ⟨ji8, hji8⟩ : ∃ j_ : Int, (shr .u32 (Go.bits .and .u32 a0 t102) a1) = j_ := ⟨_, rfl⟩
      replace H : (some ji8) = some r := by first | (rw [hji8] at H; exact H) | (simp only [hji8] at H ⊢; exact H)
      (try rw [hji8] at A4)
      (try rw [hji8] at A6)
      have hji8_ : ((Go.bits .and .u32 a0 t102) / 2 ^ min a1.toNat 32) = ji8 := hji8
      have hji8z : a1 ≤ 32 → ((Go.bits .and .u32 a0 t102) / 2 ^ a1.toNat) = ji8 := shr_small hji8
      obtain rfl := Option.some.inj H
      go_enter Try.func15, Try.ntmps15
      go_wp2_with (first | ((with_reducible refine gate_callee (f := 38) rfl ?_); refine goesL_ (some 9) rfl rfl Try.func38 (by kernel_rfl) rfl #[.int .i64 a1, .int .i64 a2] rfl (by (try simp only [List.map_toArray, List.map_cons, List.map_nil]); first | done | rfl | (simp only [List.length_drop, List.length_take]; rfl)) ?_; (with_reducible refine (diff_field.calls a1 a2 true _ A4.out).mono ?_); rintro e w' ⟨rfl, ⟨nd, rfl⟩⟩; refine ⟨_, rfl, ?_⟩) | ((with_reducible refine gate_callee (f := 39) rfl ?_); refine goesL_ (some 14) rfl rfl Try.func39 (by kernel_rfl) rfl #[.int .i64 a1, .int .i64 a2] rfl (by (try simp only [List.map_toArray, List.map_cons, List.map_nil]); first | done | rfl | (simp only [List.length_drop, List.length_take]; rfl)) ?_; (with_reducible refine (diff_mask.calls a1 a2 t102 _ A6.out).mono ?_); rintro e w' ⟨rfl, ⟨nd, rfl⟩⟩; refine ⟨_, rfl, ?_⟩))
      go_ret
      exact ⟨by first | rfl | (simp; done) | (simp only [← hji8] <;> (first | rfl | simp)) | (simp [*]; done), by repeat (first | exact Drawn0.refl _ | apply Drawn0.step)⟩
    · rw [if_neg c7] at H
      exact absurd H (by simp)
  · replace c5 := Bool.eq_false_iff.mpr c5
    subst c5
    have H1 : (some 0) = some r := by rw [if_neg (show ¬ (false = true) by decide)] at H; exact H
    clear H
    have H := H1
    clear H1
    obtain rfl := Option.some.inj H
    go_enter Try.func15, Try.ntmps15
    go_wp2_with (first | ((with_reducible refine gate_callee (f := 38) rfl ?_); refine goesL_ (some 9) rfl rfl Try.func38 (by kernel_rfl) rfl #[.int .i64 a1, .int .i64 a2] rfl (by (try simp only [List.map_toArray, List.map_cons, List.map_nil]); first | done | rfl | (simp only [List.length_drop, List.length_take]; rfl)) ?_; (with_reducible refine (diff_field.calls a1 a2 false _ A4.out).mono ?_); rintro e w' ⟨rfl, ⟨nd, rfl⟩⟩; refine ⟨_, rfl, ?_⟩))
    go_ret
    exact ⟨by first | rfl | (simp; done) | (simp [*]; done), by repeat (first | exact Drawn0.refl _ | apply Drawn0.step)⟩

/-! ### diff_Put: function 17 -/
def diff_Put.f (a0 : Int) (a1 : Int) (a2 : Int) (a3 : Int) : Option (Int) := (diff_field.f a1 a2).bind fun t103 => (if t103 = true then ((diff_mask.f a1 a2).bind fun t104 => (if 0 ≤ a1 then (some (Go.bits .or .u32 (Go.bits .andNot .u32 a0 t104) (Go.bits .and .u32 (shl .u32 a3 a1) t104))) else (none))) else (some a0))
set_option maxHeartbeats 8000000 in
set_option maxRecDepth 100000 in
theorem diff_Put.calls (a0 : Int) (a1 : Int) (a2 : Int) (a3 : Int) (r : Int) (w : World) (h : diff_Put.f a0 a1 a2 a3 = some r) :
    Calls Try.prog 17 #[.int .u32 a0, .int .i64 a1, .int .i64 a2, .int .u32 a3] w fun e w' => e = .returned (.int .u32 r) ∧ Drawn0 w w' := by
  have H : ((diff_field.f a1 a2).bind fun t103 => (if t103 = true then ((diff_mask.f a1 a2).bind fun t104 => (if 0 ≤ a1 then (some (Go.bits .or .u32 (Go.bits .andNot .u32 a0 t104) (Go.bits .and .u32 (shl .u32 a3 a1) t104))) else (none))) else (some a0))) = some r := h
  clear h
  replace H := Option.bind_eq_some_iff.mp H
  obtain ⟨t103, A50, H⟩ := H
  replace H : (if t103 = true then ((diff_mask.f a1 a2).bind fun t104 => (if 0 ≤ a1 then (some (Go.bits .or .u32 (Go.bits .andNot .u32 a0 t104) (Go.bits .and .u32 (shl .u32 a3 a1) t104))) else (none))) else (some a0)) = some r := H
  have A5 := Aside0.mk A50
  clear A50
  by_cases c6 : t103 = true
  · subst c6
    have H1 : ((diff_mask.f a1 a2).bind fun t104 => (if 0 ≤ a1 then (some (Go.bits .or .u32 (Go.bits .andNot .u32 a0 t104) (Go.bits .and .u32 (shl .u32 a3 a1) t104))) else (none))) = some r := by rw [if_pos rfl] at H; exact H
    clear H
    have H := H1
    clear H1
    replace H := Option.bind_eq_some_iff.mp H
    obtain ⟨t104, A70, H⟩ := H
    replace H : (if 0 ≤ a1 then (some (Go.bits .or .u32 (Go.bits .andNot .u32 a0 t104) (Go.bits .and .u32 (shl .u32 a3 a1) t104))) else (none)) = some r := H
    have A7 := Aside0.mk A70
    clear A70
    by_cases c8 : 0 ≤ a1
    · rw [if_pos c8] at H
      have c8b0 := eq_true c8
      have c8b1 : decide (0 ≤ a1) = true := decide_eq_true c8
      clear c8
      obtain ⟨ji9, hji9⟩ : ∃ j_ : Int, (shl .u32 a3 a1) = j_ := ⟨_, rfl⟩
      replace H : (some (Go.bits .or .u32 (Go.bits .andNot .u32 a0 t104) (Go.bits .and .u32 (ji9) t104))) = some r := by first | (rw [hji9] at H; exact H) | (simp only [hji9] at H ⊢; exact H)
      (try rw [hji9] at A5)
      (try rw [hji9] at A7)
      have hji9_ : (IntKind.u32.wrap (a3 * 2 ^ min a1.toNat 32)) = ji9 := hji9
      have hji9z : a1 ≤ 32 → (IntKind.u32.wrap (a3 * 2 ^ a1.toNat)) = ji9 := shl_small hji9
      obtain rfl := Option.some.inj H
      go_enter Try.func17, Try.ntmps17
      go_wp2_with (first | ((with_reducible refine gate_callee (f := 38) rfl ?_); refine goesL_ (some 12) rfl rfl Try.func38 (by kernel_rfl) rfl #[.int .i64 a1, .int .i64 a2] rfl (by (try simp only [List.map_toArray, List.map_cons, List.map_nil]); first | done | rfl | (simp only [List.length_drop, List.length_take]; rfl)) ?_; (with_reducible refine (diff_field.calls a1 a2 true _ A5.out).mono ?_); rintro e w' ⟨rfl, ⟨nd, rfl⟩⟩; refine ⟨_, rfl, ?_⟩) | ((with_reducible refine gate_callee (f := 39) rfl ?_); refine goesL_ (some 17) rfl rfl Try.func39 (by kernel_rfl) rfl #[.int .i64 a1, .int .i64 a2] rfl (by (try simp only [List.map_toArray, List.map_cons, List.map_nil]); first | done | rfl | (simp only [List.length_drop, List.length_take]; rfl)) ?_; (with_reducible refine (diff_mask.calls a1 a2 t104 _ A7.out).mono ?_); rintro e w' ⟨rfl, ⟨nd, rfl⟩⟩; refine ⟨_, rfl, ?_⟩))
      go_ret
      exact ⟨by first | rfl | (simp; done) | (simp only [← hji9] <;> (first | rfl | simp)) | (simp [*]; done), by repeat (first | exact Drawn0.refl _ | apply Drawn0.step)⟩
    · rw [if_neg c8] at H
      exact absurd H (by simp)
  · replace c6 := Bool.eq_false_iff.mpr c6
    subst c6
    have H1 : (some a0) = some r := by rw [if_neg (show ¬ (false = true) by decide)] at H; exact H
    clear H
    have H := H1
    clear H1
    obtain rfl := Option.some.inj H
    go_enter Try.func17, Try.ntmps17
    go_wp2_with (first | ((with_reducible refine gate_callee (f := 38) rfl ?_); refine goesL_ (some 12) rfl rfl Try.func38 (by kernel_rfl) rfl #[.int .i64 a1, .int .i64 a2] rfl (by (try simp only [List.map_toArray, List.map_cons, List.map_nil]); first | done | rfl | (simp only [List.length_drop, List.length_take]; rfl)) ?_; (with_reducible refine (diff_field.calls a1 a2 false _ A5.out).mono ?_); rintro e w' ⟨rfl, ⟨nd, rfl⟩⟩; refine ⟨_, rfl, ?_⟩))
    go_ret
    exact ⟨by first | rfl | (simp; done) | (simp [*]; done), by repeat (first | exact Drawn0.refl _ | apply Drawn0.step)⟩

/-! ### diff_Bump: function 19 -/
def diff_Bump.f (a0 : Int) (a1 : Int) (a2 : Int) : Option (Int) := (diff_field.f a1 a2).bind fun t105 => (if t105 = true then ((diff_Get.f a0 a1 a2).bind fun t106 => ((diff_Put.f a0 a1 a2 ((t106 + 1) % 4294967296)).bind fun t107 => (some ((t107 - a0) % 4294967296)))) else (some 0))
set_option maxHeartbeats 8000000 in
set_option maxRecDepth 100000 in
theorem diff_Bump.calls (a0 : Int) (a1 : Int) (a2 : Int) (r : Int) (w : World) (h : diff_Bump.f a0 a1 a2 = some r) :
    Calls Try.prog 19 #[.int .u32 a0, .int .i64 a1, .int .i64 a2] w fun e w' => e = .returned (.int .u32 r) ∧ Drawn0 w w' := by
  have H : ((diff_field.f a1 a2).bind fun t105 => (if t105 = true then ((diff_Get.f a0 a1 a2).bind fun t106 => ((diff_Put.f a0 a1 a2 ((t106 + 1) % 4294967296)).bind fun t107 => (some ((t107 - a0) % 4294967296)))) else (some 0))) = some r := h
  clear h
  replace H := Option.bind_eq_some_iff.mp H
  obtain ⟨t105, A40, H⟩ := H
  replace H : (if t105 = true then ((diff_Get.f a0 a1 a2).bind fun t106 => ((diff_Put.f a0 a1 a2 ((t106 + 1) % 4294967296)).bind fun t107 => (some ((t107 - a0) % 4294967296)))) else (some 0)) = some r := H
  have A4 := Aside0.mk A40
  clear A40
  by_cases c5 : t105 = true
  · subst c5
    have H1 : ((diff_Get.f a0 a1 a2).bind fun t106 => ((diff_Put.f a0 a1 a2 ((t106 + 1) % 4294967296)).bind fun t107 => (some ((t107 - a0) % 4294967296)))) = some r := by rw [if_pos rfl] at H; exact H
    clear H
    have H := H1
    clear H1
    replace H := Option.bind_eq_some_iff.mp H
    obtain ⟨t106, A60, H⟩ := H
    replace H : ((diff_Put.f a0 a1 a2 ((t106 + 1) % 4294967296)).bind fun t107 => (some ((t107 - a0) % 4294967296))) = some r := H
    have A6 := Aside0.mk A60
    clear A60
    replace H := Option.bind_eq_some_iff.mp H
    obtain ⟨t107, A70, H⟩ := H
    replace H : (some ((t107 - a0) % 4294967296)) = some r := H
    have A7 := Aside0.mk A70
    clear A70
    obtain rfl := Option.some.inj H
    go_enter Try.func19, Try.ntmps19
    go_wp2_with (first | ((with_reducible refine gate_callee (f := 38) rfl ?_); refine goesL_ (some 9) rfl rfl Try.func38 (by kernel_rfl) rfl #[.int .i64 a1, .int .i64 a2] rfl (by (try simp only [List.map_toArray, List.map_cons, List.map_nil]); first | done | rfl | (simp only [List.length_drop, List.length_take]; rfl)) ?_; (with_reducible refine (diff_field.calls a1 a2 true _ A4.out).mono ?_); rintro e w' ⟨rfl, ⟨nd, rfl⟩⟩; refine ⟨_, rfl, ?_⟩) | ((with_reducible refine gate_callee (f := 15) rfl ?_); refine goesL_ (some 17) rfl rfl Try.func15 (by kernel_rfl) rfl #[.int .u32 a0, .int .i64 a1, .int .i64 a2] rfl (by (try simp only [List.map_toArray, List.map_cons, List.map_nil]); first | done | rfl | (simp only [List.length_drop, List.length_take]; rfl)) ?_; (with_reducible refine (diff_Get.calls a0 a1 a2 t106 _ A6.out).mono ?_); rintro e w' ⟨rfl, ⟨nd, rfl⟩⟩; refine ⟨_, rfl, ?_⟩) | ((with_reducible refine gate_callee (f := 17) rfl ?_); refine goesL_ (some 19) rfl rfl Try.func17 (by kernel_rfl) rfl #[.int .u32 a0, .int .i64 a1, .int .i64 a2, .int .u32 ((t106 + 1) % 4294967296)] rfl (by (try simp only [List.map_toArray, List.map_cons, List.map_nil]); first | done | rfl | (simp only [List.length_drop, List.length_take]; rfl)) ?_; (with_reducible refine (diff_Put.calls a0 a1 a2 ((t106 + 1) % 4294967296) t107 _ A7.out).mono ?_); rintro e w' ⟨rfl, ⟨nd, rfl⟩⟩; refine ⟨_, rfl, ?_⟩))
    go_ret
    exact ⟨by first | rfl | (simp; done) | (simp [*]; done), by repeat (first | exact Drawn0.refl _ | apply Drawn0.step)⟩
  · replace c5 := Bool.eq_false_iff.mpr c5
    subst c5
    have H1 : (some 0) = some r := by rw [if_neg (show ¬ (false = true) by decide)] at H; exact H
    clear H
    have H := H1
    clear H1
    obtain rfl := Option.some.inj H
    go_enter Try.func19, Try.ntmps19
    go_wp2_with (first | ((with_reducible refine gate_callee (f := 38) rfl ?_); refine goesL_ (some 9) rfl rfl Try.func38 (by kernel_rfl) rfl #[.int .i64 a1, .int .i64 a2] rfl (by (try simp only [List.map_toArray, List.map_cons, List.map_nil]); first | done | rfl | (simp only [List.length_drop, List.length_take]; rfl)) ?_; (with_reducible refine (diff_field.calls a1 a2 false _ A4.out).mono ?_); rintro e w' ⟨rfl, ⟨nd, rfl⟩⟩; refine ⟨_, rfl, ?_⟩))
    go_ret
    exact ⟨by first | rfl | (simp; done) | (simp [*]; done), by repeat (first | exact Drawn0.refl _ | apply Drawn0.step)⟩

/-! ### stilemanlaw02_awake: function 14 -/
def stilemanlaw02_awake.f  : Option (Bool) := (diff_Ahead.f 1 4294967295).bind fun t108 => (if t108 = 2 then ((diff_Bump.f 65280 8 8).bind fun t109 => (some (t109 == 4294902016))) else (some false))
set_option maxHeartbeats 8000000 in
set_option maxRecDepth 100000 in
theorem stilemanlaw02_awake.calls  (r : Bool) (w : World) (h : stilemanlaw02_awake.f  = some r) :
    Calls Try.prog 14 #[] w fun e w' => e = .returned (.bool r) ∧ Drawn0 w w' := by
  have H : ((diff_Ahead.f 1 4294967295).bind fun t108 => (if t108 = 2 then ((diff_Bump.f 65280 8 8).bind fun t109 => (some (t109 == 4294902016))) else (some false))) = some r := h
  clear h
  replace H := Option.bind_eq_some_iff.mp H
  obtain ⟨t108, A10, H⟩ := H
  replace H : (if t108 = 2 then ((diff_Bump.f 65280 8 8).bind fun t109 => (some (t109 == 4294902016))) else (some false)) = some r := H
  have A1 := Aside0.mk A10
  clear A10
  by_cases c2 : t108 = 2
  · rw [if_pos c2] at H
    have c2b0 : (t108 == 2) = true := beq_iff_eq.mpr c2
    have c2b1 : (t108 != 2) = false := bne_eq_false_iff_eq.mpr c2
    clear c2
    replace H := Option.bind_eq_some_iff.mp H
    obtain ⟨t109, A30, H⟩ := H
    replace H : (some (t109 == 4294902016)) = some r := H
    have A3 := Aside0.mk A30
    clear A30
    obtain rfl := Option.some.inj H
    go_enter Try.func14, Try.ntmps14
    go_wp2_with (first | ((with_reducible refine gate_callee (f := 12) rfl ?_); refine goesL_ (some 1) rfl rfl Try.func12 (by kernel_rfl) rfl #[.int .u32 1, .int .u32 4294967295] rfl (by (try simp only [List.map_toArray, List.map_cons, List.map_nil]); first | done | rfl | (simp only [List.length_drop, List.length_take]; rfl)) ?_; (with_reducible refine (diff_Ahead.calls 1 4294967295 t108 _ A1.out).mono ?_); rintro e w' ⟨rfl, ⟨nd, rfl⟩⟩; refine ⟨_, rfl, ?_⟩) | (go_at_call 19; (with_reducible refine (diff_Bump.calls 65280 8 8 t109 _ A3.out).mono ?_); rintro e w' ⟨rfl, ⟨nd, rfl⟩⟩))
    go_ret
    exact ⟨by first | rfl | (simp; done) | (simp [*]; done), by repeat (first | exact Drawn0.refl _ | apply Drawn0.step)⟩
  · rw [if_neg c2] at H
    have c2b0 : (t108 == 2) = false := beq_eq_false_iff_ne.mpr c2
    have c2b1 : (t108 != 2) = true := bne_iff_ne.mpr c2
    obtain rfl := Option.some.inj H
    go_enter Try.func14, Try.ntmps14
    go_wp2_with (first | ((with_reducible refine gate_callee (f := 12) rfl ?_); refine goesL_ (some 1) rfl rfl Try.func12 (by kernel_rfl) rfl #[.int .u32 1, .int .u32 4294967295] rfl (by (try simp only [List.map_toArray, List.map_cons, List.map_nil]); first | done | rfl | (simp only [List.length_drop, List.length_take]; rfl)) ?_; (with_reducible refine (diff_Ahead.calls 1 4294967295 t108 _ A1.out).mono ?_); rintro e w' ⟨rfl, ⟨nd, rfl⟩⟩; refine ⟨_, rfl, ?_⟩))
    go_ret
    exact ⟨by first | rfl | (simp; done) | (simp [*]; done), by repeat (first | exact Drawn0.refl _ | apply Drawn0.step)⟩

/-! ### stilemanlaw02_DiffRound: function 4 -/
def stilemanlaw02_DiffRound.f (a0 : Int) (a1 : Int) : Option (Bool) := (diff_Ahead.f ((a0 + ((a1) % 4294967296)) % 4294967296) a0).bind fun t110 => (if t110 = (wrap64 (a1)) then ((stilemanlaw02_awake.f).bind fun t111 => (some t111)) else (some false))
set_option maxHeartbeats 8000000 in
set_option maxRecDepth 100000 in
theorem stilemanlaw02_DiffRound.calls (a0 : Int) (a1 : Int) (r : Bool) (w : World) (h : stilemanlaw02_DiffRound.f a0 a1 = some r) :
    Calls Try.prog 4 #[.int .u32 a0, .int .i32 a1] w fun e w' => e = .returned (.bool r) ∧ Drawn0 w w' := by
  have H : ((diff_Ahead.f ((a0 + ((a1) % 4294967296)) % 4294967296) a0).bind fun t110 => (if t110 = (wrap64 (a1)) then ((stilemanlaw02_awake.f).bind fun t111 => (some t111)) else (some false))) = some r := h
  clear h
  replace H := Option.bind_eq_some_iff.mp H
  obtain ⟨t110, A30, H⟩ := H
  replace H : (if t110 = (wrap64 (a1)) then ((stilemanlaw02_awake.f).bind fun t111 => (some t111)) else (some false)) = some r := H
  have A3 := Aside0.mk A30
  clear A30
  by_cases c4 : t110 = (wrap64 (a1))
  · rw [if_pos c4] at H
    have c4b0 : (t110 == (wrap64 (a1))) = true := beq_iff_eq.mpr c4
    have c4b1 : (t110 != (wrap64 (a1))) = false := bne_eq_false_iff_eq.mpr c4
    clear c4
    replace H := Option.bind_eq_some_iff.mp H
    obtain ⟨t111, A50, H⟩ := H
    replace H : (some t111) = some r := H
    have A5 := Aside0.mk A50
    clear A50
    obtain rfl := Option.some.inj H
    go_enter Try.func4, Try.ntmps4
    go_wp2_with (first | ((with_reducible refine gate_callee (f := 12) rfl ?_); refine goesL_ (some 10) rfl rfl Try.func12 (by kernel_rfl) rfl #[.int .u32 ((a0 + ((a1) % 4294967296)) % 4294967296), .int .u32 a0] rfl (by (try simp only [List.map_toArray, List.map_cons, List.map_nil]); first | done | rfl | (simp only [List.length_drop, List.length_take]; rfl)) ?_; (with_reducible refine (diff_Ahead.calls ((a0 + ((a1) % 4294967296)) % 4294967296) a0 t110 _ A3.out).mono ?_); rintro e w' ⟨rfl, ⟨nd, rfl⟩⟩; refine ⟨_, rfl, ?_⟩) | (go_at_call 14; (with_reducible refine (stilemanlaw02_awake.calls  t111 _ A5.out).mono ?_); rintro e w' ⟨rfl, ⟨nd, rfl⟩⟩))
    go_ret
    exact ⟨by first | rfl | (simp; done) | (simp [*]; done), by repeat (first | exact Drawn0.refl _ | apply Drawn0.step)⟩
  · rw [if_neg c4] at H
    have c4b0 : (t110 == (wrap64 (a1))) = false := beq_eq_false_iff_ne.mpr c4
    have c4b1 : (t110 != (wrap64 (a1))) = true := bne_iff_ne.mpr c4
    obtain rfl := Option.some.inj H
    go_enter Try.func4, Try.ntmps4
    go_wp2_with (first | ((with_reducible refine gate_callee (f := 12) rfl ?_); refine goesL_ (some 10) rfl rfl Try.func12 (by kernel_rfl) rfl #[.int .u32 ((a0 + ((a1) % 4294967296)) % 4294967296), .int .u32 a0] rfl (by (try simp only [List.map_toArray, List.map_cons, List.map_nil]); first | done | rfl | (simp only [List.length_drop, List.length_take]; rfl)) ?_; (with_reducible refine (diff_Ahead.calls ((a0 + ((a1) % 4294967296)) % 4294967296) a0 t110 _ A3.out).mono ?_); rintro e w' ⟨rfl, ⟨nd, rfl⟩⟩; refine ⟨_, rfl, ?_⟩))
    go_ret
    exact ⟨by first | rfl | (simp; done) | (simp [*]; done), by repeat (first | exact Drawn0.refl _ | apply Drawn0.step)⟩

/-- THE ONE PURE STATEMENT of stilemanlaw02_DiffRound: yours. -/
def stilemanlaw02_DiffRound.Pure : Prop := ∀ (a0 : Int) (a1 : Int), (Lit.int .u32 a0).wf = true → (Lit.int .i32 a1).wf = true → stilemanlaw02_DiffRound.f a0 a1 = some true
theorem stilemanlaw02_DiffRound.walk (P : stilemanlaw02_DiffRound.Pure) (a0 : Int) (a1 : Int) (w : World) (w0 : (Lit.int .u32 a0).wf = true) (w1 : (Lit.int .i32 a1).wf = true) :
    Calls Try.prog 4 #[.int .u32 a0, .int .i32 a1] w fun e w' => e = .returned (.bool true) ∧ Below w.heap.size w w' := by
  have h := P a0 a1 w0 w1
  refine (stilemanlaw02_DiffRound.calls a0 a1 true w h).mono ?_
  rintro e w' ⟨rfl, hd⟩
  exact ⟨rfl, hd.below⟩

end Go.Proofs.Ytjlpaefpilhngaa.PDiffRound
