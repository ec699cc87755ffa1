-- PRINTED BY print.sh 35421559b90ae4d0a3588c463048766b98c2df88dd9212a6774a882060cdf62d: not written by this session
import Derived.Test.YtjlpaefpilhngaaPDiffApartx0
namespace Go.Proofs.Ytjlpaefpilhngaa.PDiffApart
open Go.RowKit Go.Proofs.YtjlpaefpilhngaaW.PrintWords Go.Proofs.YtjlpaefpilhngaaW.PrintLast Go.Proofs.YtjlpaefpilhngaaW.PrintMore
attribute [local go_sem] max2_int min2_int max_two min_two max_three min_three max_four min_four   -- for this text's walks alone
set_option linter.unusedVariables false
set_option linter.unusedSimpArgs false

/-! ### diff_Ahead: function 12 -/
def diff_Ahead.f (a0 : Int) (a1 : Int) : Option (Int) := some (wrap64 (wrap32 ((a0 - a1) % 4294967296)))
set_option maxHeartbeats 8000000 in
set_option maxRecDepth 100000 in
theorem diff_Ahead.calls (a0 : Int) (a1 : Int) (r : Int) (w : World) (h : diff_Ahead.f a0 a1 = some r) :
    Calls Try.prog 12 #[.int .u32 a0, .int .u32 a1] w fun e w' => e = .returned (.int .i64 r) ∧ Drawn0 w w' := by
  have H : (some (wrap64 (wrap32 ((a0 - a1) % 4294967296)))) = some r := h
  clear h
  obtain rfl := Option.some.inj H
  go_enter Try.func12, Try.ntmps12
  go_wp2
  go_ret
  exact ⟨by first | rfl | (simp; done) | (simp [*]; done), by repeat (first | exact Drawn0.refl _ | apply Drawn0.step)⟩

/-! ### diff_field: function 38 -/
def diff_field.f (a0 : Int) (a1 : Int) : Option (Bool) := if a0 ≥ 0 then (if a0 < 32 then (if a1 ≥ 1 then (some (decide (a1 ≤ (wrap64 (32 - a0))))) else (some false)) else (some false)) else (some false)
set_option maxHeartbeats 8000000 in
set_option maxRecDepth 100000 in
theorem diff_field.calls (a0 : Int) (a1 : Int) (r : Bool) (w : World) (h : diff_field.f a0 a1 = some r) :
    Calls Try.prog 38 #[.int .i64 a0, .int .i64 a1] w fun e w' => e = .returned (.bool r) ∧ Drawn0 w w' := by
  have H : (if a0 ≥ 0 then (if a0 < 32 then (if a1 ≥ 1 then (some (decide (a1 ≤ (wrap64 (32 - a0))))) else (some false)) else (some false)) else (some false)) = some r := h
  clear h
  by_cases c3 : a0 ≥ 0
  · rw [if_pos c3] at H
    have c3b0 : decide (0 ≤ a0) = true := decide_eq_true c3
    clear c3
    by_cases c4 : a0 < 32
    · rw [if_pos c4] at H
      have c4b0 : decide (a0 < 32) = true := decide_eq_true c4
      clear c4
      by_cases c5 : a1 ≥ 1
      · rw [if_pos c5] at H
        have c5b0 : decide (1 ≤ a1) = true := decide_eq_true c5
        clear c5
        obtain rfl := Option.some.inj H
        go_enter Try.func38, Try.ntmps38
        go_wp2
        go_ret
        exact ⟨by first | rfl | (simp; done) | (simp [*]; done), by repeat (first | exact Drawn0.refl _ | apply Drawn0.step)⟩
      · rw [if_neg c5] at H
        have c5b0 : decide (1 ≤ a1) = false := decide_eq_false c5
        clear c5
        obtain rfl := Option.some.inj H
        go_enter Try.func38, Try.ntmps38
        go_wp2
        go_ret
        exact ⟨by first | rfl | (simp; done) | (simp [*]; done), by repeat (first | exact Drawn0.refl _ | apply Drawn0.step)⟩
    · rw [if_neg c4] at H
      have c4b0 : decide (a0 < 32) = false := decide_eq_false c4
      clear c4
      obtain rfl := Option.some.inj H
      go_enter Try.func38, Try.ntmps38
      go_wp2
      go_ret
      exact ⟨by first | rfl | (simp; done) | (simp [*]; done), by repeat (first | exact Drawn0.refl _ | apply Drawn0.step)⟩
  · rw [if_neg c3] at H
    have c3b0 : decide (0 ≤ a0) = false := decide_eq_false c3
    clear c3
    obtain rfl := Option.some.inj H
    go_enter Try.func38, Try.ntmps38
    go_wp2
    go_ret
    exact ⟨by first | rfl | (simp; done) | (simp [*]; done), by repeat (first | exact Drawn0.refl _ | apply Drawn0.step)⟩

/-! ### diff_mask: function 39 -/
def diff_mask.f (a0 : Int) (a1 : Int) : Option (Int) := if 0 ≤ a1 then (if 0 ≤ a0 then (some ((shl .u64 (IntKind.u64.wrap ((shl .u64 1 a1) - 1)) a0) % 4294967296)) else (none)) else (none)
set_option maxHeartbeats 8000000 in
set_option maxRecDepth 100000 in
theorem diff_mask.calls (a0 : Int) (a1 : Int) (r : Int) (w : World) (h : diff_mask.f a0 a1 = some r) :
    Calls Try.prog 39 #[.int .i64 a0, .int .i64 a1] w fun e w' => e = .returned (.int .u32 r) ∧ Drawn0 w w' := by
  have H : (if 0 ≤ a1 then (if 0 ≤ a0 then (some ((shl .u64 (IntKind.u64.wrap ((shl .u64 1 a1) - 1)) a0) % 4294967296)) else (none)) else (none)) = some r := h
  clear h
  by_cases c3 : 0 ≤ a1
  · rw [if_pos c3] at H
    have c3b0 := eq_true c3
    have c3b1 : decide (0 ≤ a1) = true := decide_eq_true c3
    clear c3
    obtain ⟨ji4, hji4⟩ : ∃ j_ : Int, (shl .u64 1 a1) = j_ := ⟨_, rfl⟩
    replace H : (if 0 ≤ a0 then (some ((shl .u64 (IntKind.u64.wrap ((ji4) - 1)) a0) % 4294967296)) else (none)) = some r := by first | (rw [hji4] at H; exact H) | (simp only [hji4] at H ⊢; exact H)
    have hji4_ : (IntKind.u64.wrap (1 * 2 ^ min a1.toNat 64)) = ji4 := hji4
    have hji4z : a1 ≤ 64 → (IntKind.u64.wrap (1 * 2 ^ a1.toNat)) = ji4 := shl_small hji4
    have hji4u : (IntKind.u64.wrap (2 ^ min a1.toNat 64)) = ji4 := by have h_ := hji4_; rw [Int.one_mul] at h_; exact h_
    have hji4v : a1 ≤ 64 → (IntKind.u64.wrap (2 ^ a1.toNat)) = ji4 := fun hle_ => by have h_ := hji4z hle_; rw [Int.one_mul] at h_; exact h_
    by_cases c5 : 0 ≤ a0
    · rw [if_pos c5] at H
      have c5b0 := eq_true c5
      have c5b1 : decide (0 ≤ a0) = true := decide_eq_true c5
      clear c5
      obtain ⟨ji6, hji6⟩ : ∃ j_ : Int, (shl .u64 (IntKind.u64.wrap ((ji4) - 1)) a0) = j_ := ⟨_, rfl⟩
      replace H : (some ((ji6) % 4294967296)) = some r := by first | (rw [hji6] at H; exact H) | (simp only [hji6] at H ⊢; exact H)
      have hji6_ : (IntKind.u64.wrap ((IntKind.u64.wrap ((ji4) - 1)) * 2 ^ min a0.toNat 64)) = ji6 := hji6
      have hji6z : a0 ≤ 64 → (IntKind.u64.wrap ((IntKind.u64.wrap ((ji4) - 1)) * 2 ^ a0.toNat)) = ji6 := shl_small hji6
      obtain rfl := Option.some.inj H
      go_enter Try.func39, Try.ntmps39
      go_wp2
      go_ret
      exact ⟨by first | rfl | (simp; done) | (simp only [← hji4, ← hji6] <;> (first | rfl | simp)) | (simp [*]; done), by repeat (first | exact Drawn0.refl _ | apply Drawn0.step)⟩
    · rw [if_neg c5] at H
      exact absurd H (by simp)
  · rw [if_neg c3] at H
    exact absurd H (by simp)

/-! ### diff_Get: function 15 -/
def diff_Get.f (a0 : Int) (a1 : Int) (a2 : Int) : Option (Int) := (diff_field.f a1 a2).bind fun t101 => (if t101 = true then ((diff_mask.f a1 a2).bind fun t102 => (if 0 ≤ a1 then (some (shr .u32 (Go.bits .and .u32 a0 t102) a1)) else (none))) else (some 0))
set_option maxHeartbeats 8000000 in
set_option maxRecDepth 100000 in
theorem diff_Get.calls (a0 : Int) (a1 : Int) (a2 : Int) (r : Int) (w : World) (h : diff_Get.f a0 a1 a2 = some r) :
    Calls Try.prog 15 #[.int .u32 a0, .int .i64 a1, .int .i64 a2] w fun e w' => e = .returned (.int .u32 r) ∧ Drawn0 w w' := by
  have H : ((diff_field.f a1 a2).bind fun t101 => (if t101 = true then ((diff_mask.f a1 a2).bind fun t102 => (if 0 ≤ a1 then (some (shr .u32 (Go.bits .and .u32 a0 t102) a1)) else (none))) else (some 0))) = some r := h
  clear h
  replace H := Option.bind_eq_some_iff.mp H
  obtain ⟨t101, A40, H⟩ := H
  replace H : (if t101 = true then ((diff_mask.f a1 a2).bind fun t102 => (if 0 ≤ a1 then (some (shr .u32 (Go.bits .and .u32 a0 t102) a1)) else (none))) else (some 0)) = some r := H
  have A4 := Aside0.mk A40
  clear A40
  by_cases c5 : t101 = true
  · subst c5
    have H1 : ((diff_mask.f a1 a2).bind fun t102 => (if 0 ≤ a1 then (some (shr .u32 (Go.bits .and .u32 a0 t102) a1)) else (none))) = some r := by rw [if_pos rfl] at H; exact H
    clear H
    have H := H1
    clear H1
    replace H := Option.bind_eq_some_iff.mp H
    obtain ⟨t102, A60, H⟩ := H
    replace H : (if 0 ≤ a1 then (some (shr .u32 (Go.bits .and .u32 a0 t102) a1)) else (none)) = some r := H
    have A6 := Aside0.mk A60
    clear A60
    by_cases c7 : 0 ≤ a1
    · rw [if_pos c7] at H
      have c7b0 := eq_true c7
      have c7b1 : decide (0 ≤ a1) = true := decide_eq_true c7
      clear c7
      obtain ⟨ji8, hji8⟩ : ∃ j_ : Int, (shr .u32 (Go.bits .and .u32 a0 t102) a1) = j_ := ⟨_, rfl⟩
      replace H : (some ji8) = some r := by first | (rw [hji8] at H; exact H) | (simp only [hji8] at H ⊢; exact H)
      (try rw [hji8] at A4)
      (try rw [hji8] at A6)
      have hji8_ : ((Go.bits .and .u32 a0 t102) / 2 ^ min a1.toNat 32) = ji8 := hji8
      have hji8z : a1 ≤ 32 → ((Go.bits .and .u32 a0 t102) / 2 ^ a1.toNat) = ji8 := shr_small hji8
      obtain rfl := Option.some.inj H
      go_enter Try.func15, Try.ntmps15
      go_wp2_with (first | ((with_reducible refine gate_callee (f := 38) rfl ?_); refine goesL_ (some 9) rfl rfl Try.func38 (by kernel_rfl) rfl #[.int .i64 a1, .int .i64 a2] rfl (by (try simp only [List.map_toArray, List.map_cons, List.map_nil]); first | done | rfl | (simp only [List.length_drop, List.length_take]; rfl)) ?_; (with_reducible refine (diff_field.calls a1 a2 true _ A4.out).mono ?_); rintro e w' ⟨rfl, ⟨nd, rfl⟩⟩; refine ⟨_, rfl, ?_⟩) | ((with_reducible refine gate_callee (f := 39) rfl ?_); refine goesL_ (some 14) rfl rfl Try.func39 (by kernel_rfl) rfl #[.int .i64 a1, .int .i64 a2] rfl (by (try simp only [List.map_toArray, List.map_cons, List.map_nil]); first | done | rfl | (simp only [List.length_drop, List.length_take]; rfl)) ?_; (with_reducible refine (diff_mask.calls a1 a2 t102 _ A6.out).mono ?_); rintro e w' ⟨rfl, ⟨nd, rfl⟩⟩; refine ⟨_, rfl, ?_⟩))
      go_ret
      exact ⟨by first | rfl | (simp; done) | (simp only [← hji8] <;> (first | rfl | simp)) | (simp [*]; done), by repeat (first | exact Drawn0.refl _ | apply Drawn0.step)⟩
    · rw [if_neg c7] at H
      exact absurd H (by simp)
  · replace c5 := Bool.eq_false_iff.mpr c5
    subst c5
    have H1 : (some 0) = some r := by rw [if_neg (show ¬ (false = true) by decide)] at H; exact H
    clear H
    have H := H1
    clear H1
    obtain rfl := Option.some.inj H
    go_enter Try.func15, Try.ntmps15
    go_wp2_with (first | ((with_reducible refine gate_callee (f := 38) rfl ?_); refine goesL_ (some 9) rfl rfl Try.func38 (by kernel_rfl) rfl #[.int .i64 a1, .int .i64 a2] rfl (by (try simp only [List.map_toArray, List.map_cons, List.map_nil]); first | done | rfl | (simp only [List.length_drop, List.length_take]; rfl)) ?_; (with_reducible refine (diff_field.calls a1 a2 false _ A4.out).mono ?_); rintro e w' ⟨rfl, ⟨nd, rfl⟩⟩; refine ⟨_, rfl, ?_⟩))
    go_ret
    exact ⟨by first | rfl | (simp; done) | (simp [*]; done), by repeat (first | exact Drawn0.refl _ | apply Drawn0.step)⟩

/-! ### diff_Put: function 17 -/
def diff_Put.f (a0 : Int) (a1 : Int) (a2 : Int) (a3 : Int) : Option (Int) := (diff_field.f a1 a2).bind fun t103 => (if t103 = true then ((diff_mask.f a1 a2).bind fun t104 => (if 0 ≤ a1 then (some (Go.bits .or .u32 (Go.bits .andNot .u32 a0 t104) (Go.bits .and .u32 (shl .u32 a3 a1) t104))) else (none))) else (some a0))
set_option maxHeartbeats 8000000 in
set_option maxRecDepth 100000 in
theorem diff_Put.calls (a0 : Int) (a1 : Int) (a2 : Int) (a3 : Int) (r : Int) (w : World) (h : diff_Put.f a0 a1 a2 a3 = some r) :
    Calls Try.prog 17 #[.int .u32 a0, .int .i64 a1, .int .i64 a2, .int .u32 a3] w fun e w' => e = .returned (.int .u32 r) ∧ Drawn0 w w' := by
  have H : ((diff_field.f a1 a2).bind fun t103 => (if t103 = true then ((diff_mask.f a1 a2).bind fun t104 => (if 0 ≤ a1 then (some (Go.bits .or .u32 (Go.bits .andNot .u32 a0 t104) (Go.bits .and .u32 (shl .u32 a3 a1) t104))) else (none))) else (some a0))) = some r := h
  clear h
  replace H := Option.bind_eq_some_iff.mp H
  obtain ⟨t103, A50, H⟩ := H
  replace H : (if t103 = true then ((diff_mask.f a1 a2).bind fun t104 => (if 0 ≤ a1 then (some (Go.bits .or .u32 (Go.bits .andNot .u32 a0 t104) (Go.bits .and .u32 (shl .u32 a3 a1) t104))) else (none))) else (some a0)) = some r := H
  have A5 := Aside0.mk A50
  clear A50
  by_cases c6 : t103 = true
  · subst c6
    have H1 : ((diff_mask.f a1 a2).bind fun t104 => (if 0 ≤ a1 then (some (Go.bits .or .u32 (Go.bits .andNot .u32 a0 t104) (Go.bits .and .u32 (shl .u32 a3 a1) t104))) else (none))) = some r := by rw [if_pos rfl] at H; exact H
    clear H
    have H := H1
    clear H1
    replace H := Option.bind_eq_some_iff.mp H
    obtain ⟨t104, A70, H⟩ := H
    replace H : (if 0 ≤ a1 then (some (Go.bits .or .u32 (Go.bits .andNot .u32 a0 t104) (Go.bits .and .u32 (shl .u32 a3 a1) t104))) else (none)) = some r := H
    have A7 := Aside0.mk A70
    clear A70
    by_cases c8 : 0 ≤ a1
    · rw [if_pos c8] at H
      have c8b0 := eq_true c8
      have c8b1 : decide (0 ≤ a1) = true := decide_eq_true c8
      clear c8
      obtain ⟨ji9, hji9⟩ : ∃ j_ : Int, (shl .u32 a3 a1) = j_ := ⟨_, rfl⟩
      replace H : (some (Go.bits .or .u32 (Go.bits .andNot .u32 a0 t104) (Go.bits .and .u32 (ji9) t104))) = some r := by first | (rw [hji9] at H; exact H) | (simp only [hji9] at H ⊢; exact H)
      (try rw [hji9] at A5)
      (try rw [hji9] at A7)
      have hji9_ : (IntKind.u32.wrap (a3 * 2 ^ min a1.toNat 32)) = ji9 := hji9
      have hji9z : a1 ≤ 32 → (IntKind.u32.wrap (a3 * 2 ^ a1.toNat)) = ji9 := shl_small hji9
      obtain rfl := Option.some.inj H
      go_enter Try.func17, Try.ntmps17
      go_wp2_with (first | ((with_reducible refine gate_callee (f := 38) rfl ?_); refine goesL_ (some 12) rfl rfl Try.func38 (by kernel_rfl) rfl #[.int .i64 a1, .int .i64 a2] rfl (by (try simp only [List.map_toArray, List.map_cons, List.map_nil]); first | done | rfl | (simp only [List.length_drop, List.length_take]; rfl)) ?_; (with_reducible refine (diff_field.calls a1 a2 true _ A5.out).mono ?_); rintro e w' ⟨rfl, ⟨nd, rfl⟩⟩; refine ⟨_, rfl, ?_⟩) | ((with_reducible refine gate_callee (f := 39) rfl ?_); refine goesL_ (some 17) rfl rfl Try.func39 (by kernel_rfl) rfl #[.int .i64 a1, .int .i64 a2] rfl (by (try simp only [List.map_toArray, List.map_cons, List.map_nil]); first | done | rfl | (simp only [List.length_drop, List.length_take]; rfl)) ?_; (with_reducible refine (diff_mask.calls a1 a2 t104 _ A7.out).mono ?_); rintro e w' ⟨rfl, ⟨nd, rfl⟩⟩; refine ⟨_, rfl, ?_⟩))
      go_ret
      exact ⟨by first | rfl | (simp; done) | (simp only [← hji9] <;> (first | rfl | simp)) | (simp [*]; done), by repeat (first | exact Drawn0.refl _ | apply Drawn0.step)⟩
    · rw [if_neg c8] at H
      exact absurd H (by simp)
  · replace c6 := Bool.eq_false_iff.mpr c6
    subst c6
    have H1 : (some a0) = some r := by rw [if_neg (show ¬ (false = true) by decide)] at H; exact H
    clear H
    have H := H1
    clear H1
    obtain rfl := Option.some.inj H
    go_enter Try.func17, Try.ntmps17
    go_wp2_with (first | ((with_reducible refine gate_callee (f := 38) rfl ?_); refine goesL_ (some 12) rfl rfl Try.func38 (by kernel_rfl) rfl #[.int .i64 a1, .int .i64 a2] rfl (by (try simp only [List.map_toArray, List.map_cons, List.map_nil]); first | done | rfl | (simp only [List.length_drop, List.length_take]; rfl)) ?_; (with_reducible refine (diff_field.calls a1 a2 false _ A5.out).mono ?_); rintro e w' ⟨rfl, ⟨nd, rfl⟩⟩; refine ⟨_, rfl, ?_⟩))
    go_ret
    exact ⟨by first | rfl | (simp; done) | (simp [*]; done), by repeat (first | exact Drawn0.refl _ | apply Drawn0.step)⟩

/-! ### diff_Bump: function 19 -/
def diff_Bump.f (a0 : Int) (a1 : Int) (a2 : Int) : Option (Int) := (diff_field.f a1 a2).bind fun t105 => (if t105 = true then ((diff_Get.f a0 a1 a2).bind fun t106 => ((diff_Put.f a0 a1 a2 ((t106 + 1) % 4294967296)).bind fun t107 => (some ((t107 - a0) % 4294967296)))) else (some 0))
set_option maxHeartbeats 8000000 in
set_option maxRecDepth 100000 in
theorem diff_Bump.calls (a0 : Int) (a1 : Int) (a2 : Int) (r : Int) (w : World) (h : diff_Bump.f a0 a1 a2 = some r) :
    Calls Try.prog 19 #[.int .u32 a0, .int .i64 a1, .int .i64 a2] w fun e w' => e = .returned (.int .u32 r) ∧ Drawn0 w w' := by
  have H : ((diff_field.f a1 a2).bind fun t105 => (if t105 = true then ((diff_Get.f a0 a1 a2).bind fun t106 => ((diff_Put.f a0 a1 a2 ((t106 + 1) % 4294967296)).bind fun t107 => (some ((t107 - a0) % 4294967296)))) else (some 0))) = some r := h
  clear h
  replace H := Option.bind_eq_some_iff.mp H
  obtain ⟨t105, A40, H⟩ := H
  replace H : (if t105 = true then ((diff_Get.f a0 a1 a2).bind fun t106 => ((diff_Put.f a0 a1 a2 ((t106 + 1) % 4294967296)).bind fun t107 => (some ((t107 - a0) % 4294967296)))) else (some 0)) = some r := H
  have A4 := Aside0.mk A40
  clear A40
  by_cases c5 : t105 = true
  · subst c5
    have H1 : ((diff_Get.f a0 a1 a2).bind fun t106 => ((diff_Put.f a0 a1 a2 ((t106 + 1) % 4294967296)).bind fun t107 => (some ((t107 - a0) % 4294967296)))) = some r := by rw [if_pos rfl] at H; exact H
    clear H
    have H := H1
    clear H1
    replace H := Option.bind_eq_some_iff.mp H
    obtain ⟨t106, A60, H⟩ := H
    replace H : ((diff_Put.f a0 a1 a2 ((t106 + 1) % 4294967296)).bind fun t107 => (some ((t107 - a0) % 4294967296))) = some r := H
    have A6 := Aside0.mk A60
    clear A60
    replace H := Option.bind_eq_some_iff.mp H
    obtain ⟨t107, A70, H⟩ := H
    replace H : (some ((t107 - a0) % 4294967296)) = some r := H
    have A7 := Aside0.mk A70
    clear A70
    obtain rfl := Option.some.inj H
    go_enter Try.func19, Try.ntmps19
    go_wp2_with (first | ((with_reducible refine gate_callee (f := 38) rfl ?_); refine goesL_ (some 9) rfl rfl Try.func38 (by kernel_rfl) rfl #[.int .i64 a1, .int .i64 a2] rfl (by (try simp only [List.map_toArray, List.map_cons, List.map_nil]); first | done | rfl | (simp only [List.length_drop, List.length_take]; rfl)) ?_; (with_reducible refine (diff_field.calls a1 a2 true _ A4.out).mono ?_); rintro e w' ⟨rfl, ⟨nd, rfl⟩⟩; refine ⟨_, rfl, ?_⟩) | ((with_reducible refine gate_callee (f := 15) rfl ?_); refine goesL_ (some 17) rfl rfl Try.func15 (by kernel_rfl) rfl #[.int .u32 a0, .int .i64 a1, .int .i64 a2] rfl (by (try simp only [List.map_toArray, List.map_cons, List.map_nil]); first | done | rfl | (simp only [List.length_drop, List.length_take]; rfl)) ?_; (with_reducible refine (diff_Get.calls a0 a1 a2 t106 _ A6.out).mono ?_); rintro e w' ⟨rfl, ⟨nd, rfl⟩⟩; refine ⟨_, rfl, ?_⟩) | ((with_reducible refine gate_callee (f := 17) rfl ?_); refine goesL_ (some 19) rfl rfl Try.func17 (by kernel_rfl) rfl #[.int .u32 a0, .int .i64 a1, .int .i64 a2, .int .u32 ((t106 + 1) % 4294967296)] rfl (by (try simp only [List.map_toArray, List.map_cons, List.map_nil]); first | done | rfl | (simp only [List.length_drop, List.length_take]; rfl)) ?_; (with_reducible refine (diff_Put.calls a0 a1 a2 ((t106 + 1) % 4294967296) t107 _ A7.out).mono ?_); rintro e w' ⟨rfl, ⟨nd, rfl⟩⟩; refine ⟨_, rfl, ?_⟩))
    go_ret
    exact ⟨by first | rfl | (simp; done) | (simp [*]; done), by repeat (first | exact Drawn0.refl _ | apply Drawn0.step)⟩
  · replace c5 := Bool.eq_false_iff.mpr c5
    subst c5
    have H1 : (some 0) = some r := by rw [if_neg (show ¬ (false = true) by decide)] at H; exact H
    clear H
    have H := H1
    clear H1
    obtain rfl := Option.some.inj H
    go_enter Try.func19, Try.ntmps19
    go_wp2_with (first | ((with_reducible refine gate_callee (f := 38) rfl ?_); refine goesL_ (some 9) rfl rfl Try.func38 (by kernel_rfl) rfl #[.int .i64 a1, .int .i64 a2] rfl (by (try simp only [List.map_toArray, List.map_cons, List.map_nil]); first | done | rfl | (simp only [List.length_drop, List.length_take]; rfl)) ?_; (with_reducible refine (diff_field.calls a1 a2 false _ A4.out).mono ?_); rintro e w' ⟨rfl, ⟨nd, rfl⟩⟩; refine ⟨_, rfl, ?_⟩))
    go_ret
    exact ⟨by first | rfl | (simp; done) | (simp [*]; done), by repeat (first | exact Drawn0.refl _ | apply Drawn0.step)⟩

/-! ### stilemanlaw02_awake: function 14 -/
def stilemanlaw02_awake.f  : Option (Bool) := (diff_Ahead.f 1 4294967295).bind fun t108 => (if t108 = 2 then ((diff_Bump.f 65280 8 8).bind fun t109 => (some (t109 == 4294902016))) else (some false))
set_option maxHeartbeats 8000000 in
set_option maxRecDepth 100000 in
theorem stilemanlaw02_awake.calls  (r : Bool) (w : World) (h : stilemanlaw02_awake.f  = some r) :
    Calls Try.prog 14 #[] w fun e w' => e = .returned (.bool r) ∧ Drawn0 w w' := by
  have H : ((diff_Ahead.f 1 4294967295).bind fun t108 => (if t108 = 2 then ((diff_Bump.f 65280 8 8).bind fun t109 => (some (t109 == 4294902016))) else (some false))) = some r := h
  clear h
  replace H := Option.bind_eq_some_iff.mp H
  obtain ⟨t108, A10, H⟩ := H
  replace H : (if t108 = 2 then ((diff_Bump.f 65280 8 8).bind fun t109 => (some (t109 == 4294902016))) else (some false)) = some r := H
  have A1 := Aside0.mk A10
  clear A10
  by_cases c2 : t108 = 2
  · rw [if_pos c2] at H
    have c2b0 : (t108 == 2) = true := beq_iff_eq.mpr c2
    have c2b1 : (t108 != 2) = false := bne_eq_false_iff_eq.mpr c2
    clear c2
    replace H := Option.bind_eq_some_iff.mp H
    obtain ⟨t109, A30, H⟩ := H
    replace H : (some (t109 == 4294902016)) = some r := H
    have A3 := Aside0.mk A30
    clear A30
    obtain rfl := Option.some.inj H
    go_enter Try.func14, Try.ntmps14
    go_wp2_with (first | ((with_reducible refine gate_callee (f := 12) rfl ?_); refine goesL_ (some 1) rfl rfl Try.func12 (by kernel_rfl) rfl #[.int .u32 1, .int .u32 4294967295] rfl (by (try simp only [List.map_toArray, List.map_cons, List.map_nil]); first | done | rfl | (simp only [List.length_drop, List.length_take]; rfl)) ?_; (with_reducible refine (diff_Ahead.calls 1 4294967295 t108 _ A1.out).mono ?_); rintro e w' ⟨rfl, ⟨nd, rfl⟩⟩; refine ⟨_, rfl, ?_⟩) | (go_at_call 19; (with_reducible refine (diff_Bump.calls 65280 8 8 t109 _ A3.out).mono ?_); rintro e w' ⟨rfl, ⟨nd, rfl⟩⟩))
    go_ret
    exact ⟨by first | rfl | (simp; done) | (simp [*]; done), by repeat (first | exact Drawn0.refl _ | apply Drawn0.step)⟩
  · rw [if_neg c2] at H
    have c2b0 : (t108 == 2) = false := beq_eq_false_iff_ne.mpr c2
    have c2b1 : (t108 != 2) = true := bne_iff_ne.mpr c2
    obtain rfl := Option.some.inj H
    go_enter Try.func14, Try.ntmps14
    go_wp2_with (first | ((with_reducible refine gate_callee (f := 12) rfl ?_); refine goesL_ (some 1) rfl rfl Try.func12 (by kernel_rfl) rfl #[.int .u32 1, .int .u32 4294967295] rfl (by (try simp only [List.map_toArray, List.map_cons, List.map_nil]); first | done | rfl | (simp only [List.length_drop, List.length_take]; rfl)) ?_; (with_reducible refine (diff_Ahead.calls 1 4294967295 t108 _ A1.out).mono ?_); rintro e w' ⟨rfl, ⟨nd, rfl⟩⟩; refine ⟨_, rfl, ?_⟩))
    go_ret
    exact ⟨by first | rfl | (simp; done) | (simp [*]; done), by repeat (first | exact Drawn0.refl _ | apply Drawn0.step)⟩

/-! ### stilemanlaw02_DiffApart: function 6 -/
mutual
def stilemanlaw02_DiffApart.j0 : Nat → Int → Int → Bool → Option (Bool)
  | 0, _, _, _ => none
  | k + 1, x0, x9, x49 => if x49 = true then (some false) else (stilemanlaw02_DiffApart.l0 k x0 x9 x0 0)
def stilemanlaw02_DiffApart.l0 : Nat → Int → Int → Int → Int → Option (Bool)
  | 0, _, _, _, _ => none
  | k + 1, x0, x9, x12, x13 => if x13 < 256 then ((diff_Bump.f x12 x9 8).bind fun t117 => ((diff_Get.f ((x12 + t117) % 4294967296) x9 8).bind fun t118 => ((diff_Get.f x12 x9 8).bind fun t119 => (if t118 = (Go.bits .and .u32 ((t119 + 1) % 4294967296) 255) then (stilemanlaw02_DiffApart.l0 k x0 x9 ((x12 + t117) % 4294967296) (wrap64 (x13 + 1))) else (some false))))) else (if x12 = x0 then ((stilemanlaw02_awake.f).bind fun t116 => (some t116)) else (some false))
end
def stilemanlaw02_DiffApart.f (k : Nat) (a0 : Int) (a1 : Int) (a2 : Int) (a3 : Int) : Option (Bool) := (diff_Put.f a0 (Int.tmod (wrap64 (a2)) 25) 8 a1).bind fun t110 => ((diff_Get.f t110 (Int.tmod (wrap64 (a2)) 25) 8).bind fun t111 => (if t111 = (Go.bits .and .u32 a1 255) then (if (Int.tmod (wrap64 (a2)) 25) ≥ (wrap64 ((Int.tmod (wrap64 (a3)) 25) + 8)) then ((diff_Get.f t110 (Int.tmod (wrap64 (a3)) 25) 8).bind fun t112 => ((diff_Get.f a0 (Int.tmod (wrap64 (a3)) 25) 8).bind fun t113 => (stilemanlaw02_DiffApart.j0 k a0 (Int.tmod (wrap64 (a2)) 25) (t112 != t113)))) else (if (Int.tmod (wrap64 (a3)) 25) ≥ (wrap64 ((Int.tmod (wrap64 (a2)) 25) + 8)) then ((diff_Get.f t110 (Int.tmod (wrap64 (a3)) 25) 8).bind fun t114 => ((diff_Get.f a0 (Int.tmod (wrap64 (a3)) 25) 8).bind fun t115 => (stilemanlaw02_DiffApart.j0 k a0 (Int.tmod (wrap64 (a2)) 25) (t114 != t115)))) else (stilemanlaw02_DiffApart.j0 k a0 (Int.tmod (wrap64 (a2)) 25) false))) else (some false)))
theorem stilemanlaw02_DiffApart.mono_l : ∀ k, (∀ y0 y1 y2, LeO (stilemanlaw02_DiffApart.j0 k y0 y1 y2) (stilemanlaw02_DiffApart.j0 (k + 1) y0 y1 y2)) ∧ (∀ y0 y1 y2 y3, LeO (stilemanlaw02_DiffApart.l0 k y0 y1 y2 y3) (stilemanlaw02_DiffApart.l0 (k + 1) y0 y1 y2 y3))
  | 0 => ⟨fun _ _ _ r h => by simp [stilemanlaw02_DiffApart.j0] at h, fun _ _ _ _ r h => by simp [stilemanlaw02_DiffApart.l0] at h⟩
  | k + 1 => by
    obtain ⟨ih0, ih1⟩ := stilemanlaw02_DiffApart.mono_l k
    refine ⟨?_, ?_⟩
    · intro y0 y1 y2
      unfold stilemanlaw02_DiffApart.j0
      repeat' first
      | (with_reducible exact ih0 _ _ _)
      | (with_reducible exact ih1 _ _ _ _)
      | (with_reducible exact LeO.refl _)
      | (with_reducible exact LeO.none _)
      | (with_reducible refine LeO.ite ?_ ?_)
      | (with_reducible refine LeO.bind ?_ (fun _ => ?_))
      | exact ih0 _ _ _
      | exact ih1 _ _ _ _
      | exact LeO.none _
      | refine LeO.ite ?_ ?_
      | refine LeO.bind ?_ (fun _ => ?_)
    · intro y0 y1 y2 y3
      unfold stilemanlaw02_DiffApart.l0
      repeat' first
      | (with_reducible exact ih0 _ _ _)
      | (with_reducible exact ih1 _ _ _ _)
      | (with_reducible exact LeO.refl _)
      | (with_reducible exact LeO.none _)
      | (with_reducible refine LeO.ite ?_ ?_)
      | (with_reducible refine LeO.bind ?_ (fun _ => ?_))
      | exact ih0 _ _ _
      | exact ih1 _ _ _ _
      | exact LeO.none _
      | refine LeO.ite ?_ ?_
      | refine LeO.bind ?_ (fun _ => ?_)
theorem stilemanlaw02_DiffApart.mono : ∀ a0 a1 a2 a3 k, LeO (stilemanlaw02_DiffApart.f k a0 a1 a2 a3) (stilemanlaw02_DiffApart.f (k + 1) a0 a1 a2 a3) := by
  intro a0 a1 a2 a3 k
  obtain ⟨ih0, ih1⟩ := stilemanlaw02_DiffApart.mono_l k
  unfold stilemanlaw02_DiffApart.f
  repeat' first
      | (with_reducible exact ih0 _ _ _)
      | (with_reducible exact ih1 _ _ _ _)
      | (with_reducible exact LeO.refl _)
      | (with_reducible exact LeO.none _)
      | (with_reducible refine LeO.ite ?_ ?_)
      | (with_reducible refine LeO.bind ?_ (fun _ => ?_))
      | exact ih0 _ _ _
      | exact ih1 _ _ _ _
      | exact LeO.none _
      | refine LeO.ite ?_ ?_
      | refine LeO.bind ?_ (fun _ => ?_)
set_option maxHeartbeats 8000000 in
set_option maxRecDepth 100000 in
theorem stilemanlaw02_DiffApart.calls (k : Nat) (a0 : Int) (a1 : Int) (a2 : Int) (a3 : Int) (r : Bool) (w : World) (h : stilemanlaw02_DiffApart.f k a0 a1 a2 a3 = some r) :
    Calls Try.prog 6 #[.int .u32 a0, .int .u32 a1, .int .u8 a2, .int .u8 a3] w fun e w' => e = .returned (.bool r) ∧ Drawn0 w w' := by
  have H : ((diff_Put.f a0 (Int.tmod (wrap64 (a2)) 25) 8 a1).bind fun t110 => ((diff_Get.f t110 (Int.tmod (wrap64 (a2)) 25) 8).bind fun t111 => (if t111 = (Go.bits .and .u32 a1 255) then (if (Int.tmod (wrap64 (a2)) 25) ≥ (wrap64 ((Int.tmod (wrap64 (a3)) 25) + 8)) then ((diff_Get.f t110 (Int.tmod (wrap64 (a3)) 25) 8).bind fun t112 => ((diff_Get.f a0 (Int.tmod (wrap64 (a3)) 25) 8).bind fun t113 => (stilemanlaw02_DiffApart.j0 k a0 (Int.tmod (wrap64 (a2)) 25) (t112 != t113)))) else (if (Int.tmod (wrap64 (a3)) 25) ≥ (wrap64 ((Int.tmod (wrap64 (a2)) 25) + 8)) then ((diff_Get.f t110 (Int.tmod (wrap64 (a3)) 25) 8).bind fun t114 => ((diff_Get.f a0 (Int.tmod (wrap64 (a3)) 25) 8).bind fun t115 => (stilemanlaw02_DiffApart.j0 k a0 (Int.tmod (wrap64 (a2)) 25) (t114 != t115)))) else (stilemanlaw02_DiffApart.j0 k a0 (Int.tmod (wrap64 (a2)) 25) false))) else (some false)))) = some r := h
  clear h
  replace H := Option.bind_eq_some_iff.mp H
  obtain ⟨t110, A50, H⟩ := H
  replace H : ((diff_Get.f t110 (Int.tmod (wrap64 (a2)) 25) 8).bind fun t111 => (if t111 = (Go.bits .and .u32 a1 255) then (if (Int.tmod (wrap64 (a2)) 25) ≥ (wrap64 ((Int.tmod (wrap64 (a3)) 25) + 8)) then ((diff_Get.f t110 (Int.tmod (wrap64 (a3)) 25) 8).bind fun t112 => ((diff_Get.f a0 (Int.tmod (wrap64 (a3)) 25) 8).bind fun t113 => (stilemanlaw02_DiffApart.j0 k a0 (Int.tmod (wrap64 (a2)) 25) (t112 != t113)))) else (if (Int.tmod (wrap64 (a3)) 25) ≥ (wrap64 ((Int.tmod (wrap64 (a2)) 25) + 8)) then ((diff_Get.f t110 (Int.tmod (wrap64 (a3)) 25) 8).bind fun t114 => ((diff_Get.f a0 (Int.tmod (wrap64 (a3)) 25) 8).bind fun t115 => (stilemanlaw02_DiffApart.j0 k a0 (Int.tmod (wrap64 (a2)) 25) (t114 != t115)))) else (stilemanlaw02_DiffApart.j0 k a0 (Int.tmod (wrap64 (a2)) 25) false))) else (some false))) = some r := H
  have A5 := Aside0.mk A50
  clear A50
  replace H := Option.bind_eq_some_iff.mp H
  obtain ⟨t111, A60, H⟩ := H
  replace H : (if t111 = (Go.bits .and .u32 a1 255) then (if (Int.tmod (wrap64 (a2)) 25) ≥ (wrap64 ((Int.tmod (wrap64 (a3)) 25) + 8)) then ((diff_Get.f t110 (Int.tmod (wrap64 (a3)) 25) 8).bind fun t112 => ((diff_Get.f a0 (Int.tmod (wrap64 (a3)) 25) 8).bind fun t113 => (stilemanlaw02_DiffApart.j0 k a0 (Int.tmod (wrap64 (a2)) 25) (t112 != t113)))) else (if (Int.tmod (wrap64 (a3)) 25) ≥ (wrap64 ((Int.tmod (wrap64 (a2)) 25) + 8)) then ((diff_Get.f t110 (Int.tmod (wrap64 (a3)) 25) 8).bind fun t114 => ((diff_Get.f a0 (Int.tmod (wrap64 (a3)) 25) 8).bind fun t115 => (stilemanlaw02_DiffApart.j0 k a0 (Int.tmod (wrap64 (a2)) 25) (t114 != t115)))) else (stilemanlaw02_DiffApart.j0 k a0 (Int.tmod (wrap64 (a2)) 25) false))) else (some false)) = some r := H
  have A6 := Aside0.mk A60
  clear A60
  by_cases c7 : t111 = (Go.bits .and .u32 a1 255)
  · rw [if_pos c7] at H
    have c7b0 : (t111 == (Go.bits .and .u32 a1 255)) = true := beq_iff_eq.mpr c7
    have c7b1 : (t111 != (Go.bits .and .u32 a1 255)) = false := bne_eq_false_iff_eq.mpr c7
    clear c7
    have HC8 := Aside0.mk H
    clear H
    go_enter Try.func6, Try.ntmps6
    go_upto_region 5 with (first | ((with_reducible refine gate_callee (f := 17) rfl ?_); refine goesL_ (some 24) rfl rfl Try.func17 (by kernel_rfl) rfl #[.int .u32 a0, .int .i64 (Int.tmod (wrap64 (a2)) 25), .int .i64 8, .int .u32 a1] rfl (by (try simp only [List.map_toArray, List.map_cons, List.map_nil]); first | done | rfl | (simp only [List.length_drop, List.length_take]; rfl)) ?_; (with_reducible refine (diff_Put.calls a0 (Int.tmod (wrap64 (a2)) 25) 8 a1 t110 _ A5.out).mono ?_); rintro e w' ⟨rfl, ⟨nd, rfl⟩⟩; refine ⟨_, rfl, ?_⟩) | ((with_reducible refine gate_callee (f := 15) rfl ?_); refine goesL_ (some 27) rfl rfl Try.func15 (by kernel_rfl) rfl #[.int .u32 t110, .int .i64 (Int.tmod (wrap64 (a2)) 25), .int .i64 8] rfl (by (try simp only [List.map_toArray, List.map_cons, List.map_nil]); first | done | rfl | (simp only [List.length_drop, List.length_take]; rfl)) ?_; (with_reducible refine (diff_Get.calls t110 (Int.tmod (wrap64 (a2)) 25) 8 t111 _ A6.out).mono ?_); rintro e w' ⟨rfl, ⟨nd, rfl⟩⟩; refine ⟨_, rfl, ?_⟩))
    (try simp only [Act.put, List.setIfInBounds_toArray, List.set_cons_zero, List.set_cons_succ])
    go_cut [49] (fun v49 wc => ∃ (kq : Nat) (x49_7 : Bool), v49 = .bool x49_7 ∧ Aside0 (stilemanlaw02_DiffApart.j0 kq a0 (Int.tmod (wrap64 (a2)) 25) x49_7 = some r) ∧ Aside0 (kq ≤ k) ∧ Drawn0 w wc)
    case first =>
      have H := HC8.out
      clear HC8
      by_cases c9 : (Int.tmod (wrap64 (a2)) 25) ≥ (wrap64 ((Int.tmod (wrap64 (a3)) 25) + 8))
      · rw [if_pos c9] at H
        have c9b0 : decide ((wrap64 ((Int.tmod (wrap64 (a3)) 25) + 8)) ≤ (Int.tmod (wrap64 (a2)) 25)) = true := decide_eq_true c9
        clear c9
        (first | rw [c9b0] | (simp only [i64_w, i32_w]; rw [c9b0]) | skip)
        replace H := Option.bind_eq_some_iff.mp H
        obtain ⟨t112, A100, H⟩ := H
        replace H : ((diff_Get.f a0 (Int.tmod (wrap64 (a3)) 25) 8).bind fun t113 => (stilemanlaw02_DiffApart.j0 k a0 (Int.tmod (wrap64 (a2)) 25) (t112 != t113))) = some r := H
        have A10 := Aside0.mk A100
        clear A100
        replace H := Option.bind_eq_some_iff.mp H
        obtain ⟨t113, A110, H⟩ := H
        replace H : (stilemanlaw02_DiffApart.j0 k a0 (Int.tmod (wrap64 (a2)) 25) (t112 != t113)) = some r := H
        have A11 := Aside0.mk A110
        clear A110
        have H' := Aside0.mk H
        clear H
        go_wp2_with (first | (go_at_call 15; (with_reducible refine (diff_Get.calls t110 (Int.tmod (wrap64 (a3)) 25) 8 t112 _ A10.out).mono ?_); rintro e w' ⟨rfl, ⟨nd, rfl⟩⟩) | (go_at_call 15; (with_reducible refine (diff_Get.calls a0 (Int.tmod (wrap64 (a3)) 25) 8 t113 _ A11.out).mono ?_); rintro e w' ⟨rfl, ⟨nd, rfl⟩⟩))
        go_meet
        case rel => exact ⟨_, ((t112 != t113)), (by first | rfl | (simp; done) | (simp [*]; done)), H', ⟨by first | omega | exact Nat.le_refl _⟩, by repeat (first | exact Drawn0.refl _ | apply Drawn0.step)⟩
      · rw [if_neg c9] at H
        have c9b0 : decide ((wrap64 ((Int.tmod (wrap64 (a3)) 25) + 8)) ≤ (Int.tmod (wrap64 (a2)) 25)) = false := decide_eq_false c9
        clear c9
        (first | rw [c9b0] | (simp only [i64_w, i32_w]; rw [c9b0]) | skip)
        by_cases c12 : (Int.tmod (wrap64 (a3)) 25) ≥ (wrap64 ((Int.tmod (wrap64 (a2)) 25) + 8))
        · rw [if_pos c12] at H
          have c12b0 : decide ((wrap64 ((Int.tmod (wrap64 (a2)) 25) + 8)) ≤ (Int.tmod (wrap64 (a3)) 25)) = true := decide_eq_true c12
          clear c12
          replace H := Option.bind_eq_some_iff.mp H
          obtain ⟨t114, A130, H⟩ := H
          replace H : ((diff_Get.f a0 (Int.tmod (wrap64 (a3)) 25) 8).bind fun t115 => (stilemanlaw02_DiffApart.j0 k a0 (Int.tmod (wrap64 (a2)) 25) (t114 != t115))) = some r := H
          have A13 := Aside0.mk A130
          clear A130
          replace H := Option.bind_eq_some_iff.mp H
          obtain ⟨t115, A140, H⟩ := H
          replace H : (stilemanlaw02_DiffApart.j0 k a0 (Int.tmod (wrap64 (a2)) 25) (t114 != t115)) = some r := H
          have A14 := Aside0.mk A140
          clear A140
          have H' := Aside0.mk H
          clear H
          go_wp2_with (first | (go_at_call 15; (with_reducible refine (diff_Get.calls t110 (Int.tmod (wrap64 (a3)) 25) 8 t114 _ A13.out).mono ?_); rintro e w' ⟨rfl, ⟨nd, rfl⟩⟩) | (go_at_call 15; (with_reducible refine (diff_Get.calls a0 (Int.tmod (wrap64 (a3)) 25) 8 t115 _ A14.out).mono ?_); rintro e w' ⟨rfl, ⟨nd, rfl⟩⟩))
          go_meet
          case rel => exact ⟨_, ((t114 != t115)), (by first | rfl | (simp; done) | (simp [*]; done)), H', ⟨by first | omega | exact Nat.le_refl _⟩, by repeat (first | exact Drawn0.refl _ | apply Drawn0.step)⟩
        · rw [if_neg c12] at H
          have c12b0 : decide ((wrap64 ((Int.tmod (wrap64 (a2)) 25) + 8)) ≤ (Int.tmod (wrap64 (a3)) 25)) = false := decide_eq_false c12
          clear c12
          have H' := Aside0.mk H
          clear H
          go_wp2
          go_meet
          case rel => exact ⟨_, (false), (by first | rfl | (simp; done) | (simp [*]; done)), H', ⟨by first | omega | exact Nat.le_refl _⟩, by repeat (first | exact Drawn0.refl _ | apply Drawn0.step)⟩
    case rest =>
      clear HC8
      try clear c1
      try clear p2
      try clear c6
      try clear p6
      try clear c7
      try clear c7b0
      try clear c7b1
      try clear c9
      try clear c9b0
      try clear c12
      try clear c12b0
      obtain ⟨kq, x49_7, rfl, HA, HJ7, ⟨mc7, rfl⟩⟩ := hcut
      cases kq with
      | zero => exact absurd HA.out (by simp [stilemanlaw02_DiffApart.j0])
      | succ kj7 =>
        have H := HA.out
        clear HA
        simp only [stilemanlaw02_DiffApart.j0] at H
        by_cases c15 : x49_7 = true
        · subst c15
          have H1 : (some false) = some r := by rw [if_pos rfl] at H; exact H
          clear H
          have H := H1
          clear H1
          obtain rfl := Option.some.inj H
          go_wp2
          go_ret
          exact ⟨by first | rfl | (simp; done) | (simp [*]; done), by repeat (first | exact Drawn0.refl _ | apply Drawn0.step)⟩
        · replace c15 := Bool.eq_false_iff.mpr c15
          subst c15
          have H1 : (stilemanlaw02_DiffApart.l0 kj7 a0 (Int.tmod (wrap64 (a2)) 25) a0 0) = some r := by rw [if_neg (show ¬ (false = true) by decide)] at H; exact H
          clear H
          have H := H1
          clear H1
          have H' := Aside0.mk H
          clear H
          go_wp2
          go_loopg [12, 13] kj7 (fun kq v12 v13 w' => ∃ (x12_2 : Int) (x13_2 : Int), v12 = .int .u32 x12_2 ∧ v13 = .int .i64 x13_2 ∧ Aside0 (stilemanlaw02_DiffApart.l0 kq a0 (Int.tmod (wrap64 (a2)) 25) x12_2 x13_2 = some r) ∧ Aside0 (kq ≤ kj7) ∧ Drawn0 w w')
          case atStart => exact ⟨(a0), (0), (by first | rfl | (simp; done) | (simp [*]; done)), (by first | rfl | (simp; done) | (simp [*]; done)), H', ⟨Nat.le_refl _⟩, by repeat (first | exact Drawn0.refl _ | apply Drawn0.step)⟩
          case round =>
            clear H'
            try clear c1
            try clear p2
            try clear c6
            try clear p6
            try clear c7
            try clear c7b0
            try clear c7b1
            try clear c9
            try clear c9b0
            try clear c12
            try clear c12b0
            try clear c15
            try clear p2
            try clear p6
            obtain ⟨x12_2, x13_2, rfl, rfl, HA, HK2, ⟨m2, rfl⟩⟩ := hrel
            cases gk with
            | zero => exact absurd HA.out (by simp [stilemanlaw02_DiffApart.l0])
            | succ k2 =>
              have H := HA.out
              clear HA
              simp only [stilemanlaw02_DiffApart.l0] at H
              by_cases c16 : x13_2 < 256
              · rw [if_pos c16] at H
                have c16b0 : decide (x13_2 < 256) = true := decide_eq_true c16
                clear c16
                replace H := Option.bind_eq_some_iff.mp H
                obtain ⟨t117, A170, H⟩ := H
                replace H : ((diff_Get.f ((x12_2 + t117) % 4294967296) (Int.tmod (wrap64 (a2)) 25) 8).bind fun t118 => ((diff_Get.f x12_2 (Int.tmod (wrap64 (a2)) 25) 8).bind fun t119 => (if t118 = (Go.bits .and .u32 ((t119 + 1) % 4294967296) 255) then (stilemanlaw02_DiffApart.l0 k2 a0 (Int.tmod (wrap64 (a2)) 25) ((x12_2 + t117) % 4294967296) (wrap64 (x13_2 + 1))) else (some false)))) = some r := H
                have A17 := Aside0.mk A170
                clear A170
                replace H := Option.bind_eq_some_iff.mp H
                obtain ⟨t118, A180, H⟩ := H
                replace H : ((diff_Get.f x12_2 (Int.tmod (wrap64 (a2)) 25) 8).bind fun t119 => (if t118 = (Go.bits .and .u32 ((t119 + 1) % 4294967296) 255) then (stilemanlaw02_DiffApart.l0 k2 a0 (Int.tmod (wrap64 (a2)) 25) ((x12_2 + t117) % 4294967296) (wrap64 (x13_2 + 1))) else (some false))) = some r := H
                have A18 := Aside0.mk A180
                clear A180
                replace H := Option.bind_eq_some_iff.mp H
                obtain ⟨t119, A190, H⟩ := H
                replace H : (if t118 = (Go.bits .and .u32 ((t119 + 1) % 4294967296) 255) then (stilemanlaw02_DiffApart.l0 k2 a0 (Int.tmod (wrap64 (a2)) 25) ((x12_2 + t117) % 4294967296) (wrap64 (x13_2 + 1))) else (some false)) = some r := H
                have A19 := Aside0.mk A190
                clear A190
                by_cases c20 : t118 = (Go.bits .and .u32 ((t119 + 1) % 4294967296) 255)
                · rw [if_pos c20] at H
                  have c20b0 : (t118 == (Go.bits .and .u32 ((t119 + 1) % 4294967296) 255)) = true := beq_iff_eq.mpr c20
                  have c20b1 : (t118 != (Go.bits .and .u32 ((t119 + 1) % 4294967296) 255)) = false := bne_eq_false_iff_eq.mpr c20
                  clear c20
                  have H' := Aside0.mk H
                  clear H
                  go_wp2_with (first | ((with_reducible refine gate_callee (f := 19) rfl ?_); refine goesL_ (some 58) rfl rfl Try.func19 (by kernel_rfl) rfl #[.int .u32 x12_2, .int .i64 (Int.tmod (wrap64 (a2)) 25), .int .i64 8] rfl (by (try simp only [List.map_toArray, List.map_cons, List.map_nil]); first | done | rfl | (simp only [List.length_drop, List.length_take]; rfl)) ?_; (with_reducible refine (diff_Bump.calls x12_2 (Int.tmod (wrap64 (a2)) 25) 8 t117 _ A17.out).mono ?_); rintro e w' ⟨rfl, ⟨nd, rfl⟩⟩; refine ⟨_, rfl, ?_⟩) | ((with_reducible refine gate_callee (f := 15) rfl ?_); refine goesL_ (some 62) rfl rfl Try.func15 (by kernel_rfl) rfl #[.int .u32 ((x12_2 + t117) % 4294967296), .int .i64 (Int.tmod (wrap64 (a2)) 25), .int .i64 8] rfl (by (try simp only [List.map_toArray, List.map_cons, List.map_nil]); first | done | rfl | (simp only [List.length_drop, List.length_take]; rfl)) ?_; (with_reducible refine (diff_Get.calls ((x12_2 + t117) % 4294967296) (Int.tmod (wrap64 (a2)) 25) 8 t118 _ A18.out).mono ?_); rintro e w' ⟨rfl, ⟨nd, rfl⟩⟩; refine ⟨_, rfl, ?_⟩) | ((with_reducible refine gate_callee (f := 15) rfl ?_); refine goesL_ (some 65) rfl rfl Try.func15 (by kernel_rfl) rfl #[.int .u32 x12_2, .int .i64 (Int.tmod (wrap64 (a2)) 25), .int .i64 8] rfl (by (try simp only [List.map_toArray, List.map_cons, List.map_nil]); first | done | rfl | (simp only [List.length_drop, List.length_take]; rfl)) ?_; (with_reducible refine (diff_Get.calls x12_2 (Int.tmod (wrap64 (a2)) 25) 8 t119 _ A19.out).mono ?_); rintro e w' ⟨rfl, ⟨nd, rfl⟩⟩; refine ⟨_, rfl, ?_⟩))
                  go_roundg k2
                  case measure => have := HJ7.out; have := HK2.out; omega
                  case rel => exact ⟨((x12_2 + t117) % 4294967296), (wrap64 (x13_2 + 1)), (by first | rfl | (simp; done) | (simp [*]; done)), (by first | rfl | (simp; done) | (simp [*]; done)), H', ⟨by have := HJ7.out; have := HK2.out; omega⟩, by repeat (first | exact Drawn0.refl _ | apply Drawn0.step)⟩
                · rw [if_neg c20] at H
                  have c20b0 : (t118 == (Go.bits .and .u32 ((t119 + 1) % 4294967296) 255)) = false := beq_eq_false_iff_ne.mpr c20
                  have c20b1 : (t118 != (Go.bits .and .u32 ((t119 + 1) % 4294967296) 255)) = true := bne_iff_ne.mpr c20
                  obtain rfl := Option.some.inj H
                  go_wp2_with (first | ((with_reducible refine gate_callee (f := 19) rfl ?_); refine goesL_ (some 58) rfl rfl Try.func19 (by kernel_rfl) rfl #[.int .u32 x12_2, .int .i64 (Int.tmod (wrap64 (a2)) 25), .int .i64 8] rfl (by (try simp only [List.map_toArray, List.map_cons, List.map_nil]); first | done | rfl | (simp only [List.length_drop, List.length_take]; rfl)) ?_; (with_reducible refine (diff_Bump.calls x12_2 (Int.tmod (wrap64 (a2)) 25) 8 t117 _ A17.out).mono ?_); rintro e w' ⟨rfl, ⟨nd, rfl⟩⟩; refine ⟨_, rfl, ?_⟩) | ((with_reducible refine gate_callee (f := 15) rfl ?_); refine goesL_ (some 62) rfl rfl Try.func15 (by kernel_rfl) rfl #[.int .u32 ((x12_2 + t117) % 4294967296), .int .i64 (Int.tmod (wrap64 (a2)) 25), .int .i64 8] rfl (by (try simp only [List.map_toArray, List.map_cons, List.map_nil]); first | done | rfl | (simp only [List.length_drop, List.length_take]; rfl)) ?_; (with_reducible refine (diff_Get.calls ((x12_2 + t117) % 4294967296) (Int.tmod (wrap64 (a2)) 25) 8 t118 _ A18.out).mono ?_); rintro e w' ⟨rfl, ⟨nd, rfl⟩⟩; refine ⟨_, rfl, ?_⟩) | ((with_reducible refine gate_callee (f := 15) rfl ?_); refine goesL_ (some 65) rfl rfl Try.func15 (by kernel_rfl) rfl #[.int .u32 x12_2, .int .i64 (Int.tmod (wrap64 (a2)) 25), .int .i64 8] rfl (by (try simp only [List.map_toArray, List.map_cons, List.map_nil]); first | done | rfl | (simp only [List.length_drop, List.length_take]; rfl)) ?_; (with_reducible refine (diff_Get.calls x12_2 (Int.tmod (wrap64 (a2)) 25) 8 t119 _ A19.out).mono ?_); rintro e w' ⟨rfl, ⟨nd, rfl⟩⟩; refine ⟨_, rfl, ?_⟩))
                  go_ret
                  exact ⟨by first | rfl | (simp; done) | (simp [*]; done), by repeat (first | exact Drawn0.refl _ | apply Drawn0.step)⟩
              · rw [if_neg c16] at H
                have c16b0 : decide (x13_2 < 256) = false := decide_eq_false c16
                clear c16
                by_cases c21 : x12_2 = a0
                · rw [if_pos c21] at H
                  have c21b0 : (x12_2 == a0) = true := beq_iff_eq.mpr c21
                  have c21b1 : (x12_2 != a0) = false := bne_eq_false_iff_eq.mpr c21
                  clear c21
                  replace H := Option.bind_eq_some_iff.mp H
                  obtain ⟨t116, A220, H⟩ := H
                  replace H : (some t116) = some r := H
                  have A22 := Aside0.mk A220
                  clear A220
                  obtain rfl := Option.some.inj H
                  go_wp2_with (first | (go_at_call 14; (with_reducible refine (stilemanlaw02_awake.calls  t116 _ A22.out).mono ?_); rintro e w' ⟨rfl, ⟨nd, rfl⟩⟩))
                  go_ret
                  exact ⟨by first | rfl | (simp; done) | (simp [*]; done), by repeat (first | exact Drawn0.refl _ | apply Drawn0.step)⟩
                · rw [if_neg c21] at H
                  have c21b0 : (x12_2 == a0) = false := beq_eq_false_iff_ne.mpr c21
                  have c21b1 : (x12_2 != a0) = true := bne_iff_ne.mpr c21
                  obtain rfl := Option.some.inj H
                  go_wp2
                  go_ret
                  exact ⟨by first | rfl | (simp; done) | (simp [*]; done), by repeat (first | exact Drawn0.refl _ | apply Drawn0.step)⟩
  · rw [if_neg c7] at H
    have c7b0 : (t111 == (Go.bits .and .u32 a1 255)) = false := beq_eq_false_iff_ne.mpr c7
    have c7b1 : (t111 != (Go.bits .and .u32 a1 255)) = true := bne_iff_ne.mpr c7
    obtain rfl := Option.some.inj H
    go_enter Try.func6, Try.ntmps6
    go_wp2_with (first | ((with_reducible refine gate_callee (f := 17) rfl ?_); refine goesL_ (some 24) rfl rfl Try.func17 (by kernel_rfl) rfl #[.int .u32 a0, .int .i64 (Int.tmod (wrap64 (a2)) 25), .int .i64 8, .int .u32 a1] rfl (by (try simp only [List.map_toArray, List.map_cons, List.map_nil]); first | done | rfl | (simp only [List.length_drop, List.length_take]; rfl)) ?_; (with_reducible refine (diff_Put.calls a0 (Int.tmod (wrap64 (a2)) 25) 8 a1 t110 _ A5.out).mono ?_); rintro e w' ⟨rfl, ⟨nd, rfl⟩⟩; refine ⟨_, rfl, ?_⟩) | ((with_reducible refine gate_callee (f := 15) rfl ?_); refine goesL_ (some 27) rfl rfl Try.func15 (by kernel_rfl) rfl #[.int .u32 t110, .int .i64 (Int.tmod (wrap64 (a2)) 25), .int .i64 8] rfl (by (try simp only [List.map_toArray, List.map_cons, List.map_nil]); first | done | rfl | (simp only [List.length_drop, List.length_take]; rfl)) ?_; (with_reducible refine (diff_Get.calls t110 (Int.tmod (wrap64 (a2)) 25) 8 t111 _ A6.out).mono ?_); rintro e w' ⟨rfl, ⟨nd, rfl⟩⟩; refine ⟨_, rfl, ?_⟩))
    go_ret
    exact ⟨by first | rfl | (simp; done) | (simp [*]; done), by repeat (first | exact Drawn0.refl _ | apply Drawn0.step)⟩

/-- THE ONE PURE STATEMENT of stilemanlaw02_DiffApart: yours. -/
def stilemanlaw02_DiffApart.Pure : Prop := ∀ (a0 : Int) (a1 : Int) (a2 : Int) (a3 : Int), (Lit.int .u32 a0).wf = true → (Lit.int .u32 a1).wf = true → (Lit.int .u8 a2).wf = true → (Lit.int .u8 a3).wf = true → ∃ k, stilemanlaw02_DiffApart.f k a0 a1 a2 a3 = some true
theorem stilemanlaw02_DiffApart.walk (P : stilemanlaw02_DiffApart.Pure) (a0 : Int) (a1 : Int) (a2 : Int) (a3 : Int) (w : World) (w0 : (Lit.int .u32 a0).wf = true) (w1 : (Lit.int .u32 a1).wf = true) (w2 : (Lit.int .u8 a2).wf = true) (w3 : (Lit.int .u8 a3).wf = true) :
    Calls Try.prog 6 #[.int .u32 a0, .int .u32 a1, .int .u8 a2, .int .u8 a3] w fun e w' => e = .returned (.bool true) ∧ Below w.heap.size w w' := by
  obtain ⟨k, h⟩ := P a0 a1 a2 a3 w0 w1 w2 w3
  refine (stilemanlaw02_DiffApart.calls k a0 a1 a2 a3 true w h).mono ?_
  rintro e w' ⟨rfl, hd⟩
  exact ⟨rfl, hd.below⟩

end Go.Proofs.Ytjlpaefpilhngaa.PDiffApart
