/- Package diff: fields of eight bits. Written by gendiff8.py. -/
import Derived.Test.YtmbbcgkfankiaaaZBits
import Derived.Test.YtmbbcgkfankiaaaZPlace
set_option linter.unusedVariables false
set_option linter.unusedSimpArgs false
namespace Go.Proofs.Ytmbbcgkfankiaaa.Z
open Go.RowKit ZB

theorem diff_field0 (w : World) : Calls Try.prog 87 #[.int .i64 0, .int .i64 8] w fun e w' => e = .returned (.bool true) ∧ w = w' := by
  go_enter Try.func87, Try.ntmps87
  go_wp2
  go_ret
  exact ⟨rfl, rfl⟩
theorem diff_mask0 (w : World) : Calls Try.prog 88 #[.int .i64 0, .int .i64 8] w fun e w' => e = .returned (.int .u32 255) ∧ w = w' := by
  go_enter Try.func88, Try.ntmps88
  go_wp2
  go_ret
  exact ⟨rfl, rfl⟩
theorem and8_0 (v : Int) (hv : 0 ≤ v ∧ v < 4294967296) : Go.bits .and .u32 v 255 = v / 1 % 256 * 1 := by
  obtain ⟨n, rfl⟩ : ∃ n : Nat, v = n := ⟨v.toNat, by omega⟩
  have h := bits_and n 255 (by omega) (by decide)
  have h2 : n &&& 255 = n / 1 % 256 * 1 := and_mask n 0 8
  rw [h2] at h
  refine Eq.trans h ?_
  omega

theorem diff_get0 (v : Int) (w : World) (hv : 0 ≤ v ∧ v < 4294967296) : Calls Try.prog 52 #[.int .u32 v, .int .i64 0, .int .i64 8] w fun e w' => e = .returned (.int .u32 (v / 1 % 256)) ∧ w = w' := by
  have ha := and8_0 v hv
  have HA := Lib.hid ha
  clear ha
  go_enter Try.func52, Try.ntmps52
  go_wp2_with fail
  refine (diff_field0 _).mono ?_
  rintro e w1 ⟨rfl, rfl⟩
  go_wp2_with fail
  refine (diff_mask0 _).mono ?_
  rintro e w2 ⟨rfl, rfl⟩
  go_wp2_with fail
  go_ret
  refine ⟨?_, rfl⟩
  show Ending.returned (Value.int .u32 _) = Ending.returned (Value.int .u32 _)
  rw [HA.out]
  congr 2
  omega

theorem diff_field8 (w : World) : Calls Try.prog 87 #[.int .i64 8, .int .i64 8] w fun e w' => e = .returned (.bool true) ∧ w = w' := by
  go_enter Try.func87, Try.ntmps87
  go_wp2
  go_ret
  exact ⟨rfl, rfl⟩
theorem diff_mask8 (w : World) : Calls Try.prog 88 #[.int .i64 8, .int .i64 8] w fun e w' => e = .returned (.int .u32 65280) ∧ w = w' := by
  go_enter Try.func88, Try.ntmps88
  go_wp2
  go_ret
  exact ⟨rfl, rfl⟩
theorem and8_8 (v : Int) (hv : 0 ≤ v ∧ v < 4294967296) : Go.bits .and .u32 v 65280 = v / 256 % 256 * 256 := by
  obtain ⟨n, rfl⟩ : ∃ n : Nat, v = n := ⟨v.toNat, by omega⟩
  have h := bits_and n 65280 (by omega) (by decide)
  have h2 : n &&& 65280 = n / 256 % 256 * 256 := and_mask n 8 8
  rw [h2] at h
  refine Eq.trans h ?_
  omega

theorem diff_get8 (v : Int) (w : World) (hv : 0 ≤ v ∧ v < 4294967296) : Calls Try.prog 52 #[.int .u32 v, .int .i64 8, .int .i64 8] w fun e w' => e = .returned (.int .u32 (v / 256 % 256)) ∧ w = w' := by
  have ha := and8_8 v hv
  have HA := Lib.hid ha
  clear ha
  go_enter Try.func52, Try.ntmps52
  go_wp2_with fail
  refine (diff_field8 _).mono ?_
  rintro e w1 ⟨rfl, rfl⟩
  go_wp2_with fail
  refine (diff_mask8 _).mono ?_
  rintro e w2 ⟨rfl, rfl⟩
  go_wp2_with fail
  go_ret
  refine ⟨?_, rfl⟩
  show Ending.returned (Value.int .u32 _) = Ending.returned (Value.int .u32 _)
  rw [HA.out]
  congr 2
  omega

theorem diff_field16 (w : World) : Calls Try.prog 87 #[.int .i64 16, .int .i64 8] w fun e w' => e = .returned (.bool true) ∧ w = w' := by
  go_enter Try.func87, Try.ntmps87
  go_wp2
  go_ret
  exact ⟨rfl, rfl⟩
theorem diff_mask16 (w : World) : Calls Try.prog 88 #[.int .i64 16, .int .i64 8] w fun e w' => e = .returned (.int .u32 16711680) ∧ w = w' := by
  go_enter Try.func88, Try.ntmps88
  go_wp2
  go_ret
  exact ⟨rfl, rfl⟩
theorem and8_16 (v : Int) (hv : 0 ≤ v ∧ v < 4294967296) : Go.bits .and .u32 v 16711680 = v / 65536 % 256 * 65536 := by
  obtain ⟨n, rfl⟩ : ∃ n : Nat, v = n := ⟨v.toNat, by omega⟩
  have h := bits_and n 16711680 (by omega) (by decide)
  have h2 : n &&& 16711680 = n / 65536 % 256 * 65536 := and_mask n 16 8
  rw [h2] at h
  refine Eq.trans h ?_
  omega

theorem diff_get16 (v : Int) (w : World) (hv : 0 ≤ v ∧ v < 4294967296) : Calls Try.prog 52 #[.int .u32 v, .int .i64 16, .int .i64 8] w fun e w' => e = .returned (.int .u32 (v / 65536 % 256)) ∧ w = w' := by
  have ha := and8_16 v hv
  have HA := Lib.hid ha
  clear ha
  go_enter Try.func52, Try.ntmps52
  go_wp2_with fail
  refine (diff_field16 _).mono ?_
  rintro e w1 ⟨rfl, rfl⟩
  go_wp2_with fail
  refine (diff_mask16 _).mono ?_
  rintro e w2 ⟨rfl, rfl⟩
  go_wp2_with fail
  go_ret
  refine ⟨?_, rfl⟩
  show Ending.returned (Value.int .u32 _) = Ending.returned (Value.int .u32 _)
  rw [HA.out]
  congr 2
  omega

/-- What makes a field of a word one more. -/
def bump8 (v : Int) : Int := ((v / 256 % 256 + 1) % 256 * 256 - v / 256 % 256 * 256) % 4294967296

theorem put8_val (v x : Int) (hv : 0 ≤ v ∧ v < 4294967296) (hx : 0 ≤ x ∧ x < 4294967296) : Go.bits .or .u32 (Go.bits .andNot .u32 v 65280) (Go.bits .and .u32 x 65280) = v - v / 256 % 256 * 256 + x / 256 % 256 * 256 := by
  obtain ⟨n, rfl⟩ : ∃ n : Nat, v = n := ⟨v.toNat, by omega⟩
  obtain ⟨m, rfl⟩ : ∃ m : Nat, x = m := ⟨x.toNat, by omega⟩
  have h := bits_put n m 65280 (by omega) (by omega) (by decide)
  have h2 : n &&& 65280 = n / 256 % 256 * 256 := and_mask n 8 8
  have h3 : m &&& 65280 = m / 256 % 256 * 256 := and_mask m 8 8
  rw [h2, h3] at h
  refine Eq.trans h ?_
  omega

theorem diff_put8 (v x : Int) (w : World) (hv : 0 ≤ v ∧ v < 4294967296) (hx : 0 ≤ x ∧ x ≤ 256) : Calls Try.prog 127 #[.int .u32 v, .int .i64 8, .int .i64 8, .int .u32 x] w fun e w' => e = .returned (.int .u32 (v - v / 256 % 256 * 256 + x % 256 * 256)) ∧ w = w' := by
  have ha := put8_val v (x * 256) hv (by omega)
  have HA := Lib.hid ha
  clear ha
  go_enter Try.func127, Try.ntmps127
  go_wp2_with fail
  refine (diff_field8 _).mono ?_
  rintro e w1 ⟨rfl, rfl⟩
  go_wp2_with fail
  refine (diff_mask8 _).mono ?_
  rintro e w2 ⟨rfl, rfl⟩
  go_wp2_with fail
  go_ret
  refine ⟨?_, rfl⟩
  show Ending.returned (Value.int .u32 _) = Ending.returned (Value.int .u32 _)
  rw [HA.out]
  congr 2
  omega

theorem diff_bump8 (v : Int) (w : World) (hv : 0 ≤ v ∧ v < 4294967296) : Calls Try.prog 117 #[.int .u32 v, .int .i64 8, .int .i64 8] w fun e w' => e = .returned (.int .u32 (bump8 v)) ∧ w = w' := by
  have hg := fun W => diff_get8 v W hv
  have hb : 0 ≤ v / 256 % 256 ∧ v / 256 % 256 < 256 := by omega
  have hp := fun W => diff_put8 v (v / 256 % 256 + 1) W hv (by omega)
  unfold bump8
  generalize hq : v / 256 % 256 = q at hg hb hp
  have HQ := Lib.hid hq
  have HG := Lib.hid hg
  have HP := Lib.hid hp
  clear hq hg hp
  go_enter Try.func117, Try.ntmps117
  go_wp2_with fail
  refine (diff_field8 _).mono ?_
  rintro e w1 ⟨rfl, rfl⟩
  go_wp2_with fail
  refine (HG.out _).mono ?_
  rintro e w2 ⟨rfl, rfl⟩
  go_wp2_with fail
  refine (HP.out _).mono ?_
  rintro e w3 ⟨rfl, rfl⟩
  go_wp2_with fail
  go_ret
  refine ⟨?_, rfl⟩
  show Ending.returned (Value.int .u32 _) = Ending.returned (Value.int .u32 _)
  congr 2
  rw [← HQ.out]
  omega

end Go.Proofs.Ytmbbcgkfankiaaa.Z
